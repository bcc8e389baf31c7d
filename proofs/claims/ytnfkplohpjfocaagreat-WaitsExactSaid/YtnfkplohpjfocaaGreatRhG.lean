/-
  The contracts of the reference's Cancel and Release.
-/
import Derived.Test.YtnfkplohpjfocaaGreatRhD
set_option linter.unusedVariables false
set_option linter.unusedSimpArgs false
namespace Go.Proofs.YtnfkplohpjfocaaGreat
open Go.RowKit
set_option maxHeartbeats 8000000 in
set_option maxRecDepth 100000 in
theorem rf_cancel (w0 : World) (vh vw : Value) (hs ws : List G) (tx : Int) (h1 : GsAt w0 vh hs) (h2 : GsAt w0 vw ws) (hb1 : hs.length ≤ 1000000) (hb2 : ws.length ≤ 1000000) : Calls Tryz.prog 19 #[.agg #[vh, vw], .int .i64 tx] w0 (TbK vh vw hs ws (cancelF tx hs ws) w0) := by
  have HGh := Lib.hid h1
  have HBh := Lib.hid hb1
  obtain ⟨aoh, cph, rfl, hch1, hch2, hath⟩ := h1.get
  obtain ⟨nh, hnh⟩ : ∃ n, n = hs.length := ⟨_, rfl⟩
  rw [← hnh] at HGh hch1 hath hb1 ⊢
  have HNh := Lib.hid hnh
  have HATh := Lib.hid hath
  clear hnh hath h1
  have HGw := Lib.hid h2
  have HBw := Lib.hid hb2
  obtain ⟨aow, cpw, rfl, hcw1, hcw2, hatw⟩ := h2.get
  obtain ⟨nw, hnw⟩ : ∃ n, n = ws.length := ⟨_, rfl⟩
  rw [← hnw] at HGw hcw1 hatw hb2 ⊢
  have HNw := Lib.hid hnw
  have HATw := Lib.hid hatw
  clear hnw hatw h2
  have HS : Hid (St none default w0 w0 []) := St.start w0
  go_enter Tryz.func19, Tryz.ntmps19
  go_wp2_with (first | (refine sx_box HS rfl 25 (.tmp 0) rfl [.slice aoh nh cph, .slice aow nw cpw] rfl ?_; clear HS; intro w b2 HS) | (refine sx_alloc HS rfl 25 rfl _ zr25 ?_; clear HS; intro w b4 HS) | (refine sx_loads HS (by rfl) 25 _ rfl 1 _ _ _ rfl 0 rfl 2 sh25 [.slice aoh nh cph, .slice aow nw cpw] rfl ⟨rfl, rfl, trivial⟩ ?_))
  replace HS : Hid (St none default w0 w [(b4, 25, [.slice none 0 0, .slice none 0 0]), (b2, 25, [.slice aoh nh cph, .slice aow nw cpw])]) := HS
  refine (rf_valid w _ _ hs ws (HGh.out.ext HS.out.isExt) (HGw.out.ext HS.out.isExt) HBh.out HBw.out).mono ?_
  rintro e w ⟨he, hx⟩
  replace HS := Lib.hid (HS.out.ext hx)
  clear hx
  rw [valid_same] at he
  cases hval : validT hs ws with
  | false =>
    rw [hval] at he
    subst he
    have HF : Hid (cancelF tx hs ws = (hs, ws)) := Lib.hid (by unfold cancelF withoutF; rw [hval]; rfl)
    clear hval
    go_wp2_with (first | (refine sx_loads HS (by rfl) 25 _ rfl 1 _ _ _ rfl 0 rfl 2 sh25 [.slice aoh nh cph, .slice aow nw cpw] rfl ⟨rfl, rfl, trivial⟩ ?_) | (refine sx_store_all HS (by rfl) 25 _ _ rfl rfl 0 _ _ _ rfl rfl [.slice aoh nh cph, .slice aow nw cpw] rfl 2 sh25 rfl rfl rfl ?_; clear HS; intro w HS))
    have hB : PBox w b4 25 [.slice aoh nh cph, .slice aow nw cpw] := HS.out.box (i := 0) rfl
    refine bodyPost_ret (results_c rfl rfl (run_load_cells sh25 rfl (fun j u hj => by rw [Nat.zero_add]; exact hB.cell hj))) rfl ?_
    exact ⟨_, _, [], rfl, HS.out.sub (List.nil_sublist _), by rw [HF.out]; exact Kp.refl, by rw [HF.out]; exact Kp.refl⟩
  | true =>
    rw [hval] at he
    subst he
    have HV := Lib.hid hval
    clear hval
    have HF : Hid (cancelF tx hs ws = settle hs (ws.filter fun x => !(x.tx == tx))) := Lib.hid (by have e := List.filter_eq_self.2 (fun (_ : G) (_ : _ ∈ hs) => (rfl : (true : Bool) = true)); unfold cancelF withoutF; rw [HV.out]; simp [e])
    have HT : Hid (TV hs (ws.filter fun x => !(x.tx == tx))) := Lib.hid (by have h := (TV.of HV.out).filter (fun _ => true) (fun x => !(x.tx == tx)); rw [List.filter_eq_self.2 (fun (_ : G) (_ : _ ∈ hs) => (rfl : (true : Bool) = true))] at h; simpa using h)
    have HLE : Hid (hs.length + (ws.filter fun x => !(x.tx == tx)).length ≤ 2000) := Lib.hid (by have h := validT_len HV.out; have h2 := List.length_filter_le (fun x : G => !(x.tx == tx)) ws; omega)
    have hvl := validT_len HV.out
    rw [← HNh.out, ← HNw.out] at hvl
    obtain ⟨R, hR⟩ : ∃ R, R = settle hs (ws.filter fun x => !(x.tx == tx)) := ⟨_, rfl⟩
    rw [← hR] at HF
    have HR := Lib.hid hR
    clear hR
    go_wp2_with fail
    refine hg_begin [(b2, 25, [.slice aoh nh cph, .slice aow nw cpw])] HS (by kernel_rfl) ?_
    clear HS; intro w HS
    refine hg_reg 0 (some 9) rfl rfl (by kernel_rfl) (by kernel_rfl) (by kernel_rfl) (fun _ _ _ _ h => h) HS (List.Sublist.cons _ (List.Sublist.refl _)) (.pointer (some ⟨b2, 0, none⟩)) rfl (fun _ => by go_simp) ?_
    try simp only [Act.put, List.setIfInBounds_toArray, List.set_cons_zero, List.set_cons_succ]
    refine hg_load 1 (some 10) rfl rfl (by kernel_rfl) (by kernel_rfl) (by kernel_rfl) (fun _ _ _ _ h => h) HS (List.Sublist.cons _ (List.Sublist.refl _)) rfl 23 _ rfl 0 _ _ _ rfl 0 rfl _ sh23 (.slice aoh nh cph) rfl ?_
    try simp only [Act.put, List.setIfInBounds_toArray, List.set_cons_zero, List.set_cons_succ]
    refine hg_reg 2 (some 11) rfl rfl (by kernel_rfl) (by kernel_rfl) (by kernel_rfl) (fun _ _ _ _ h => h) HS (List.Sublist.cons _ (List.Sublist.refl _)) (.pointer (some ⟨b2, 1, none⟩)) rfl (fun _ => by go_simp) ?_
    try simp only [Act.put, List.setIfInBounds_toArray, List.set_cons_zero, List.set_cons_succ]
    refine hg_load 3 (some 12) rfl rfl (by kernel_rfl) (by kernel_rfl) (by kernel_rfl) (fun _ _ _ _ h => h) HS (List.Sublist.cons _ (List.Sublist.refl _)) rfl 23 _ rfl 0 _ _ _ rfl 1 rfl _ sh23 (.slice aow nw cpw) rfl ?_
    try simp only [Act.put, List.setIfInBounds_toArray, List.set_cons_zero, List.set_cons_succ]
    refine hg_reg 4 (some 13) rfl rfl (by kernel_rfl) (by kernel_rfl) (by kernel_rfl) (fun _ _ _ _ h => h) HS (List.Sublist.cons _ (List.Sublist.refl _)) (.int .i64 tx) rfl (fun _ => by rfl) ?_
    try simp only [Act.put, List.setIfInBounds_toArray, List.set_cons_zero, List.set_cons_succ]
    refine hg_reg 5 (some 14) rfl rfl (by kernel_rfl) (by kernel_rfl) (by kernel_rfl) (fun _ _ _ _ h => h) HS (List.Sublist.cons _ (List.Sublist.refl _)) (.agg #[.int .i64 0, .int .i64 0]) rfl (fun _ => by go_simp) ?_
    try simp only [Act.put, List.setIfInBounds_toArray, List.set_cons_zero, List.set_cons_succ]
    refine hk_x1 6 (by kernel_rfl) ?_
    refine hg_callR 6 (some 15) rfl rfl rfl HS (List.Sublist.cons _ (List.Sublist.refl _)) 36 _ _ rfl Tryz.func36 (by kernel_rfl) rfl [.slice aow nw cpw, .int .i64 tx, .bool false, .agg #[.int .i64 0, .int .i64 0]] (fun v l => OwnRow 29 4 l v (ws.filter fun x => !(x.tx == tx)).length (gL (ws.filter fun x => !(x.tx == tx)))) ((rf_left w _ ws tx (HGw.out.ext HS.out.isExt) (by rw [← HNw.out]; omega)).mono (fun e w1 h => by obtain ⟨v, l, rfl, h1, h2⟩ := h; exact ⟨v, l, rfl, h2, HS.out.call h1⟩)) rfl ?_
    clear HS; intro v15 w l15 hr15 HS
    obtain ⟨a15, c15, rfl, -, -⟩ := hr15.form
    have HR15 := Lib.hid hr15
    clear hr15
    try simp only [Act.put, List.setIfInBounds_toArray, List.set_cons_zero, List.set_cons_succ]
    refine hg_reg 7 (some 16) rfl rfl (by kernel_rfl) (by kernel_rfl) (by kernel_rfl) (fun _ _ _ _ h => h) HS (List.Sublist.trans (List.Sublist.cons _ (List.Sublist.refl _)) (List.sublist_append_right l15 _)) (.agg #[.slice aoh nh cph, .slice a15 (ws.filter fun x => !(x.tx == tx)).length c15]) rfl (fun _ => by go_simp) ?_
    try simp only [Act.put, List.setIfInBounds_toArray, List.set_cons_zero, List.set_cons_succ]
    refine hk_x1 8 (by kernel_rfl) ?_
    refine hg_callT 8 (some 17) rfl rfl rfl 35 _ _ rfl Tryz.func35 (by kernel_rfl) rfl [.agg #[.slice aoh nh cph, .slice a15 (ws.filter fun x => !(x.tx == tx)).length c15]] (fun v w2 => ∃ (v1 v2 : Value) (lr : List (Nat × TypeId × List Value)), v = .agg #[v1, v2] ∧ St none default w0 w2 (lr ++ (l15 ++ [(b4, 25, [.slice none 0 0, .slice none 0 0]), (b2, 25, [.slice aoh nh cph, .slice aow nw cpw])])) ∧ Kp (.slice aoh nh cph) hs lr v1 R.1 ∧ Kp (.slice a15 (ws.filter fun x => !(x.tx == tx)).length c15) (ws.filter fun x => !(x.tx == tx)) lr v2 R.2) ((rf_settle w _ _ hs (ws.filter fun x => !(x.tx == tx)) (HGh.out.ext HS.out.isExt) (GsAt.own (lr := l15) HS.out (fun e he => by simp [he]) HR15.out) HLE.out HT.out).mono (fun e w1 h => by obtain ⟨v1, v2, lr, rfl, h1, h2, h3⟩ := h; exact ⟨_, rfl, v1, v2, lr, rfl, HS.out.call h1, by rw [HR.out]; exact h2, by rw [HR.out]; exact h3⟩)) (fun v w2 h => by obtain ⟨v1, v2, lr, _, h1, _⟩ := h; exact St.sub h1 (List.Sublist.trans (List.Sublist.trans (List.Sublist.cons _ (List.Sublist.refl _)) (List.sublist_append_right l15 _)) (List.sublist_append_right lr _))) rfl ?_
    clear HS; rintro _ w ⟨v1, v2, lr, rfl, hst, hk1, hk2⟩
    have HS := Lib.hid hst
    have HK1 := Lib.hid hk1
    have HK2 := Lib.hid hk2
    clear hst hk1 hk2
    have HO : Hid (v1.oneCell' = true ∧ v2.oneCell' = true) := Lib.hid ⟨HK1.out.one rfl, HK2.out.one HR15.out.one⟩
    replace HS : Hid (St none default w0 w ((b4, 25, [.slice none 0 0, .slice none 0 0]) :: (b2, 25, [.slice aoh nh cph, .slice aow nw cpw]) :: (lr ++ l15))) := Lib.hid (HS.out.perm (by simpa using (List.perm_append_comm (l₁ := [(b4, 25, [.slice none 0 0, .slice none 0 0]), (b2, 25, [.slice aoh nh cph, .slice aow nw cpw])]) (l₂ := lr ++ l15))))
    try simp only [Act.put, List.setIfInBounds_toArray, List.set_cons_zero, List.set_cons_succ]
    refine hk_x1 9 (by kernel_rfl) ?_
    refine hg_store_all 9 rfl rfl HS 25 _ _ rfl rfl 0 b4 25 [.slice none 0 0, .slice none 0 0] rfl rfl [v1, v2] rfl 2 sh25 rfl rfl (by simp [HO.out.1, HO.out.2]) (List.Sublist.cons _ (List.Sublist.cons_cons _ (List.nil_sublist _))) ?_
    clear HS; intro w HS
    try simp only [Act.put, List.setIfInBounds_toArray, List.set_cons_zero, List.set_cons_succ]
    refine hk_done (by kernel_rfl) ?_
    go_wp2_with fail
    have hB : PBox w b4 25 [v1, v2] := HS.out.box (i := 0) rfl
    refine bodyPost_ret (results_c rfl rfl (run_load_cells sh25 rfl (fun j u hj => by rw [Nat.zero_add]; exact hB.cell hj))) rfl ?_
    refine ⟨v1, v2, (lr ++ l15), rfl, (HS.out.drop 2), ?_, ?_⟩
    all_goals rw [HF.out]
    · exact HK1.out.mono (fun e he => List.mem_append_left _ he)
    · rcases HK2.out with ⟨e1, e2⟩ | h
      · rw [e1, e2]; exact .inr ⟨l15, fun e he => List.mem_append_right _ he, HR15.out⟩
      · exact .inr (h.mono (fun e he => List.mem_append_left _ he))
set_option maxHeartbeats 8000000 in
set_option maxRecDepth 100000 in
theorem rf_release (w0 : World) (vh vw : Value) (hs ws : List G) (tx : Int) (h1 : GsAt w0 vh hs) (h2 : GsAt w0 vw ws) (hb1 : hs.length ≤ 1000000) (hb2 : ws.length ≤ 1000000) : Calls Tryz.prog 18 #[.agg #[vh, vw], .int .i64 tx] w0 (TbK vh vw hs ws (releaseF tx hs ws) w0) := by
  have HGh := Lib.hid h1
  have HBh := Lib.hid hb1
  obtain ⟨aoh, cph, rfl, hch1, hch2, hath⟩ := h1.get
  obtain ⟨nh, hnh⟩ : ∃ n, n = hs.length := ⟨_, rfl⟩
  rw [← hnh] at HGh hch1 hath hb1 ⊢
  have HNh := Lib.hid hnh
  have HATh := Lib.hid hath
  clear hnh hath h1
  have HGw := Lib.hid h2
  have HBw := Lib.hid hb2
  obtain ⟨aow, cpw, rfl, hcw1, hcw2, hatw⟩ := h2.get
  obtain ⟨nw, hnw⟩ : ∃ n, n = ws.length := ⟨_, rfl⟩
  rw [← hnw] at HGw hcw1 hatw hb2 ⊢
  have HNw := Lib.hid hnw
  have HATw := Lib.hid hatw
  clear hnw hatw h2
  have HS : Hid (St none default w0 w0 []) := St.start w0
  go_enter Tryz.func18, Tryz.ntmps18
  go_wp2_with (first | (refine sx_box HS rfl 25 (.tmp 0) rfl [.slice aoh nh cph, .slice aow nw cpw] rfl ?_; clear HS; intro w b2 HS) | (refine sx_alloc HS rfl 25 rfl _ zr25 ?_; clear HS; intro w b4 HS) | (refine sx_loads HS (by rfl) 25 _ rfl 1 _ _ _ rfl 0 rfl 2 sh25 [.slice aoh nh cph, .slice aow nw cpw] rfl ⟨rfl, rfl, trivial⟩ ?_))
  replace HS : Hid (St none default w0 w [(b4, 25, [.slice none 0 0, .slice none 0 0]), (b2, 25, [.slice aoh nh cph, .slice aow nw cpw])]) := HS
  refine (rf_valid w _ _ hs ws (HGh.out.ext HS.out.isExt) (HGw.out.ext HS.out.isExt) HBh.out HBw.out).mono ?_
  rintro e w ⟨he, hx⟩
  replace HS := Lib.hid (HS.out.ext hx)
  clear hx
  rw [valid_same] at he
  cases hval : validT hs ws with
  | false =>
    rw [hval] at he
    subst he
    have HF : Hid (releaseF tx hs ws = (hs, ws)) := Lib.hid (by unfold releaseF withoutF; rw [hval]; rfl)
    clear hval
    go_wp2_with (first | (refine sx_loads HS (by rfl) 25 _ rfl 1 _ _ _ rfl 0 rfl 2 sh25 [.slice aoh nh cph, .slice aow nw cpw] rfl ⟨rfl, rfl, trivial⟩ ?_) | (refine sx_store_all HS (by rfl) 25 _ _ rfl rfl 0 _ _ _ rfl rfl [.slice aoh nh cph, .slice aow nw cpw] rfl 2 sh25 rfl rfl rfl ?_; clear HS; intro w HS))
    have hB : PBox w b4 25 [.slice aoh nh cph, .slice aow nw cpw] := HS.out.box (i := 0) rfl
    refine bodyPost_ret (results_c rfl rfl (run_load_cells sh25 rfl (fun j u hj => by rw [Nat.zero_add]; exact hB.cell hj))) rfl ?_
    exact ⟨_, _, [], rfl, HS.out.sub (List.nil_sublist _), by rw [HF.out]; exact Kp.refl, by rw [HF.out]; exact Kp.refl⟩
  | true =>
    rw [hval] at he
    subst he
    have HV := Lib.hid hval
    clear hval
    have HF : Hid (releaseF tx hs ws = settle (hs.filter fun x => !(x.tx == tx)) (ws.filter fun x => !(x.tx == tx))) := Lib.hid (by have e := List.filter_eq_self.2 (fun (_ : G) (_ : _ ∈ hs) => (rfl : (true : Bool) = true)); unfold releaseF withoutF; rw [HV.out]; simp [e])
    have HT : Hid (TV (hs.filter fun x => !(x.tx == tx)) (ws.filter fun x => !(x.tx == tx))) := Lib.hid (by have h := (TV.of HV.out).filter (fun x => !(x.tx == tx)) (fun x => !(x.tx == tx)); simpa using h)
    have HLE : Hid ((hs.filter fun x => !(x.tx == tx)).length + (ws.filter fun x => !(x.tx == tx)).length ≤ 2000) := Lib.hid (by have h := validT_len HV.out; have h2 := List.length_filter_le (fun x : G => !(x.tx == tx)) ws; have h3 := List.length_filter_le (fun x : G => !(x.tx == tx)) hs; omega)
    have hvl := validT_len HV.out
    rw [← HNh.out, ← HNw.out] at hvl
    obtain ⟨R, hR⟩ : ∃ R, R = settle (hs.filter fun x => !(x.tx == tx)) (ws.filter fun x => !(x.tx == tx)) := ⟨_, rfl⟩
    rw [← hR] at HF
    have HR := Lib.hid hR
    clear hR
    go_wp2_with fail
    refine hg_begin [(b2, 25, [.slice aoh nh cph, .slice aow nw cpw])] HS (by kernel_rfl) ?_
    clear HS; intro w HS
    refine hg_reg 0 (some 9) rfl rfl (by kernel_rfl) (by kernel_rfl) (by kernel_rfl) (fun _ _ _ _ h => h) HS (List.Sublist.cons _ (List.Sublist.refl _)) (.pointer (some ⟨b2, 0, none⟩)) rfl (fun _ => by go_simp) ?_
    try simp only [Act.put, List.setIfInBounds_toArray, List.set_cons_zero, List.set_cons_succ]
    refine hg_load 1 (some 10) rfl rfl (by kernel_rfl) (by kernel_rfl) (by kernel_rfl) (fun _ _ _ _ h => h) HS (List.Sublist.cons _ (List.Sublist.refl _)) rfl 23 _ rfl 0 _ _ _ rfl 0 rfl _ sh23 (.slice aoh nh cph) rfl ?_
    try simp only [Act.put, List.setIfInBounds_toArray, List.set_cons_zero, List.set_cons_succ]
    refine hg_reg 2 (some 11) rfl rfl (by kernel_rfl) (by kernel_rfl) (by kernel_rfl) (fun _ _ _ _ h => h) HS (List.Sublist.cons _ (List.Sublist.refl _)) (.int .i64 tx) rfl (fun _ => by rfl) ?_
    try simp only [Act.put, List.setIfInBounds_toArray, List.set_cons_zero, List.set_cons_succ]
    refine hg_reg 3 (some 12) rfl rfl (by kernel_rfl) (by kernel_rfl) (by kernel_rfl) (fun _ _ _ _ h => h) HS (List.Sublist.cons _ (List.Sublist.refl _)) (.agg #[.int .i64 0, .int .i64 0]) rfl (fun _ => by go_simp) ?_
    try simp only [Act.put, List.setIfInBounds_toArray, List.set_cons_zero, List.set_cons_succ]
    refine hg_reg 5 (some 14) rfl rfl (by kernel_rfl) (by kernel_rfl) (by kernel_rfl) (fun _ _ _ _ h => h) HS (List.Sublist.cons _ (List.Sublist.refl _)) (.pointer (some ⟨b2, 1, none⟩)) rfl (fun _ => by go_simp) ?_
    try simp only [Act.put, List.setIfInBounds_toArray, List.set_cons_zero, List.set_cons_succ]
    refine hg_load 6 (some 15) rfl rfl (by kernel_rfl) (by kernel_rfl) (by kernel_rfl) (fun _ _ _ _ h => h) HS (List.Sublist.cons _ (List.Sublist.refl _)) rfl 23 _ rfl 0 _ _ _ rfl 1 rfl _ sh23 (.slice aow nw cpw) rfl ?_
    try simp only [Act.put, List.setIfInBounds_toArray, List.set_cons_zero, List.set_cons_succ]
    refine hg_reg 7 (some 16) rfl rfl (by kernel_rfl) (by kernel_rfl) (by kernel_rfl) (fun _ _ _ _ h => h) HS (List.Sublist.cons _ (List.Sublist.refl _)) (.int .i64 tx) rfl (fun _ => by rfl) ?_
    try simp only [Act.put, List.setIfInBounds_toArray, List.set_cons_zero, List.set_cons_succ]
    refine hg_reg 8 (some 17) rfl rfl (by kernel_rfl) (by kernel_rfl) (by kernel_rfl) (fun _ _ _ _ h => h) HS (List.Sublist.cons _ (List.Sublist.refl _)) (.agg #[.int .i64 0, .int .i64 0]) rfl (fun _ => by go_simp) ?_
    try simp only [Act.put, List.setIfInBounds_toArray, List.set_cons_zero, List.set_cons_succ]
    refine hk_x1 4 (by kernel_rfl) ?_
    refine hg_callR 4 (some 13) rfl rfl rfl HS (List.Sublist.cons _ (List.Sublist.refl _)) 36 _ _ rfl Tryz.func36 (by kernel_rfl) rfl [.slice aoh nh cph, .int .i64 tx, .bool false, .agg #[.int .i64 0, .int .i64 0]] (fun v l => OwnRow 29 4 l v (hs.filter fun x => !(x.tx == tx)).length (gL (hs.filter fun x => !(x.tx == tx)))) ((rf_left w _ hs tx (HGh.out.ext HS.out.isExt) (by rw [← HNh.out]; omega)).mono (fun e w1 h => by obtain ⟨v, l, rfl, h1, h2⟩ := h; exact ⟨v, l, rfl, h2, HS.out.call h1⟩)) rfl ?_
    clear HS; intro v13 w l13 hr13 HS
    obtain ⟨a13, c13, rfl, -, -⟩ := hr13.form
    have HR13 := Lib.hid hr13
    clear hr13
    try simp only [Act.put, List.setIfInBounds_toArray, List.set_cons_zero, List.set_cons_succ]
    refine hk_x1 9 (by kernel_rfl) ?_
    refine hg_callR 9 (some 18) rfl rfl rfl HS (List.Sublist.trans (List.Sublist.cons _ (List.Sublist.refl _)) (List.sublist_append_right l13 _)) 36 _ _ rfl Tryz.func36 (by kernel_rfl) rfl [.slice aow nw cpw, .int .i64 tx, .bool false, .agg #[.int .i64 0, .int .i64 0]] (fun v l => OwnRow 29 4 l v (ws.filter fun x => !(x.tx == tx)).length (gL (ws.filter fun x => !(x.tx == tx)))) ((rf_left w _ ws tx (HGw.out.ext HS.out.isExt) (by rw [← HNw.out]; omega)).mono (fun e w1 h => by obtain ⟨v, l, rfl, h1, h2⟩ := h; exact ⟨v, l, rfl, h2, HS.out.call h1⟩)) rfl ?_
    clear HS; intro v18 w l18 hr18 HS
    obtain ⟨a18, c18, rfl, -, -⟩ := hr18.form
    have HR18 := Lib.hid hr18
    clear hr18
    try simp only [Act.put, List.setIfInBounds_toArray, List.set_cons_zero, List.set_cons_succ]
    refine hg_reg 10 (some 19) rfl rfl (by kernel_rfl) (by kernel_rfl) (by kernel_rfl) (fun _ _ _ _ h => h) HS (List.Sublist.trans (List.Sublist.trans (List.Sublist.cons _ (List.Sublist.refl _)) (List.sublist_append_right l13 _)) (List.sublist_append_right l18 _)) (.agg #[.slice a13 (hs.filter fun x => !(x.tx == tx)).length c13, .slice a18 (ws.filter fun x => !(x.tx == tx)).length c18]) rfl (fun _ => by go_simp) ?_
    try simp only [Act.put, List.setIfInBounds_toArray, List.set_cons_zero, List.set_cons_succ]
    refine hk_x1 11 (by kernel_rfl) ?_
    refine hg_callT 11 (some 20) rfl rfl rfl 35 _ _ rfl Tryz.func35 (by kernel_rfl) rfl [.agg #[.slice a13 (hs.filter fun x => !(x.tx == tx)).length c13, .slice a18 (ws.filter fun x => !(x.tx == tx)).length c18]] (fun v w2 => ∃ (v1 v2 : Value) (lr : List (Nat × TypeId × List Value)), v = .agg #[v1, v2] ∧ St none default w0 w2 (lr ++ (l18 ++ (l13 ++ [(b4, 25, [.slice none 0 0, .slice none 0 0]), (b2, 25, [.slice aoh nh cph, .slice aow nw cpw])]))) ∧ Kp (.slice a13 (hs.filter fun x => !(x.tx == tx)).length c13) (hs.filter fun x => !(x.tx == tx)) lr v1 R.1 ∧ Kp (.slice a18 (ws.filter fun x => !(x.tx == tx)).length c18) (ws.filter fun x => !(x.tx == tx)) lr v2 R.2) ((rf_settle w _ _ (hs.filter fun x => !(x.tx == tx)) (ws.filter fun x => !(x.tx == tx)) (GsAt.own (lr := l13) HS.out (fun e he => by simp [he]) HR13.out) (GsAt.own (lr := l18) HS.out (fun e he => by simp [he]) HR18.out) HLE.out HT.out).mono (fun e w1 h => by obtain ⟨v1, v2, lr, rfl, h1, h2, h3⟩ := h; exact ⟨_, rfl, v1, v2, lr, rfl, HS.out.call h1, by rw [HR.out]; exact h2, by rw [HR.out]; exact h3⟩)) (fun v w2 h => by obtain ⟨v1, v2, lr, _, h1, _⟩ := h; exact St.sub h1 (List.Sublist.trans (List.Sublist.trans (List.Sublist.trans (List.Sublist.cons _ (List.Sublist.refl _)) (List.sublist_append_right l13 _)) (List.sublist_append_right l18 _)) (List.sublist_append_right lr _))) rfl ?_
    clear HS; rintro _ w ⟨v1, v2, lr, rfl, hst, hk1, hk2⟩
    have HS := Lib.hid hst
    have HK1 := Lib.hid hk1
    have HK2 := Lib.hid hk2
    clear hst hk1 hk2
    have HO : Hid (v1.oneCell' = true ∧ v2.oneCell' = true) := Lib.hid ⟨HK1.out.one HR13.out.one, HK2.out.one HR18.out.one⟩
    replace HS : Hid (St none default w0 w ((b4, 25, [.slice none 0 0, .slice none 0 0]) :: (b2, 25, [.slice aoh nh cph, .slice aow nw cpw]) :: (lr ++ (l18 ++ l13)))) := Lib.hid (HS.out.perm (by simpa using (List.perm_append_comm (l₁ := [(b4, 25, [.slice none 0 0, .slice none 0 0]), (b2, 25, [.slice aoh nh cph, .slice aow nw cpw])]) (l₂ := lr ++ (l18 ++ l13)))))
    try simp only [Act.put, List.setIfInBounds_toArray, List.set_cons_zero, List.set_cons_succ]
    refine hk_x1 12 (by kernel_rfl) ?_
    refine hg_store_all 12 rfl rfl HS 25 _ _ rfl rfl 0 b4 25 [.slice none 0 0, .slice none 0 0] rfl rfl [v1, v2] rfl 2 sh25 rfl rfl (by simp [HO.out.1, HO.out.2]) (List.Sublist.cons _ (List.Sublist.cons_cons _ (List.nil_sublist _))) ?_
    clear HS; intro w HS
    try simp only [Act.put, List.setIfInBounds_toArray, List.set_cons_zero, List.set_cons_succ]
    refine hk_done (by kernel_rfl) ?_
    go_wp2_with fail
    have hB : PBox w b4 25 [v1, v2] := HS.out.box (i := 0) rfl
    refine bodyPost_ret (results_c rfl rfl (run_load_cells sh25 rfl (fun j u hj => by rw [Nat.zero_add]; exact hB.cell hj))) rfl ?_
    refine ⟨v1, v2, (lr ++ (l18 ++ l13)), rfl, (HS.out.drop 2), ?_, ?_⟩
    all_goals rw [HF.out]
    · rcases HK1.out with ⟨e1, e2⟩ | h
      · rw [e1, e2]; exact .inr ⟨l13, fun e he => by simp [he], HR13.out⟩
      · exact .inr (h.mono (fun e he => by simp [he]))
    · rcases HK2.out with ⟨e1, e2⟩ | h
      · rw [e1, e2]; exact .inr ⟨l18, fun e he => by simp [he], HR18.out⟩
      · exact .inr (h.mono (fun e he => by simp [he]))
end Go.Proofs.YtnfkplohpjfocaaGreat
