/-
  The contract of the reference's Request.
-/
import Derived.Test.YtnfkplohpjfocaaGreatRhD
import Derived.Test.YtnfkplohpjfocaaGreatRhE
set_option linter.unusedVariables false
set_option linter.unusedSimpArgs false
namespace Go.Proofs.YtnfkplohpjfocaaGreat
open Go.RowKit
def RqK (vh vw : Value) (hs ws : List G) (g : G) (w0 : World) (e : Ending) (w' : World) : Prop :=
  (reqF hs ws g = none ∧ reqE hs ws g ≠ 0 ∧ e = .returned (.tuple #[.agg #[.slice none 0 0, .slice none 0 0], .bool false, .int .i64 (reqE hs ws g)]) ∧ Ext w0 w') ∨
  (∃ (R : List G × List G) (b : Bool) (v1 v2 : Value) (lr : List (Nat × TypeId × List Value)), reqF hs ws g = some (R.1, R.2, b) ∧ reqE hs ws g = 0 ∧ e = .returned (.tuple #[.agg #[v1, v2], .bool b, .int .i64 0]) ∧ St none default w0 w' lr ∧ Kp vh hs lr v1 R.1 ∧ Kp vw ws lr v2 R.2)
theorem ins_tv {hs ws : List G} {g : G} (h : validT hs ws = true) (h2 : validG g = true) (h3 : ws.find? (fun x => x.tx == g.tx) = none) (h4 : ¬ g.mode ≤ modeF hs g) : TV hs (insW hs ws g) := by
  unfold insW
  refine TV.ins (p := ws.take (placeF hs ws g)) (s := ws.drop (placeF hs ws g)) ?_ h2 (by omega) ?_
  · rw [List.take_append_drop]; exact TV.of h
  · rw [List.take_append_drop]
    intro x hx
    have := List.find?_eq_none.1 h3 x hx
    simpa using this
section
variable {w0 w : World} {a b c d e : Nat × TypeId × List Value} {l t : List (Nat × TypeId × List Value)}
theorem St4A (h : Hid (St none default w0 w (l ++ (a :: b :: c :: d :: t)))) : Hid (St none default w0 w (a :: b :: c :: d :: (l ++ t))) := Lib.hid (h.out.perm (by simpa using List.perm_append_comm_assoc [a, b, c, d] l t))
theorem St4B (h : Hid (St none default w0 w (a :: b :: c :: d :: (l ++ t)))) : Hid (St none default w0 w (l ++ (a :: b :: c :: d :: t))) := Lib.hid (h.out.perm (by simpa using (List.perm_append_comm_assoc [a, b, c, d] l t).symm))
theorem St4C (h : Hid (St none default w0 w (e :: a :: b :: c :: d :: t))) : Hid (St none default w0 w (a :: b :: c :: d :: (t ++ [e]))) := Lib.hid (h.out.perm (by simpa using List.perm_append_singleton e (a :: b :: c :: d :: t)))
theorem St4D (h : Hid (St none default w0 w (e :: a :: b :: c :: d :: (l ++ t)))) : Hid (St none default w0 w (a :: b :: c :: d :: (l ++ (t ++ [e])))) := Lib.hid (h.out.perm (by simpa using List.perm_append_singleton e (a :: b :: c :: d :: (l ++ t))))
end
set_option maxHeartbeats 8000000 in
set_option maxRecDepth 100000 in
theorem rf_request (w0 : World) (vh vw : Value) (hs ws : List G) (g : G) (h1 : GsAt w0 vh hs) (h2 : GsAt w0 vw ws) (hb1 : hs.length ≤ 1000000) (hb2 : ws.length ≤ 1000000) : Calls Tryz.prog 20 #[.agg #[vh, vw], .agg g.arr] w0 (RqK vh vw hs ws g w0) := by
  have HGh := Lib.hid h1
  have HBh := Lib.hid hb1
  obtain ⟨aoh, cph, rfl, hch1, hch2, hath⟩ := h1.get
  obtain ⟨nh, hnh⟩ : ∃ n, n = hs.length := ⟨_, rfl⟩
  rw [← hnh] at HGh hch1 hath hb1 ⊢
  have HNh := Lib.hid hnh
  have HATh := Lib.hid hath
  clear hnh hath h1
  have HGw := Lib.hid h2
  have HBw := Lib.hid hb2
  obtain ⟨aow, cpw, rfl, hcw1, hcw2, hatw⟩ := h2.get
  obtain ⟨nw, hnw⟩ : ∃ n, n = ws.length := ⟨_, rfl⟩
  rw [← hnw] at HGw hcw1 hatw hb2 ⊢
  have HNw := Lib.hid hnw
  have HATw := Lib.hid hatw
  clear hnw hatw h2
  have HS : Hid (St none default w0 w0 []) := St.start w0
  go_enter Tryz.func20, Tryz.ntmps20
  go_wp2_with (first | (refine sx_box HS rfl 25 (.tmp 0) rfl [.slice aoh nh cph, .slice aow nw cpw] rfl ?_; clear HS; intro w b2 HS) | (refine sx_box HS rfl 29 (.tmp 1) rfl g.lst rfl ?_; clear HS; intro w b3 HS) | (refine sx_alloc HS rfl 25 rfl _ zr25 ?_; clear HS; intro w b4 HS) | (refine sx_loads HS (by rfl) 25 _ rfl 2 _ _ _ rfl 0 rfl 2 sh25 [.slice aoh nh cph, .slice aow nw cpw] rfl ⟨rfl, rfl, trivial⟩ ?_))
  replace HS : Hid (St none default w0 w [(b4, 25, [.slice none 0 0, .slice none 0 0]), (b3, 29, g.lst), (b2, 25, [.slice aoh nh cph, .slice aow nw cpw])]) := HS
  refine (rf_valid w _ _ hs ws (HGh.out.ext HS.out.isExt) (HGw.out.ext HS.out.isExt) HBh.out HBw.out).mono ?_
  rintro e w ⟨he, hx⟩
  replace HS := Lib.hid (HS.out.ext hx)
  clear hx
  rw [valid_same] at he
  cases hval : validT hs ws with
  | false =>
    rw [hval] at he
    subst he
    have HF := Lib.hid (req_bad1 (g := g) hval)
    go_wp2_with (first | (refine sx_store_all HS (by rfl) 25 _ _ rfl rfl 0 _ _ _ rfl rfl [.slice none 0 0, .slice none 0 0] rfl 2 sh25 rfl rfl rfl ?_; clear HS; intro w HS))
    have hB : PBox w b4 25 [.slice none 0 0, .slice none 0 0] := HS.out.box (i := 0) rfl
    refine bodyPost_ret (results_ctt rfl rfl (run_load_cells sh25 rfl (fun j u hj => by rw [Nat.zero_add]; exact hB.cell hj)) rfl rfl) rfl ?_
    refine .inl ⟨HF.out.1, by rw [HF.out.2]; decide, ?_, HS.out.isExt⟩
    rw [HF.out.2]
    rfl
  | true =>
    rw [hval] at he
    subst he
    have HV := Lib.hid hval
    clear hval
    go_wp2_with (first | (refine sx_load_all HS (by rfl) 29 _ rfl 1 _ _ _ rfl rfl 4 sh29 rfl ?_))
    refine (rf_grant g w).mono ?_
    rintro e w ⟨he, hx⟩
    replace HS := Lib.hid (HS.out.ext hx)
    clear hx
    cases hvg : validG g with
    | false =>
      rw [hvg] at he
      subst he
      have HF := Lib.hid (req_bad2 HV.out hvg)
      go_wp2_with (first | (refine sx_store_all HS (by rfl) 25 _ _ rfl rfl 0 _ _ _ rfl rfl [.slice none 0 0, .slice none 0 0] rfl 2 sh25 rfl rfl rfl ?_; clear HS; intro w HS))
      have hB : PBox w b4 25 [.slice none 0 0, .slice none 0 0] := HS.out.box (i := 0) rfl
      refine bodyPost_ret (results_ctt rfl rfl (run_load_cells sh25 rfl (fun j u hj => by rw [Nat.zero_add]; exact hB.cell hj)) rfl rfl) rfl ?_
      refine .inl ⟨HF.out.1, by rw [HF.out.2]; decide, ?_, HS.out.isExt⟩
      rw [HF.out.2]
      rfl
    | true =>
      rw [hvg] at he
      subst he
      have HVG := Lib.hid hvg
      clear hvg
      go_wp2_with (first | (refine sx_loads HS (by rfl) 25 _ rfl 2 _ _ _ rfl 0 rfl 2 sh25 [.slice aoh nh cph, .slice aow nw cpw] rfl ⟨rfl, rfl, trivial⟩ ?_) | (refine sx_load HS (by rfl) 3 _ rfl 1 _ _ _ rfl 0 rfl _ sh3 (.int .i64 g.tx) rfl ?_))
      refine (rf_waiting w _ _ hs ws g.tx (HGh.out.ext HS.out.isExt) (HGw.out.ext HS.out.isExt) HBh.out HBw.out).mono ?_
      rintro e w ⟨he, hx⟩
      replace HS := Lib.hid (HS.out.ext hx)
      clear hx
      rw [waitF_yes HV.out] at he
      cases hfd : ws.find? (fun x => x.tx == g.tx) with
      | some x =>
        rw [hfd] at he
        have he2 : e = .returned (.tuple #[.agg x.arr, .bool true]) := he
        clear he
        subst he2
        have HFD := Lib.hid hfd
        clear hfd
        have hq := neq_grant x g
        cases hsg : sameG x g with
        | false =>
          rw [hsg] at hq
          have HSG := Lib.hid hsg
          clear hsg
          have HF := Lib.hid (req_bad3 HV.out HVG.out HFD.out HSG.out)
          go_wp2_with (first | (refine sx_store_all HS (by rfl) 25 _ _ rfl rfl 1 _ _ _ rfl rfl [.slice none 0 0, .slice none 0 0] rfl 2 sh25 rfl rfl rfl ?_; clear HS; intro w HS) | (refine sx_alloc HS rfl 29 rfl _ zr29 ?_; clear HS; intro w b7 HS) | (refine sx_store_all HS (by rfl) 29 _ _ rfl rfl 0 _ _ _ rfl rfl x.lst rfl 4 sh29 rfl rfl rfl ?_; clear HS; intro w HS) | (refine sx_load_all HS (by rfl) 29 (.tmp 7) rfl 0 _ _ _ rfl rfl 4 sh29 rfl ?_) | (refine sx_load_all HS (by rfl) 29 _ rfl 2 _ _ _ rfl rfl 4 sh29 rfl ?_))
          have hB : PBox w b4 25 [.slice none 0 0, .slice none 0 0] := HS.out.box (i := 1) rfl
          refine bodyPost_ret (results_ctt rfl rfl (run_load_cells sh25 rfl (fun j u hj => by rw [Nat.zero_add]; exact hB.cell hj)) rfl rfl) rfl ?_
          refine .inl ⟨HF.out.1, by rw [HF.out.2]; decide, ?_, HS.out.isExt⟩
          rw [HF.out.2]
          rfl
        | true =>
          rw [hsg] at hq
          have HSG := Lib.hid hsg
          clear hsg
          have HF := Lib.hid (req_same HV.out HVG.out HFD.out HSG.out)
          go_wp2_with (first | (refine sx_loads HS (by rfl) 25 _ rfl 3 _ _ _ rfl 0 rfl 2 sh25 [.slice aoh nh cph, .slice aow nw cpw] rfl ⟨rfl, rfl, trivial⟩ ?_) | (refine sx_store_all HS (by rfl) 25 _ _ rfl rfl 1 _ _ _ rfl rfl [.slice aoh nh cph, .slice aow nw cpw] rfl 2 sh25 rfl rfl rfl ?_; clear HS; intro w HS) | (refine sx_alloc HS rfl 29 rfl _ zr29 ?_; clear HS; intro w b7 HS) | (refine sx_store_all HS (by rfl) 29 _ _ rfl rfl 0 _ _ _ rfl rfl x.lst rfl 4 sh29 rfl rfl rfl ?_; clear HS; intro w HS) | (refine sx_load_all HS (by rfl) 29 (.tmp 7) rfl 0 _ _ _ rfl rfl 4 sh29 rfl ?_) | (refine sx_load_all HS (by rfl) 29 _ rfl 2 _ _ _ rfl rfl 4 sh29 rfl ?_))
          have hB : PBox w b4 25 [.slice aoh nh cph, .slice aow nw cpw] := HS.out.box (i := 1) rfl
          refine bodyPost_ret (results_ctt rfl rfl (run_load_cells sh25 rfl (fun j u hj => by rw [Nat.zero_add]; exact hB.cell hj)) rfl rfl) rfl ?_
          exact .inr ⟨(hs, ws), false, _, _, [], HF.out.1, HF.out.2, rfl, HS.out.sub (List.nil_sublist _), Kp.refl, Kp.refl⟩
      | none =>
        rw [hfd] at he
        have he2 : e = .returned (.tuple #[.agg zeroG.arr, .bool false]) := he
        clear he
        subst he2
        have HFD := Lib.hid hfd
        clear hfd
        go_wp2_with (first | (refine sx_alloc HS rfl 29 rfl _ zr29 ?_; clear HS; intro w b7 HS) | (refine sx_store_all HS (by rfl) 29 _ _ rfl rfl 0 _ _ _ rfl rfl zeroG.lst rfl 4 sh29 rfl rfl rfl ?_; clear HS; intro w HS))
        replace HS : Hid (St none default w0 w [(b7, 29, zeroG.lst), (b4, 25, [.slice none 0 0, .slice none 0 0]), (b3, 29, g.lst), (b2, 25, [.slice aoh nh cph, .slice aow nw cpw])]) := HS
        obtain ⟨mg, hmg⟩ : ∃ m, m = modeF hs g := ⟨_, rfl⟩
        have HMG := Lib.hid hmg
        have HMK : Hid (modeF hs ⟨g.tx, g.page, g.slot, 0⟩ = mg) := Lib.hid (by rw [hmg]; exact modeF_key hs ⟨g.tx, g.page, g.slot, 0⟩ g rfl rfl rfl)
        clear hmg
        replace HS : Hid (St none default w0 w [(b7, 29, zeroG.lst), (b4, 25, [.slice none 0 0, .slice none 0 0]), (b3, 29, [.int .i64 g.tx, .int .i64 g.page, .int .i64 g.slot, .int .i64 g.mode]), (b2, 25, [.slice aoh nh cph, .slice aow nw cpw])]) := HS
        by_cases hm : g.mode ≤ mg
        · skip
          refine hg_begin [(b3, 29, [.int .i64 g.tx, .int .i64 g.page, .int .i64 g.slot, .int .i64 g.mode]), (b2, 25, [.slice aoh nh cph, .slice aow nw cpw])] HS (by kernel_rfl) ?_
          clear HS; intro w HS
          refine hg_loads 0 (some 34) rfl rfl (by kernel_rfl) (by kernel_rfl) (by kernel_rfl) (fun _ _ _ _ h => h) HS (List.Sublist.cons _ (List.Sublist.cons _ (List.Sublist.refl _))) rfl 25 _ rfl 1 _ _ _ rfl 0 rfl 2 sh25 [.slice aoh nh cph, .slice aow nw cpw] rfl ⟨rfl, rfl, trivial⟩ ?_
          try simp only [Act.put, List.setIfInBounds_toArray, List.set_cons_zero, List.set_cons_succ]
          refine hg_reg 1 (some 35) rfl rfl (by kernel_rfl) (by kernel_rfl) (by kernel_rfl) (fun _ _ _ _ h => h) HS (List.Sublist.cons _ (List.Sublist.cons _ (List.Sublist.refl _))) (.pointer (some ⟨b3, 0, none⟩)) rfl (fun _ => by go_simp) ?_
          try simp only [Act.put, List.setIfInBounds_toArray, List.set_cons_zero, List.set_cons_succ]
          refine hg_load 2 (some 36) rfl rfl (by kernel_rfl) (by kernel_rfl) (by kernel_rfl) (fun _ _ _ _ h => h) HS (List.Sublist.cons _ (List.Sublist.cons _ (List.Sublist.refl _))) rfl 3 _ rfl 0 _ _ _ rfl 0 rfl _ sh3 (.int .i64 g.tx) rfl ?_
          try simp only [Act.put, List.setIfInBounds_toArray, List.set_cons_zero, List.set_cons_succ]
          refine hg_reg 3 (some 37) rfl rfl (by kernel_rfl) (by kernel_rfl) (by kernel_rfl) (fun _ _ _ _ h => h) HS (List.Sublist.cons _ (List.Sublist.cons _ (List.Sublist.refl _))) (.pointer (some ⟨b3, 1, none⟩)) rfl (fun _ => by go_simp) ?_
          try simp only [Act.put, List.setIfInBounds_toArray, List.set_cons_zero, List.set_cons_succ]
          refine hg_loads 4 (some 38) rfl rfl (by kernel_rfl) (by kernel_rfl) (by kernel_rfl) (fun _ _ _ _ h => h) HS (List.Sublist.cons _ (List.Sublist.cons _ (List.Sublist.refl _))) rfl 27 _ rfl 0 _ _ _ rfl 1 rfl 2 sh27 [.int .i64 g.page, .int .i64 g.slot] rfl ⟨rfl, rfl, trivial⟩ ?_
          try simp only [Act.put, List.setIfInBounds_toArray, List.set_cons_zero, List.set_cons_succ]
          refine hg_reg 6 (some 40) rfl rfl (by kernel_rfl) (by kernel_rfl) (by kernel_rfl) (fun _ _ _ _ h => h) HS (List.Sublist.cons _ (List.Sublist.cons _ (List.Sublist.refl _))) (.pointer (some ⟨b3, 3, none⟩)) rfl (fun _ => by go_simp) ?_
          try simp only [Act.put, List.setIfInBounds_toArray, List.set_cons_zero, List.set_cons_succ]
          refine hg_load 7 (some 41) rfl rfl (by kernel_rfl) (by kernel_rfl) (by kernel_rfl) (fun _ _ _ _ h => h) HS (List.Sublist.cons _ (List.Sublist.cons _ (List.Sublist.refl _))) rfl 3 _ rfl 0 _ _ _ rfl 3 rfl _ sh3 (.int .i64 g.mode) rfl ?_
          try simp only [Act.put, List.setIfInBounds_toArray, List.set_cons_zero, List.set_cons_succ]
          refine hk_x1 5 (by kernel_rfl) ?_
          refine hg_call 5 (some 39) rfl rfl rfl HS (List.Sublist.cons _ (List.Sublist.cons _ (List.Sublist.refl _))) 38 _ _ rfl Tryz.func38 (by kernel_rfl) rfl _ (fun v => v = .int .i64 mg) ((rf_mode w _ _ hs g.tx g.page g.slot (HGh.out.ext HS.out.isExt) rfl).mono (fun e w1 h => by obtain ⟨rfl, hx⟩ := h; exact ⟨_, rfl, (by rw [HMK.out]), HS.out.ext hx⟩)) rfl ?_
          clear HS; rintro _ w rfl HS
          try simp only [Act.put, List.setIfInBounds_toArray, List.set_cons_zero, List.set_cons_succ]
          refine hg_reg 8 (some 42) rfl rfl (by kernel_rfl) (by kernel_rfl) (by kernel_rfl) (fun _ _ _ _ h => h) HS (List.Sublist.cons _ (List.Sublist.cons _ (List.Sublist.refl _))) (.bool true) rfl (fun _ => by go_simp) ?_
          try simp only [Act.put, List.setIfInBounds_toArray, List.set_cons_zero, List.set_cons_succ]
          refine hk_done (by kernel_rfl) ?_
          have HF := Lib.hid (req_has HV.out HVG.out HFD.out (by rw [← HMG.out]; exact hm))
          clear hm
          go_wp2_with (first | (refine sx_loads HS (by rfl) 25 _ rfl 3 _ _ _ rfl 0 rfl 2 sh25 [.slice aoh nh cph, .slice aow nw cpw] rfl ⟨rfl, rfl, trivial⟩ ?_) | (refine sx_store_all HS (by rfl) 25 _ _ rfl rfl 1 _ _ _ rfl rfl [.slice aoh nh cph, .slice aow nw cpw] rfl 2 sh25 rfl rfl rfl ?_; clear HS; intro w HS))
          have hB : PBox w b4 25 [.slice aoh nh cph, .slice aow nw cpw] := HS.out.box (i := 1) rfl
          refine bodyPost_ret (results_ctt rfl rfl (run_load_cells sh25 rfl (fun j u hj => by rw [Nat.zero_add]; exact hB.cell hj)) rfl rfl) rfl ?_
          exact .inr ⟨(hs, ws), true, _, _, [], HF.out.1, HF.out.2, rfl, HS.out.sub (List.nil_sublist _), Kp.refl, Kp.refl⟩
        · skip
          refine hg_begin [(b3, 29, [.int .i64 g.tx, .int .i64 g.page, .int .i64 g.slot, .int .i64 g.mode]), (b2, 25, [.slice aoh nh cph, .slice aow nw cpw])] HS (by kernel_rfl) ?_
          clear HS; intro w HS
          refine hg_loads 0 (some 34) rfl rfl (by kernel_rfl) (by kernel_rfl) (by kernel_rfl) (fun _ _ _ _ h => h) HS (List.Sublist.cons _ (List.Sublist.cons _ (List.Sublist.refl _))) rfl 25 _ rfl 1 _ _ _ rfl 0 rfl 2 sh25 [.slice aoh nh cph, .slice aow nw cpw] rfl ⟨rfl, rfl, trivial⟩ ?_
          try simp only [Act.put, List.setIfInBounds_toArray, List.set_cons_zero, List.set_cons_succ]
          refine hg_reg 1 (some 35) rfl rfl (by kernel_rfl) (by kernel_rfl) (by kernel_rfl) (fun _ _ _ _ h => h) HS (List.Sublist.cons _ (List.Sublist.cons _ (List.Sublist.refl _))) (.pointer (some ⟨b3, 0, none⟩)) rfl (fun _ => by go_simp) ?_
          try simp only [Act.put, List.setIfInBounds_toArray, List.set_cons_zero, List.set_cons_succ]
          refine hg_load 2 (some 36) rfl rfl (by kernel_rfl) (by kernel_rfl) (by kernel_rfl) (fun _ _ _ _ h => h) HS (List.Sublist.cons _ (List.Sublist.cons _ (List.Sublist.refl _))) rfl 3 _ rfl 0 _ _ _ rfl 0 rfl _ sh3 (.int .i64 g.tx) rfl ?_
          try simp only [Act.put, List.setIfInBounds_toArray, List.set_cons_zero, List.set_cons_succ]
          refine hg_reg 3 (some 37) rfl rfl (by kernel_rfl) (by kernel_rfl) (by kernel_rfl) (fun _ _ _ _ h => h) HS (List.Sublist.cons _ (List.Sublist.cons _ (List.Sublist.refl _))) (.pointer (some ⟨b3, 1, none⟩)) rfl (fun _ => by go_simp) ?_
          try simp only [Act.put, List.setIfInBounds_toArray, List.set_cons_zero, List.set_cons_succ]
          refine hg_loads 4 (some 38) rfl rfl (by kernel_rfl) (by kernel_rfl) (by kernel_rfl) (fun _ _ _ _ h => h) HS (List.Sublist.cons _ (List.Sublist.cons _ (List.Sublist.refl _))) rfl 27 _ rfl 0 _ _ _ rfl 1 rfl 2 sh27 [.int .i64 g.page, .int .i64 g.slot] rfl ⟨rfl, rfl, trivial⟩ ?_
          try simp only [Act.put, List.setIfInBounds_toArray, List.set_cons_zero, List.set_cons_succ]
          refine hg_reg 6 (some 40) rfl rfl (by kernel_rfl) (by kernel_rfl) (by kernel_rfl) (fun _ _ _ _ h => h) HS (List.Sublist.cons _ (List.Sublist.cons _ (List.Sublist.refl _))) (.pointer (some ⟨b3, 3, none⟩)) rfl (fun _ => by go_simp) ?_
          try simp only [Act.put, List.setIfInBounds_toArray, List.set_cons_zero, List.set_cons_succ]
          refine hg_load 7 (some 41) rfl rfl (by kernel_rfl) (by kernel_rfl) (by kernel_rfl) (fun _ _ _ _ h => h) HS (List.Sublist.cons _ (List.Sublist.cons _ (List.Sublist.refl _))) rfl 3 _ rfl 0 _ _ _ rfl 3 rfl _ sh3 (.int .i64 g.mode) rfl ?_
          try simp only [Act.put, List.setIfInBounds_toArray, List.set_cons_zero, List.set_cons_succ]
          refine hk_x1 5 (by kernel_rfl) ?_
          refine hg_call 5 (some 39) rfl rfl rfl HS (List.Sublist.cons _ (List.Sublist.cons _ (List.Sublist.refl _))) 38 _ _ rfl Tryz.func38 (by kernel_rfl) rfl _ (fun v => v = .int .i64 mg) ((rf_mode w _ _ hs g.tx g.page g.slot (HGh.out.ext HS.out.isExt) rfl).mono (fun e w1 h => by obtain ⟨rfl, hx⟩ := h; exact ⟨_, rfl, (by rw [HMK.out]), HS.out.ext hx⟩)) rfl ?_
          clear HS; rintro _ w rfl HS
          try simp only [Act.put, List.setIfInBounds_toArray, List.set_cons_zero, List.set_cons_succ]
          refine hg_reg 8 (some 42) rfl rfl (by kernel_rfl) (by kernel_rfl) (by kernel_rfl) (fun _ _ _ _ h => h) HS (List.Sublist.cons _ (List.Sublist.cons _ (List.Sublist.refl _))) (.bool false) rfl (fun _ => by go_simp) ?_
          try simp only [Act.put, List.setIfInBounds_toArray, List.set_cons_zero, List.set_cons_succ]
          refine hk_done (by kernel_rfl) ?_
          have HNM : Hid (¬ g.mode ≤ modeF hs g) := Lib.hid (by rw [← HMG.out]; exact hm)
          clear hm HMG HMK
          have hvl := validT_len HV.out
          rw [← HNh.out, ← HNw.out] at hvl
          by_cases hfl : nh + nw = 1024
          · skip
            have HF := Lib.hid (req_full HV.out HVG.out HFD.out HNM.out (by rw [← HNh.out, ← HNw.out]; exact hfl))
            go_wp2_with (first | (refine sx_store_all HS (by rfl) 25 _ _ rfl rfl 1 _ _ _ rfl rfl [.slice none 0 0, .slice none 0 0] rfl 2 sh25 rfl rfl rfl ?_; clear HS; intro w HS) | (refine sx_load HS (by rfl) 23 _ rfl 3 _ _ _ rfl 0 rfl _ sh23 (.slice aoh nh cph) rfl ?_) | (refine sx_load HS (by rfl) 23 _ rfl 3 _ _ _ rfl 1 rfl _ sh23 (.slice aow nw cpw) rfl ?_))
            have hB : PBox w b4 25 [.slice none 0 0, .slice none 0 0] := HS.out.box (i := 1) rfl
            refine bodyPost_ret (results_ctt rfl rfl (run_load_cells sh25 rfl (fun j u hj => by rw [Nat.zero_add]; exact hB.cell hj)) rfl rfl) rfl ?_
            refine .inl ⟨HF.out.1, by rw [HF.out.2]; decide, ?_, HS.out.isExt⟩
            rw [HF.out.2]
            rfl
          · skip
            have HF := Lib.hid (req_new HV.out HVG.out HFD.out HNM.out (by rw [← HNh.out, ← HNw.out]; exact hfl))
            go_wp2_with (first | (refine sx_load HS (by rfl) 23 _ rfl 3 _ _ _ rfl 0 rfl _ sh23 (.slice aoh nh cph) rfl ?_) | (refine sx_load HS (by rfl) 23 _ rfl 3 _ _ _ rfl 1 rfl _ sh23 (.slice aow nw cpw) rfl ?_) | (refine sx_loads HS (by rfl) 25 _ rfl 3 _ _ _ rfl 0 rfl 2 sh25 [.slice aoh nh cph, .slice aow nw cpw] rfl ⟨rfl, rfl, trivial⟩ ?_) | (refine sx_load_all HS (by rfl) 29 _ rfl 2 _ _ _ rfl rfl 4 sh29 rfl ?_))
            refine (rf_place w _ _ hs ws g (HGh.out.ext HS.out.isExt) (HGw.out.ext HS.out.isExt) HBh.out HBw.out).mono ?_
            rintro e w ⟨he, hx⟩
            replace HS := Lib.hid (HS.out.ext hx)
            clear hx
            rw [place_same HFD.out] at he
            obtain ⟨pl, hpl⟩ : ∃ p, p = placeF hs ws g := ⟨_, rfl⟩
            rw [← hpl] at he
            have HPL := Lib.hid hpl
            have hple : pl ≤ nw := by rw [hpl, HNw.out]; exact placeF_le hs ws g
            clear hpl
            subst he
            go_wp2_with fail
            obtain ⟨ie, hie, hiz, his, hib⟩ := info_grant
            have HIE := Lib.hid hie
            have HIZ := Lib.hid hiz
            have HIS := Lib.hid his
            have HIB := Lib.hid hib
            clear hie hiz his hib
            go_cut [56, 57, 58, 59, 60, 61, 62, 63, 64, 65, 66, 67, 68, 69] (fun _ _ _ _ _ _ _ _ _ _ _ _ _ _  wx => ∃ (v3 : Value) (l3 : List (Nat × TypeId × List Value)), Hid (OwnRow 29 4 l3 v3 (insW hs ws g).length (gL (insW hs ws g))) ∧ Hid (St none default w0 wx ((b7, 29, zeroG.lst) :: (b4, 25, [.slice none 0 0, .slice none 0 0]) :: (b3, 29, [.int .i64 g.tx, .int .i64 g.page, .int .i64 g.slot, .int .i64 g.mode]) :: (b2, 25, [.slice aoh nh cph, v3]) :: l3)))
            case first =>
              cases hao : aow with
              | none =>
                subst hao
                have hn0 : nw = 0 := by
                  by_cases e : nw = 0
                  · exact e
                  · obtain ⟨g9, off9, hh, _⟩ := HATw.out (by omega)
                    cases hh
                have HW0 : Hid (ws = []) := Lib.hid (List.eq_nil_of_length_eq_zero (by rw [← HNw.out]; exact hn0))
                have hp0 : pl = 0 := by omega
                subst hn0 hp0
                refine hg_begin [(b3, 29, [.int .i64 g.tx, .int .i64 g.page, .int .i64 g.slot, .int .i64 g.mode])] HS (by kernel_rfl) ?_
                clear HS; intro w HS
                refine hg_reg 0 (some 56) rfl rfl (by kernel_rfl) (by kernel_rfl) (by kernel_rfl) (fun _ _ _ _ h => h) HS (List.Sublist.cons _ (List.Sublist.cons _ (List.Sublist.cons_cons _ (List.nil_sublist _)))) (.pointer (some ⟨b2, 1, none⟩)) rfl (fun _ => by go_simp) ?_
                try simp only [Act.put, List.setIfInBounds_toArray, List.set_cons_zero, List.set_cons_succ]
                refine hg_reg 2 (some 58) rfl rfl (by kernel_rfl) (by kernel_rfl) (by kernel_rfl) (fun _ _ _ _ h => h) HS (List.Sublist.cons _ (List.Sublist.cons _ (List.Sublist.cons_cons _ (List.nil_sublist _)))) (.int .i64 ((0 : Nat) : Int)) rfl (fun _ => by rfl) ?_
                try simp only [Act.put, List.setIfInBounds_toArray, List.set_cons_zero, List.set_cons_succ]
                refine hg_loads 5 (some 61) rfl rfl (by kernel_rfl) (by kernel_rfl) (by kernel_rfl) (fun _ _ _ _ h => h) HS (List.Sublist.cons _ (List.Sublist.cons _ (List.Sublist.cons_cons _ (List.nil_sublist _)))) rfl 29 _ rfl 0 _ _ _ rfl 0 rfl 4 sh29 [.int .i64 g.tx, .int .i64 g.page, .int .i64 g.slot, .int .i64 g.mode] rfl ⟨rfl, rfl, rfl, rfl, trivial⟩ ?_
                try simp only [Act.put, List.setIfInBounds_toArray, List.set_cons_zero, List.set_cons_succ]
                refine hg_reg 8 (some 64) rfl rfl (by kernel_rfl) (by kernel_rfl) (by kernel_rfl) (fun _ _ _ _ h => h) HS (List.Sublist.cons _ (List.Sublist.cons _ (List.Sublist.cons_cons _ (List.nil_sublist _)))) (.pointer (some ⟨b2, 1, none⟩)) rfl (fun _ => by go_simp) ?_
                try simp only [Act.put, List.setIfInBounds_toArray, List.set_cons_zero, List.set_cons_succ]
                refine hg_reg 10 (some 66) rfl rfl (by kernel_rfl) (by kernel_rfl) (by kernel_rfl) (fun _ _ _ _ h => h) HS (List.Sublist.cons _ (List.Sublist.cons _ (List.Sublist.cons_cons _ (List.nil_sublist _)))) (.int .i64 ((0 : Nat) : Int)) rfl (fun _ => by rfl) ?_
                try simp only [Act.put, List.setIfInBounds_toArray, List.set_cons_zero, List.set_cons_succ]
                refine hk_x3 1 6 9 (by kernel_rfl) ?_ ?_ ?_
                · skip
                  refine hx_load 1 (some 57) rfl rfl rfl HS (List.Sublist.cons _ (List.Sublist.cons _ (List.Sublist.cons_cons _ (List.nil_sublist _)))) 23 _ rfl 3 _ _ _ rfl 1 rfl _ sh23 (.slice none 0 cpw) rfl ?_
                  try simp only [Act.put, List.setIfInBounds_toArray, List.set_cons_zero, List.set_cons_succ]
                  refine hg_reg 3 (some 59) rfl rfl (by kernel_rfl) (by kernel_rfl) (by kernel_rfl) (fun _ _ _ _ h => h) HS (List.Sublist.cons _ (List.Sublist.cons _ (List.Sublist.cons_cons _ (List.nil_sublist _)))) (.slice none 0 cpw) rfl (fun _ => by exact run_sl_hi (ao := none) (n := 0) (cap := cpw) (k := 0) (s := 4) rfl Tryz.underlying23 (by kernel_rfl) rfl rfl (by omega) (sliced_hi4 none 0 cpw 4).symm) ?_
                  try simp only [Act.put, List.setIfInBounds_toArray, List.set_cons_zero, List.set_cons_succ]
                  refine hg_reg 4 (some 60) rfl rfl (by kernel_rfl) (by kernel_rfl) (by kernel_rfl) (fun _ _ _ _ h => h) HS (List.Sublist.cons _ (List.Sublist.cons _ (List.Sublist.cons_cons _ (List.nil_sublist _)))) (.slice none 0 0) rfl (fun _ => by exact run_append_no none 0 0 cpw _ _ _ rfl 29 ie Tryz.underlying23 HIE.out rfl rfl (by omega) _) ?_
                  try simp only [Act.put, List.setIfInBounds_toArray, List.set_cons_zero, List.set_cons_succ]
                  refine hk_x2 6 9 (by kernel_rfl) ?_ ?_
                  · skip
                    refine hg_build 6 (some 62) rfl rfl rfl HS (List.Sublist.cons _ (List.Sublist.cons _ (List.Sublist.cons_cons _ (List.nil_sublist _)))) 23 29 1 [(0, .tmp 61)] rfl [(0, .agg g.arr)] rfl g.lst (fun w => build_grant g w) ?_
                    clear HS; intro w bn HS
                    replace HS := St4C HS
                    try simp only [Act.put, List.setIfInBounds_toArray, List.set_cons_zero, List.set_cons_succ]
                    refine hk_x2 7 9 (by kernel_rfl) ?_ ?_
                    · skip
                      refine hg_appendS 7 (some 63) rfl rfl rfl (front := []) (lr := []) (ll := _) HS (fun l9 => List.Sublist.trans (List.Sublist.cons _ (List.Sublist.cons _ (List.Sublist.cons_cons _ (List.nil_sublist _)))) (List.sublist_append_right l9 _)) _ _ 23 rfl 29 ie _ 4 _ Tryz.underlying23 HIE.out HIZ.out HIS.out rfl rfl (by decide) _ 0 [] rfl RowEnt.nil _ rfl 1 g.lst (SrcAt.box (HS.out.box (i := 0 + 4) (show _ = some (bn, 29, g.lst) by simp)) rfl rfl) (by unfold maxLen; omega) (Nat.le_trans (Nat.mul_le_mul (show 0 + 1 ≤ 300001 by omega) HIB.out) (by decide)) ?_
                      clear HS; intro v6 w l6 HS HR6
                      replace HS := St4A HS
                      replace HR6 : Hid (RowEnt 29 4 l6 v6 1 g.lst) := Lib.hid (by have h := HR6.out; rw [Nat.zero_add, List.nil_append] at h; exact h)
                      obtain ⟨a6, c6, rfl, hf6, -⟩ := row_form HR6.out
                      try simp only [Act.put, List.setIfInBounds_toArray, List.set_cons_zero, List.set_cons_succ]
                      refine hk_x1 9 (by kernel_rfl) ?_
                      refine hx_load 9 (some 65) rfl rfl rfl HS (List.Sublist.cons _ (List.Sublist.cons _ (List.Sublist.cons_cons _ (List.nil_sublist _)))) 23 _ rfl 3 _ _ _ rfl 1 rfl _ sh23 (.slice none 0 cpw) rfl ?_
                      try simp only [Act.put, List.setIfInBounds_toArray, List.set_cons_zero, List.set_cons_succ]
                      refine hg_reg 11 (some 67) rfl rfl (by kernel_rfl) (by kernel_rfl) (by kernel_rfl) (fun _ _ _ _ h => h) HS (List.Sublist.cons _ (List.Sublist.cons _ (List.Sublist.cons_cons _ (List.nil_sublist _)))) (.slice none 0 cpw) rfl (fun _ => by exact run_sl_lo (ao := none) (n := 0) (cap := cpw) (k := 0) (s := 4) rfl Tryz.underlying23 (by kernel_rfl) rfl rfl (by omega) (sliced_hi4 none 0 cpw 4).symm) ?_
                      try simp only [Act.put, List.setIfInBounds_toArray, List.set_cons_zero, List.set_cons_succ]
                      refine hg_reg 12 (some 68) rfl rfl (by kernel_rfl) (by kernel_rfl) (by kernel_rfl) (fun _ _ _ _ h => h) HS (List.Sublist.cons _ (List.Sublist.cons _ (List.Sublist.cons_cons _ (List.nil_sublist _)))) (.slice a6 1 c6) rfl (fun _ => by exact run_append_no a6 1 c6 cpw _ _ _ rfl 29 ie Tryz.underlying23 HIE.out rfl rfl hf6 _) ?_
                      try simp only [Act.put, List.setIfInBounds_toArray, List.set_cons_zero, List.set_cons_succ]
                      refine hg_reg 13 (some 69) rfl rfl (by kernel_rfl) (by kernel_rfl) (by kernel_rfl) (fun _ _ _ _ h => h) HS (List.Sublist.cons _ (List.Sublist.cons _ (List.Sublist.cons_cons _ (List.nil_sublist _)))) (.pointer (some ⟨b2, 1, none⟩)) rfl (fun _ => by go_simp) ?_
                      try simp only [Act.put, List.setIfInBounds_toArray, List.set_cons_zero, List.set_cons_succ]
                      refine hk_x1 14 (by kernel_rfl) ?_
                      have HR7 : Hid (OwnRow 29 4 l6 (.slice a6 1 c6) (insW hs ws g).length (gL (insW hs ws g))) := Lib.hid (by have h := OwnRow.of HR6.out; unfold insW; rw [HW0.out]; simpa [gL_one] using h)
                      refine hg_storeM (front := [(b7, 29, zeroG.lst), (b4, 25, [.slice none 0 0, .slice none 0 0]), (b3, 29, [.int .i64 g.tx, .int .i64 g.page, .int .i64 g.slot, .int .i64 g.mode])]) (ll := l6 ++ _) 14 rfl rfl HS 23 _ _ rfl rfl 1 rfl (.slice a6 1 c6) rfl sh23 HR7.out.one (by simp) [.slice aoh nh cph, .slice a6 1 c6] rfl (List.Sublist.cons _ (List.Sublist.cons _ (List.Sublist.cons_cons _ (List.nil_sublist _)))) ?_
                      clear HS; intro w HS
                      try simp only [Act.put, List.setIfInBounds_toArray, List.set_cons_zero, List.set_cons_succ]
                      refine hk_done (by kernel_rfl) ?_
                      try go_wp2_with fail
                      go_meet
                      exact ⟨_, l6, HR7, Lib.hid (HS.out.sub (by simp))⟩
                    · skip
                      refine hx_load 9 (some 65) rfl rfl rfl HS (List.Sublist.cons _ (List.Sublist.cons _ (List.Sublist.cons_cons _ (List.nil_sublist _)))) 23 _ rfl 3 _ _ _ rfl 1 rfl _ sh23 (.slice none 0 cpw) rfl ?_
                      try simp only [Act.put, List.setIfInBounds_toArray, List.set_cons_zero, List.set_cons_succ]
                      refine hg_reg 11 (some 67) rfl rfl (by kernel_rfl) (by kernel_rfl) (by kernel_rfl) (fun _ _ _ _ h => h) HS (List.Sublist.cons _ (List.Sublist.cons _ (List.Sublist.cons_cons _ (List.nil_sublist _)))) (.slice none 0 cpw) rfl (fun _ => by exact run_sl_lo (ao := none) (n := 0) (cap := cpw) (k := 0) (s := 4) rfl Tryz.underlying23 (by kernel_rfl) rfl rfl (by omega) (sliced_hi4 none 0 cpw 4).symm) ?_
                      try simp only [Act.put, List.setIfInBounds_toArray, List.set_cons_zero, List.set_cons_succ]
                      refine hk_x1 7 (by kernel_rfl) ?_
                      refine hg_appendS 7 (some 63) rfl rfl rfl (front := []) (lr := []) (ll := _) HS (fun l9 => List.Sublist.trans (List.Sublist.cons _ (List.Sublist.cons _ (List.Sublist.cons_cons _ (List.nil_sublist _)))) (List.sublist_append_right l9 _)) _ _ 23 rfl 29 ie _ 4 _ Tryz.underlying23 HIE.out HIZ.out HIS.out rfl rfl (by decide) _ 0 [] rfl RowEnt.nil _ rfl 1 g.lst (SrcAt.box (HS.out.box (i := 0 + 4) (show _ = some (bn, 29, g.lst) by simp)) rfl rfl) (by unfold maxLen; omega) (Nat.le_trans (Nat.mul_le_mul (show 0 + 1 ≤ 300001 by omega) HIB.out) (by decide)) ?_
                      clear HS; intro v6 w l6 HS HR6
                      replace HS := St4A HS
                      replace HR6 : Hid (RowEnt 29 4 l6 v6 1 g.lst) := Lib.hid (by have h := HR6.out; rw [Nat.zero_add, List.nil_append] at h; exact h)
                      obtain ⟨a6, c6, rfl, hf6, -⟩ := row_form HR6.out
                      try simp only [Act.put, List.setIfInBounds_toArray, List.set_cons_zero, List.set_cons_succ]
                      refine hg_reg 12 (some 68) rfl rfl (by kernel_rfl) (by kernel_rfl) (by kernel_rfl) (fun _ _ _ _ h => h) HS (List.Sublist.cons _ (List.Sublist.cons _ (List.Sublist.cons_cons _ (List.nil_sublist _)))) (.slice a6 1 c6) rfl (fun _ => by exact run_append_no a6 1 c6 cpw _ _ _ rfl 29 ie Tryz.underlying23 HIE.out rfl rfl hf6 _) ?_
                      try simp only [Act.put, List.setIfInBounds_toArray, List.set_cons_zero, List.set_cons_succ]
                      refine hg_reg 13 (some 69) rfl rfl (by kernel_rfl) (by kernel_rfl) (by kernel_rfl) (fun _ _ _ _ h => h) HS (List.Sublist.cons _ (List.Sublist.cons _ (List.Sublist.cons_cons _ (List.nil_sublist _)))) (.pointer (some ⟨b2, 1, none⟩)) rfl (fun _ => by go_simp) ?_
                      try simp only [Act.put, List.setIfInBounds_toArray, List.set_cons_zero, List.set_cons_succ]
                      refine hk_x1 14 (by kernel_rfl) ?_
                      have HR7 : Hid (OwnRow 29 4 l6 (.slice a6 1 c6) (insW hs ws g).length (gL (insW hs ws g))) := Lib.hid (by have h := OwnRow.of HR6.out; unfold insW; rw [HW0.out]; simpa [gL_one] using h)
                      refine hg_storeM (front := [(b7, 29, zeroG.lst), (b4, 25, [.slice none 0 0, .slice none 0 0]), (b3, 29, [.int .i64 g.tx, .int .i64 g.page, .int .i64 g.slot, .int .i64 g.mode])]) (ll := l6 ++ _) 14 rfl rfl HS 23 _ _ rfl rfl 1 rfl (.slice a6 1 c6) rfl sh23 HR7.out.one (by simp) [.slice aoh nh cph, .slice a6 1 c6] rfl (List.Sublist.cons _ (List.Sublist.cons _ (List.Sublist.cons_cons _ (List.nil_sublist _)))) ?_
                      clear HS; intro w HS
                      try simp only [Act.put, List.setIfInBounds_toArray, List.set_cons_zero, List.set_cons_succ]
                      refine hk_done (by kernel_rfl) ?_
                      try go_wp2_with fail
                      go_meet
                      exact ⟨_, l6, HR7, Lib.hid (HS.out.sub (by simp))⟩
                  · skip
                    refine hx_load 9 (some 65) rfl rfl rfl HS (List.Sublist.cons _ (List.Sublist.cons _ (List.Sublist.cons_cons _ (List.nil_sublist _)))) 23 _ rfl 3 _ _ _ rfl 1 rfl _ sh23 (.slice none 0 cpw) rfl ?_
                    try simp only [Act.put, List.setIfInBounds_toArray, List.set_cons_zero, List.set_cons_succ]
                    refine hg_reg 11 (some 67) rfl rfl (by kernel_rfl) (by kernel_rfl) (by kernel_rfl) (fun _ _ _ _ h => h) HS (List.Sublist.cons _ (List.Sublist.cons _ (List.Sublist.cons_cons _ (List.nil_sublist _)))) (.slice none 0 cpw) rfl (fun _ => by exact run_sl_lo (ao := none) (n := 0) (cap := cpw) (k := 0) (s := 4) rfl Tryz.underlying23 (by kernel_rfl) rfl rfl (by omega) (sliced_hi4 none 0 cpw 4).symm) ?_
                    try simp only [Act.put, List.setIfInBounds_toArray, List.set_cons_zero, List.set_cons_succ]
                    refine hk_x1 6 (by kernel_rfl) ?_
                    refine hg_build 6 (some 62) rfl rfl rfl HS (List.Sublist.cons _ (List.Sublist.cons _ (List.Sublist.cons_cons _ (List.nil_sublist _)))) 23 29 1 [(0, .tmp 61)] rfl [(0, .agg g.arr)] rfl g.lst (fun w => build_grant g w) ?_
                    clear HS; intro w bn HS
                    replace HS := St4C HS
                    try simp only [Act.put, List.setIfInBounds_toArray, List.set_cons_zero, List.set_cons_succ]
                    refine hk_x1 7 (by kernel_rfl) ?_
                    refine hg_appendS 7 (some 63) rfl rfl rfl (front := []) (lr := []) (ll := _) HS (fun l9 => List.Sublist.trans (List.Sublist.cons _ (List.Sublist.cons _ (List.Sublist.cons_cons _ (List.nil_sublist _)))) (List.sublist_append_right l9 _)) _ _ 23 rfl 29 ie _ 4 _ Tryz.underlying23 HIE.out HIZ.out HIS.out rfl rfl (by decide) _ 0 [] rfl RowEnt.nil _ rfl 1 g.lst (SrcAt.box (HS.out.box (i := 0 + 4) (show _ = some (bn, 29, g.lst) by simp)) rfl rfl) (by unfold maxLen; omega) (Nat.le_trans (Nat.mul_le_mul (show 0 + 1 ≤ 300001 by omega) HIB.out) (by decide)) ?_
                    clear HS; intro v6 w l6 HS HR6
                    replace HS := St4A HS
                    replace HR6 : Hid (RowEnt 29 4 l6 v6 1 g.lst) := Lib.hid (by have h := HR6.out; rw [Nat.zero_add, List.nil_append] at h; exact h)
                    obtain ⟨a6, c6, rfl, hf6, -⟩ := row_form HR6.out
                    try simp only [Act.put, List.setIfInBounds_toArray, List.set_cons_zero, List.set_cons_succ]
                    refine hg_reg 12 (some 68) rfl rfl (by kernel_rfl) (by kernel_rfl) (by kernel_rfl) (fun _ _ _ _ h => h) HS (List.Sublist.cons _ (List.Sublist.cons _ (List.Sublist.cons_cons _ (List.nil_sublist _)))) (.slice a6 1 c6) rfl (fun _ => by exact run_append_no a6 1 c6 cpw _ _ _ rfl 29 ie Tryz.underlying23 HIE.out rfl rfl hf6 _) ?_
                    try simp only [Act.put, List.setIfInBounds_toArray, List.set_cons_zero, List.set_cons_succ]
                    refine hg_reg 13 (some 69) rfl rfl (by kernel_rfl) (by kernel_rfl) (by kernel_rfl) (fun _ _ _ _ h => h) HS (List.Sublist.cons _ (List.Sublist.cons _ (List.Sublist.cons_cons _ (List.nil_sublist _)))) (.pointer (some ⟨b2, 1, none⟩)) rfl (fun _ => by go_simp) ?_
                    try simp only [Act.put, List.setIfInBounds_toArray, List.set_cons_zero, List.set_cons_succ]
                    refine hk_x1 14 (by kernel_rfl) ?_
                    have HR7 : Hid (OwnRow 29 4 l6 (.slice a6 1 c6) (insW hs ws g).length (gL (insW hs ws g))) := Lib.hid (by have h := OwnRow.of HR6.out; unfold insW; rw [HW0.out]; simpa [gL_one] using h)
                    refine hg_storeM (front := [(b7, 29, zeroG.lst), (b4, 25, [.slice none 0 0, .slice none 0 0]), (b3, 29, [.int .i64 g.tx, .int .i64 g.page, .int .i64 g.slot, .int .i64 g.mode])]) (ll := l6 ++ _) 14 rfl rfl HS 23 _ _ rfl rfl 1 rfl (.slice a6 1 c6) rfl sh23 HR7.out.one (by simp) [.slice aoh nh cph, .slice a6 1 c6] rfl (List.Sublist.cons _ (List.Sublist.cons _ (List.Sublist.cons_cons _ (List.nil_sublist _)))) ?_
                    clear HS; intro w HS
                    try simp only [Act.put, List.setIfInBounds_toArray, List.set_cons_zero, List.set_cons_succ]
                    refine hk_done (by kernel_rfl) ?_
                    try go_wp2_with fail
                    go_meet
                    exact ⟨_, l6, HR7, Lib.hid (HS.out.sub (by simp))⟩
                · skip
                  refine hg_build 6 (some 62) rfl rfl rfl HS (List.Sublist.cons _ (List.Sublist.cons _ (List.Sublist.cons_cons _ (List.nil_sublist _)))) 23 29 1 [(0, .tmp 61)] rfl [(0, .agg g.arr)] rfl g.lst (fun w => build_grant g w) ?_
                  clear HS; intro w bn HS
                  replace HS := St4C HS
                  try simp only [Act.put, List.setIfInBounds_toArray, List.set_cons_zero, List.set_cons_succ]
                  refine hk_x2 1 9 (by kernel_rfl) ?_ ?_
                  · skip
                    refine hx_load 1 (some 57) rfl rfl rfl HS (List.Sublist.cons _ (List.Sublist.cons _ (List.Sublist.cons_cons _ (List.nil_sublist _)))) 23 _ rfl 3 _ _ _ rfl 1 rfl _ sh23 (.slice none 0 cpw) rfl ?_
                    try simp only [Act.put, List.setIfInBounds_toArray, List.set_cons_zero, List.set_cons_succ]
                    refine hg_reg 3 (some 59) rfl rfl (by kernel_rfl) (by kernel_rfl) (by kernel_rfl) (fun _ _ _ _ h => h) HS (List.Sublist.cons _ (List.Sublist.cons _ (List.Sublist.cons_cons _ (List.nil_sublist _)))) (.slice none 0 cpw) rfl (fun _ => by exact run_sl_hi (ao := none) (n := 0) (cap := cpw) (k := 0) (s := 4) rfl Tryz.underlying23 (by kernel_rfl) rfl rfl (by omega) (sliced_hi4 none 0 cpw 4).symm) ?_
                    try simp only [Act.put, List.setIfInBounds_toArray, List.set_cons_zero, List.set_cons_succ]
                    refine hg_reg 4 (some 60) rfl rfl (by kernel_rfl) (by kernel_rfl) (by kernel_rfl) (fun _ _ _ _ h => h) HS (List.Sublist.cons _ (List.Sublist.cons _ (List.Sublist.cons_cons _ (List.nil_sublist _)))) (.slice none 0 0) rfl (fun _ => by exact run_append_no none 0 0 cpw _ _ _ rfl 29 ie Tryz.underlying23 HIE.out rfl rfl (by omega) _) ?_
                    try simp only [Act.put, List.setIfInBounds_toArray, List.set_cons_zero, List.set_cons_succ]
                    refine hk_x2 7 9 (by kernel_rfl) ?_ ?_
                    · skip
                      refine hg_appendS 7 (some 63) rfl rfl rfl (front := []) (lr := []) (ll := _) HS (fun l9 => List.Sublist.trans (List.Sublist.cons _ (List.Sublist.cons _ (List.Sublist.cons_cons _ (List.nil_sublist _)))) (List.sublist_append_right l9 _)) _ _ 23 rfl 29 ie _ 4 _ Tryz.underlying23 HIE.out HIZ.out HIS.out rfl rfl (by decide) _ 0 [] rfl RowEnt.nil _ rfl 1 g.lst (SrcAt.box (HS.out.box (i := 0 + 4) (show _ = some (bn, 29, g.lst) by simp)) rfl rfl) (by unfold maxLen; omega) (Nat.le_trans (Nat.mul_le_mul (show 0 + 1 ≤ 300001 by omega) HIB.out) (by decide)) ?_
                      clear HS; intro v6 w l6 HS HR6
                      replace HS := St4A HS
                      replace HR6 : Hid (RowEnt 29 4 l6 v6 1 g.lst) := Lib.hid (by have h := HR6.out; rw [Nat.zero_add, List.nil_append] at h; exact h)
                      obtain ⟨a6, c6, rfl, hf6, -⟩ := row_form HR6.out
                      try simp only [Act.put, List.setIfInBounds_toArray, List.set_cons_zero, List.set_cons_succ]
                      refine hk_x1 9 (by kernel_rfl) ?_
                      refine hx_load 9 (some 65) rfl rfl rfl HS (List.Sublist.cons _ (List.Sublist.cons _ (List.Sublist.cons_cons _ (List.nil_sublist _)))) 23 _ rfl 3 _ _ _ rfl 1 rfl _ sh23 (.slice none 0 cpw) rfl ?_
                      try simp only [Act.put, List.setIfInBounds_toArray, List.set_cons_zero, List.set_cons_succ]
                      refine hg_reg 11 (some 67) rfl rfl (by kernel_rfl) (by kernel_rfl) (by kernel_rfl) (fun _ _ _ _ h => h) HS (List.Sublist.cons _ (List.Sublist.cons _ (List.Sublist.cons_cons _ (List.nil_sublist _)))) (.slice none 0 cpw) rfl (fun _ => by exact run_sl_lo (ao := none) (n := 0) (cap := cpw) (k := 0) (s := 4) rfl Tryz.underlying23 (by kernel_rfl) rfl rfl (by omega) (sliced_hi4 none 0 cpw 4).symm) ?_
                      try simp only [Act.put, List.setIfInBounds_toArray, List.set_cons_zero, List.set_cons_succ]
                      refine hg_reg 12 (some 68) rfl rfl (by kernel_rfl) (by kernel_rfl) (by kernel_rfl) (fun _ _ _ _ h => h) HS (List.Sublist.cons _ (List.Sublist.cons _ (List.Sublist.cons_cons _ (List.nil_sublist _)))) (.slice a6 1 c6) rfl (fun _ => by exact run_append_no a6 1 c6 cpw _ _ _ rfl 29 ie Tryz.underlying23 HIE.out rfl rfl hf6 _) ?_
                      try simp only [Act.put, List.setIfInBounds_toArray, List.set_cons_zero, List.set_cons_succ]
                      refine hg_reg 13 (some 69) rfl rfl (by kernel_rfl) (by kernel_rfl) (by kernel_rfl) (fun _ _ _ _ h => h) HS (List.Sublist.cons _ (List.Sublist.cons _ (List.Sublist.cons_cons _ (List.nil_sublist _)))) (.pointer (some ⟨b2, 1, none⟩)) rfl (fun _ => by go_simp) ?_
                      try simp only [Act.put, List.setIfInBounds_toArray, List.set_cons_zero, List.set_cons_succ]
                      refine hk_x1 14 (by kernel_rfl) ?_
                      have HR7 : Hid (OwnRow 29 4 l6 (.slice a6 1 c6) (insW hs ws g).length (gL (insW hs ws g))) := Lib.hid (by have h := OwnRow.of HR6.out; unfold insW; rw [HW0.out]; simpa [gL_one] using h)
                      refine hg_storeM (front := [(b7, 29, zeroG.lst), (b4, 25, [.slice none 0 0, .slice none 0 0]), (b3, 29, [.int .i64 g.tx, .int .i64 g.page, .int .i64 g.slot, .int .i64 g.mode])]) (ll := l6 ++ _) 14 rfl rfl HS 23 _ _ rfl rfl 1 rfl (.slice a6 1 c6) rfl sh23 HR7.out.one (by simp) [.slice aoh nh cph, .slice a6 1 c6] rfl (List.Sublist.cons _ (List.Sublist.cons _ (List.Sublist.cons_cons _ (List.nil_sublist _)))) ?_
                      clear HS; intro w HS
                      try simp only [Act.put, List.setIfInBounds_toArray, List.set_cons_zero, List.set_cons_succ]
                      refine hk_done (by kernel_rfl) ?_
                      try go_wp2_with fail
                      go_meet
                      exact ⟨_, l6, HR7, Lib.hid (HS.out.sub (by simp))⟩
                    · skip
                      refine hx_load 9 (some 65) rfl rfl rfl HS (List.Sublist.cons _ (List.Sublist.cons _ (List.Sublist.cons_cons _ (List.nil_sublist _)))) 23 _ rfl 3 _ _ _ rfl 1 rfl _ sh23 (.slice none 0 cpw) rfl ?_
                      try simp only [Act.put, List.setIfInBounds_toArray, List.set_cons_zero, List.set_cons_succ]
                      refine hg_reg 11 (some 67) rfl rfl (by kernel_rfl) (by kernel_rfl) (by kernel_rfl) (fun _ _ _ _ h => h) HS (List.Sublist.cons _ (List.Sublist.cons _ (List.Sublist.cons_cons _ (List.nil_sublist _)))) (.slice none 0 cpw) rfl (fun _ => by exact run_sl_lo (ao := none) (n := 0) (cap := cpw) (k := 0) (s := 4) rfl Tryz.underlying23 (by kernel_rfl) rfl rfl (by omega) (sliced_hi4 none 0 cpw 4).symm) ?_
                      try simp only [Act.put, List.setIfInBounds_toArray, List.set_cons_zero, List.set_cons_succ]
                      refine hk_x1 7 (by kernel_rfl) ?_
                      refine hg_appendS 7 (some 63) rfl rfl rfl (front := []) (lr := []) (ll := _) HS (fun l9 => List.Sublist.trans (List.Sublist.cons _ (List.Sublist.cons _ (List.Sublist.cons_cons _ (List.nil_sublist _)))) (List.sublist_append_right l9 _)) _ _ 23 rfl 29 ie _ 4 _ Tryz.underlying23 HIE.out HIZ.out HIS.out rfl rfl (by decide) _ 0 [] rfl RowEnt.nil _ rfl 1 g.lst (SrcAt.box (HS.out.box (i := 0 + 4) (show _ = some (bn, 29, g.lst) by simp)) rfl rfl) (by unfold maxLen; omega) (Nat.le_trans (Nat.mul_le_mul (show 0 + 1 ≤ 300001 by omega) HIB.out) (by decide)) ?_
                      clear HS; intro v6 w l6 HS HR6
                      replace HS := St4A HS
                      replace HR6 : Hid (RowEnt 29 4 l6 v6 1 g.lst) := Lib.hid (by have h := HR6.out; rw [Nat.zero_add, List.nil_append] at h; exact h)
                      obtain ⟨a6, c6, rfl, hf6, -⟩ := row_form HR6.out
                      try simp only [Act.put, List.setIfInBounds_toArray, List.set_cons_zero, List.set_cons_succ]
                      refine hg_reg 12 (some 68) rfl rfl (by kernel_rfl) (by kernel_rfl) (by kernel_rfl) (fun _ _ _ _ h => h) HS (List.Sublist.cons _ (List.Sublist.cons _ (List.Sublist.cons_cons _ (List.nil_sublist _)))) (.slice a6 1 c6) rfl (fun _ => by exact run_append_no a6 1 c6 cpw _ _ _ rfl 29 ie Tryz.underlying23 HIE.out rfl rfl hf6 _) ?_
                      try simp only [Act.put, List.setIfInBounds_toArray, List.set_cons_zero, List.set_cons_succ]
                      refine hg_reg 13 (some 69) rfl rfl (by kernel_rfl) (by kernel_rfl) (by kernel_rfl) (fun _ _ _ _ h => h) HS (List.Sublist.cons _ (List.Sublist.cons _ (List.Sublist.cons_cons _ (List.nil_sublist _)))) (.pointer (some ⟨b2, 1, none⟩)) rfl (fun _ => by go_simp) ?_
                      try simp only [Act.put, List.setIfInBounds_toArray, List.set_cons_zero, List.set_cons_succ]
                      refine hk_x1 14 (by kernel_rfl) ?_
                      have HR7 : Hid (OwnRow 29 4 l6 (.slice a6 1 c6) (insW hs ws g).length (gL (insW hs ws g))) := Lib.hid (by have h := OwnRow.of HR6.out; unfold insW; rw [HW0.out]; simpa [gL_one] using h)
                      refine hg_storeM (front := [(b7, 29, zeroG.lst), (b4, 25, [.slice none 0 0, .slice none 0 0]), (b3, 29, [.int .i64 g.tx, .int .i64 g.page, .int .i64 g.slot, .int .i64 g.mode])]) (ll := l6 ++ _) 14 rfl rfl HS 23 _ _ rfl rfl 1 rfl (.slice a6 1 c6) rfl sh23 HR7.out.one (by simp) [.slice aoh nh cph, .slice a6 1 c6] rfl (List.Sublist.cons _ (List.Sublist.cons _ (List.Sublist.cons_cons _ (List.nil_sublist _)))) ?_
                      clear HS; intro w HS
                      try simp only [Act.put, List.setIfInBounds_toArray, List.set_cons_zero, List.set_cons_succ]
                      refine hk_done (by kernel_rfl) ?_
                      try go_wp2_with fail
                      go_meet
                      exact ⟨_, l6, HR7, Lib.hid (HS.out.sub (by simp))⟩
                  · skip
                    refine hx_load 9 (some 65) rfl rfl rfl HS (List.Sublist.cons _ (List.Sublist.cons _ (List.Sublist.cons_cons _ (List.nil_sublist _)))) 23 _ rfl 3 _ _ _ rfl 1 rfl _ sh23 (.slice none 0 cpw) rfl ?_
                    try simp only [Act.put, List.setIfInBounds_toArray, List.set_cons_zero, List.set_cons_succ]
                    refine hg_reg 11 (some 67) rfl rfl (by kernel_rfl) (by kernel_rfl) (by kernel_rfl) (fun _ _ _ _ h => h) HS (List.Sublist.cons _ (List.Sublist.cons _ (List.Sublist.cons_cons _ (List.nil_sublist _)))) (.slice none 0 cpw) rfl (fun _ => by exact run_sl_lo (ao := none) (n := 0) (cap := cpw) (k := 0) (s := 4) rfl Tryz.underlying23 (by kernel_rfl) rfl rfl (by omega) (sliced_hi4 none 0 cpw 4).symm) ?_
                    try simp only [Act.put, List.setIfInBounds_toArray, List.set_cons_zero, List.set_cons_succ]
                    refine hk_x1 1 (by kernel_rfl) ?_
                    refine hx_load 1 (some 57) rfl rfl rfl HS (List.Sublist.cons _ (List.Sublist.cons _ (List.Sublist.cons_cons _ (List.nil_sublist _)))) 23 _ rfl 3 _ _ _ rfl 1 rfl _ sh23 (.slice none 0 cpw) rfl ?_
                    try simp only [Act.put, List.setIfInBounds_toArray, List.set_cons_zero, List.set_cons_succ]
                    refine hg_reg 3 (some 59) rfl rfl (by kernel_rfl) (by kernel_rfl) (by kernel_rfl) (fun _ _ _ _ h => h) HS (List.Sublist.cons _ (List.Sublist.cons _ (List.Sublist.cons_cons _ (List.nil_sublist _)))) (.slice none 0 cpw) rfl (fun _ => by exact run_sl_hi (ao := none) (n := 0) (cap := cpw) (k := 0) (s := 4) rfl Tryz.underlying23 (by kernel_rfl) rfl rfl (by omega) (sliced_hi4 none 0 cpw 4).symm) ?_
                    try simp only [Act.put, List.setIfInBounds_toArray, List.set_cons_zero, List.set_cons_succ]
                    refine hg_reg 4 (some 60) rfl rfl (by kernel_rfl) (by kernel_rfl) (by kernel_rfl) (fun _ _ _ _ h => h) HS (List.Sublist.cons _ (List.Sublist.cons _ (List.Sublist.cons_cons _ (List.nil_sublist _)))) (.slice none 0 0) rfl (fun _ => by exact run_append_no none 0 0 cpw _ _ _ rfl 29 ie Tryz.underlying23 HIE.out rfl rfl (by omega) _) ?_
                    try simp only [Act.put, List.setIfInBounds_toArray, List.set_cons_zero, List.set_cons_succ]
                    refine hk_x1 7 (by kernel_rfl) ?_
                    refine hg_appendS 7 (some 63) rfl rfl rfl (front := []) (lr := []) (ll := _) HS (fun l9 => List.Sublist.trans (List.Sublist.cons _ (List.Sublist.cons _ (List.Sublist.cons_cons _ (List.nil_sublist _)))) (List.sublist_append_right l9 _)) _ _ 23 rfl 29 ie _ 4 _ Tryz.underlying23 HIE.out HIZ.out HIS.out rfl rfl (by decide) _ 0 [] rfl RowEnt.nil _ rfl 1 g.lst (SrcAt.box (HS.out.box (i := 0 + 4) (show _ = some (bn, 29, g.lst) by simp)) rfl rfl) (by unfold maxLen; omega) (Nat.le_trans (Nat.mul_le_mul (show 0 + 1 ≤ 300001 by omega) HIB.out) (by decide)) ?_
                    clear HS; intro v6 w l6 HS HR6
                    replace HS := St4A HS
                    replace HR6 : Hid (RowEnt 29 4 l6 v6 1 g.lst) := Lib.hid (by have h := HR6.out; rw [Nat.zero_add, List.nil_append] at h; exact h)
                    obtain ⟨a6, c6, rfl, hf6, -⟩ := row_form HR6.out
                    try simp only [Act.put, List.setIfInBounds_toArray, List.set_cons_zero, List.set_cons_succ]
                    refine hg_reg 12 (some 68) rfl rfl (by kernel_rfl) (by kernel_rfl) (by kernel_rfl) (fun _ _ _ _ h => h) HS (List.Sublist.cons _ (List.Sublist.cons _ (List.Sublist.cons_cons _ (List.nil_sublist _)))) (.slice a6 1 c6) rfl (fun _ => by exact run_append_no a6 1 c6 cpw _ _ _ rfl 29 ie Tryz.underlying23 HIE.out rfl rfl hf6 _) ?_
                    try simp only [Act.put, List.setIfInBounds_toArray, List.set_cons_zero, List.set_cons_succ]
                    refine hg_reg 13 (some 69) rfl rfl (by kernel_rfl) (by kernel_rfl) (by kernel_rfl) (fun _ _ _ _ h => h) HS (List.Sublist.cons _ (List.Sublist.cons _ (List.Sublist.cons_cons _ (List.nil_sublist _)))) (.pointer (some ⟨b2, 1, none⟩)) rfl (fun _ => by go_simp) ?_
                    try simp only [Act.put, List.setIfInBounds_toArray, List.set_cons_zero, List.set_cons_succ]
                    refine hk_x1 14 (by kernel_rfl) ?_
                    have HR7 : Hid (OwnRow 29 4 l6 (.slice a6 1 c6) (insW hs ws g).length (gL (insW hs ws g))) := Lib.hid (by have h := OwnRow.of HR6.out; unfold insW; rw [HW0.out]; simpa [gL_one] using h)
                    refine hg_storeM (front := [(b7, 29, zeroG.lst), (b4, 25, [.slice none 0 0, .slice none 0 0]), (b3, 29, [.int .i64 g.tx, .int .i64 g.page, .int .i64 g.slot, .int .i64 g.mode])]) (ll := l6 ++ _) 14 rfl rfl HS 23 _ _ rfl rfl 1 rfl (.slice a6 1 c6) rfl sh23 HR7.out.one (by simp) [.slice aoh nh cph, .slice a6 1 c6] rfl (List.Sublist.cons _ (List.Sublist.cons _ (List.Sublist.cons_cons _ (List.nil_sublist _)))) ?_
                    clear HS; intro w HS
                    try simp only [Act.put, List.setIfInBounds_toArray, List.set_cons_zero, List.set_cons_succ]
                    refine hk_done (by kernel_rfl) ?_
                    try go_wp2_with fail
                    go_meet
                    exact ⟨_, l6, HR7, Lib.hid (HS.out.sub (by simp))⟩
                · skip
                  refine hx_load 9 (some 65) rfl rfl rfl HS (List.Sublist.cons _ (List.Sublist.cons _ (List.Sublist.cons_cons _ (List.nil_sublist _)))) 23 _ rfl 3 _ _ _ rfl 1 rfl _ sh23 (.slice none 0 cpw) rfl ?_
                  try simp only [Act.put, List.setIfInBounds_toArray, List.set_cons_zero, List.set_cons_succ]
                  refine hg_reg 11 (some 67) rfl rfl (by kernel_rfl) (by kernel_rfl) (by kernel_rfl) (fun _ _ _ _ h => h) HS (List.Sublist.cons _ (List.Sublist.cons _ (List.Sublist.cons_cons _ (List.nil_sublist _)))) (.slice none 0 cpw) rfl (fun _ => by exact run_sl_lo (ao := none) (n := 0) (cap := cpw) (k := 0) (s := 4) rfl Tryz.underlying23 (by kernel_rfl) rfl rfl (by omega) (sliced_hi4 none 0 cpw 4).symm) ?_
                  try simp only [Act.put, List.setIfInBounds_toArray, List.set_cons_zero, List.set_cons_succ]
                  refine hk_x2 1 6 (by kernel_rfl) ?_ ?_
                  · skip
                    refine hx_load 1 (some 57) rfl rfl rfl HS (List.Sublist.cons _ (List.Sublist.cons _ (List.Sublist.cons_cons _ (List.nil_sublist _)))) 23 _ rfl 3 _ _ _ rfl 1 rfl _ sh23 (.slice none 0 cpw) rfl ?_
                    try simp only [Act.put, List.setIfInBounds_toArray, List.set_cons_zero, List.set_cons_succ]
                    refine hg_reg 3 (some 59) rfl rfl (by kernel_rfl) (by kernel_rfl) (by kernel_rfl) (fun _ _ _ _ h => h) HS (List.Sublist.cons _ (List.Sublist.cons _ (List.Sublist.cons_cons _ (List.nil_sublist _)))) (.slice none 0 cpw) rfl (fun _ => by exact run_sl_hi (ao := none) (n := 0) (cap := cpw) (k := 0) (s := 4) rfl Tryz.underlying23 (by kernel_rfl) rfl rfl (by omega) (sliced_hi4 none 0 cpw 4).symm) ?_
                    try simp only [Act.put, List.setIfInBounds_toArray, List.set_cons_zero, List.set_cons_succ]
                    refine hg_reg 4 (some 60) rfl rfl (by kernel_rfl) (by kernel_rfl) (by kernel_rfl) (fun _ _ _ _ h => h) HS (List.Sublist.cons _ (List.Sublist.cons _ (List.Sublist.cons_cons _ (List.nil_sublist _)))) (.slice none 0 0) rfl (fun _ => by exact run_append_no none 0 0 cpw _ _ _ rfl 29 ie Tryz.underlying23 HIE.out rfl rfl (by omega) _) ?_
                    try simp only [Act.put, List.setIfInBounds_toArray, List.set_cons_zero, List.set_cons_succ]
                    refine hk_x1 6 (by kernel_rfl) ?_
                    refine hg_build 6 (some 62) rfl rfl rfl HS (List.Sublist.cons _ (List.Sublist.cons _ (List.Sublist.cons_cons _ (List.nil_sublist _)))) 23 29 1 [(0, .tmp 61)] rfl [(0, .agg g.arr)] rfl g.lst (fun w => build_grant g w) ?_
                    clear HS; intro w bn HS
                    replace HS := St4C HS
                    try simp only [Act.put, List.setIfInBounds_toArray, List.set_cons_zero, List.set_cons_succ]
                    refine hk_x1 7 (by kernel_rfl) ?_
                    refine hg_appendS 7 (some 63) rfl rfl rfl (front := []) (lr := []) (ll := _) HS (fun l9 => List.Sublist.trans (List.Sublist.cons _ (List.Sublist.cons _ (List.Sublist.cons_cons _ (List.nil_sublist _)))) (List.sublist_append_right l9 _)) _ _ 23 rfl 29 ie _ 4 _ Tryz.underlying23 HIE.out HIZ.out HIS.out rfl rfl (by decide) _ 0 [] rfl RowEnt.nil _ rfl 1 g.lst (SrcAt.box (HS.out.box (i := 0 + 4) (show _ = some (bn, 29, g.lst) by simp)) rfl rfl) (by unfold maxLen; omega) (Nat.le_trans (Nat.mul_le_mul (show 0 + 1 ≤ 300001 by omega) HIB.out) (by decide)) ?_
                    clear HS; intro v6 w l6 HS HR6
                    replace HS := St4A HS
                    replace HR6 : Hid (RowEnt 29 4 l6 v6 1 g.lst) := Lib.hid (by have h := HR6.out; rw [Nat.zero_add, List.nil_append] at h; exact h)
                    obtain ⟨a6, c6, rfl, hf6, -⟩ := row_form HR6.out
                    try simp only [Act.put, List.setIfInBounds_toArray, List.set_cons_zero, List.set_cons_succ]
                    refine hg_reg 12 (some 68) rfl rfl (by kernel_rfl) (by kernel_rfl) (by kernel_rfl) (fun _ _ _ _ h => h) HS (List.Sublist.cons _ (List.Sublist.cons _ (List.Sublist.cons_cons _ (List.nil_sublist _)))) (.slice a6 1 c6) rfl (fun _ => by exact run_append_no a6 1 c6 cpw _ _ _ rfl 29 ie Tryz.underlying23 HIE.out rfl rfl hf6 _) ?_
                    try simp only [Act.put, List.setIfInBounds_toArray, List.set_cons_zero, List.set_cons_succ]
                    refine hg_reg 13 (some 69) rfl rfl (by kernel_rfl) (by kernel_rfl) (by kernel_rfl) (fun _ _ _ _ h => h) HS (List.Sublist.cons _ (List.Sublist.cons _ (List.Sublist.cons_cons _ (List.nil_sublist _)))) (.pointer (some ⟨b2, 1, none⟩)) rfl (fun _ => by go_simp) ?_
                    try simp only [Act.put, List.setIfInBounds_toArray, List.set_cons_zero, List.set_cons_succ]
                    refine hk_x1 14 (by kernel_rfl) ?_
                    have HR7 : Hid (OwnRow 29 4 l6 (.slice a6 1 c6) (insW hs ws g).length (gL (insW hs ws g))) := Lib.hid (by have h := OwnRow.of HR6.out; unfold insW; rw [HW0.out]; simpa [gL_one] using h)
                    refine hg_storeM (front := [(b7, 29, zeroG.lst), (b4, 25, [.slice none 0 0, .slice none 0 0]), (b3, 29, [.int .i64 g.tx, .int .i64 g.page, .int .i64 g.slot, .int .i64 g.mode])]) (ll := l6 ++ _) 14 rfl rfl HS 23 _ _ rfl rfl 1 rfl (.slice a6 1 c6) rfl sh23 HR7.out.one (by simp) [.slice aoh nh cph, .slice a6 1 c6] rfl (List.Sublist.cons _ (List.Sublist.cons _ (List.Sublist.cons_cons _ (List.nil_sublist _)))) ?_
                    clear HS; intro w HS
                    try simp only [Act.put, List.setIfInBounds_toArray, List.set_cons_zero, List.set_cons_succ]
                    refine hk_done (by kernel_rfl) ?_
                    try go_wp2_with fail
                    go_meet
                    exact ⟨_, l6, HR7, Lib.hid (HS.out.sub (by simp))⟩
                  · skip
                    refine hg_build 6 (some 62) rfl rfl rfl HS (List.Sublist.cons _ (List.Sublist.cons _ (List.Sublist.cons_cons _ (List.nil_sublist _)))) 23 29 1 [(0, .tmp 61)] rfl [(0, .agg g.arr)] rfl g.lst (fun w => build_grant g w) ?_
                    clear HS; intro w bn HS
                    replace HS := St4C HS
                    try simp only [Act.put, List.setIfInBounds_toArray, List.set_cons_zero, List.set_cons_succ]
                    refine hk_x1 1 (by kernel_rfl) ?_
                    refine hx_load 1 (some 57) rfl rfl rfl HS (List.Sublist.cons _ (List.Sublist.cons _ (List.Sublist.cons_cons _ (List.nil_sublist _)))) 23 _ rfl 3 _ _ _ rfl 1 rfl _ sh23 (.slice none 0 cpw) rfl ?_
                    try simp only [Act.put, List.setIfInBounds_toArray, List.set_cons_zero, List.set_cons_succ]
                    refine hg_reg 3 (some 59) rfl rfl (by kernel_rfl) (by kernel_rfl) (by kernel_rfl) (fun _ _ _ _ h => h) HS (List.Sublist.cons _ (List.Sublist.cons _ (List.Sublist.cons_cons _ (List.nil_sublist _)))) (.slice none 0 cpw) rfl (fun _ => by exact run_sl_hi (ao := none) (n := 0) (cap := cpw) (k := 0) (s := 4) rfl Tryz.underlying23 (by kernel_rfl) rfl rfl (by omega) (sliced_hi4 none 0 cpw 4).symm) ?_
                    try simp only [Act.put, List.setIfInBounds_toArray, List.set_cons_zero, List.set_cons_succ]
                    refine hg_reg 4 (some 60) rfl rfl (by kernel_rfl) (by kernel_rfl) (by kernel_rfl) (fun _ _ _ _ h => h) HS (List.Sublist.cons _ (List.Sublist.cons _ (List.Sublist.cons_cons _ (List.nil_sublist _)))) (.slice none 0 0) rfl (fun _ => by exact run_append_no none 0 0 cpw _ _ _ rfl 29 ie Tryz.underlying23 HIE.out rfl rfl (by omega) _) ?_
                    try simp only [Act.put, List.setIfInBounds_toArray, List.set_cons_zero, List.set_cons_succ]
                    refine hk_x1 7 (by kernel_rfl) ?_
                    refine hg_appendS 7 (some 63) rfl rfl rfl (front := []) (lr := []) (ll := _) HS (fun l9 => List.Sublist.trans (List.Sublist.cons _ (List.Sublist.cons _ (List.Sublist.cons_cons _ (List.nil_sublist _)))) (List.sublist_append_right l9 _)) _ _ 23 rfl 29 ie _ 4 _ Tryz.underlying23 HIE.out HIZ.out HIS.out rfl rfl (by decide) _ 0 [] rfl RowEnt.nil _ rfl 1 g.lst (SrcAt.box (HS.out.box (i := 0 + 4) (show _ = some (bn, 29, g.lst) by simp)) rfl rfl) (by unfold maxLen; omega) (Nat.le_trans (Nat.mul_le_mul (show 0 + 1 ≤ 300001 by omega) HIB.out) (by decide)) ?_
                    clear HS; intro v6 w l6 HS HR6
                    replace HS := St4A HS
                    replace HR6 : Hid (RowEnt 29 4 l6 v6 1 g.lst) := Lib.hid (by have h := HR6.out; rw [Nat.zero_add, List.nil_append] at h; exact h)
                    obtain ⟨a6, c6, rfl, hf6, -⟩ := row_form HR6.out
                    try simp only [Act.put, List.setIfInBounds_toArray, List.set_cons_zero, List.set_cons_succ]
                    refine hg_reg 12 (some 68) rfl rfl (by kernel_rfl) (by kernel_rfl) (by kernel_rfl) (fun _ _ _ _ h => h) HS (List.Sublist.cons _ (List.Sublist.cons _ (List.Sublist.cons_cons _ (List.nil_sublist _)))) (.slice a6 1 c6) rfl (fun _ => by exact run_append_no a6 1 c6 cpw _ _ _ rfl 29 ie Tryz.underlying23 HIE.out rfl rfl hf6 _) ?_
                    try simp only [Act.put, List.setIfInBounds_toArray, List.set_cons_zero, List.set_cons_succ]
                    refine hg_reg 13 (some 69) rfl rfl (by kernel_rfl) (by kernel_rfl) (by kernel_rfl) (fun _ _ _ _ h => h) HS (List.Sublist.cons _ (List.Sublist.cons _ (List.Sublist.cons_cons _ (List.nil_sublist _)))) (.pointer (some ⟨b2, 1, none⟩)) rfl (fun _ => by go_simp) ?_
                    try simp only [Act.put, List.setIfInBounds_toArray, List.set_cons_zero, List.set_cons_succ]
                    refine hk_x1 14 (by kernel_rfl) ?_
                    have HR7 : Hid (OwnRow 29 4 l6 (.slice a6 1 c6) (insW hs ws g).length (gL (insW hs ws g))) := Lib.hid (by have h := OwnRow.of HR6.out; unfold insW; rw [HW0.out]; simpa [gL_one] using h)
                    refine hg_storeM (front := [(b7, 29, zeroG.lst), (b4, 25, [.slice none 0 0, .slice none 0 0]), (b3, 29, [.int .i64 g.tx, .int .i64 g.page, .int .i64 g.slot, .int .i64 g.mode])]) (ll := l6 ++ _) 14 rfl rfl HS 23 _ _ rfl rfl 1 rfl (.slice a6 1 c6) rfl sh23 HR7.out.one (by simp) [.slice aoh nh cph, .slice a6 1 c6] rfl (List.Sublist.cons _ (List.Sublist.cons _ (List.Sublist.cons_cons _ (List.nil_sublist _)))) ?_
                    clear HS; intro w HS
                    try simp only [Act.put, List.setIfInBounds_toArray, List.set_cons_zero, List.set_cons_succ]
                    refine hk_done (by kernel_rfl) ?_
                    try go_wp2_with fail
                    go_meet
                    exact ⟨_, l6, HR7, Lib.hid (HS.out.sub (by simp))⟩
              | some ad =>
                subst hao
                obtain ⟨sv, hsv⟩ : ∃ sv, sv = sliced (some ad) pl nw cpw 4 := ⟨_, rfl⟩
                have HSV := Lib.hid hsv
                obtain ⟨n2, hn2⟩ : ∃ n2, n2 = nw - pl := ⟨_, rfl⟩
                have HN2 := Lib.hid hn2
                have hn3 : n2 + pl = nw := by omega
                clear hsv hn2
                refine hg_begin [(b3, 29, [.int .i64 g.tx, .int .i64 g.page, .int .i64 g.slot, .int .i64 g.mode])] HS (by kernel_rfl) ?_
                clear HS; intro w HS
                refine hg_reg 0 (some 56) rfl rfl (by kernel_rfl) (by kernel_rfl) (by kernel_rfl) (fun _ _ _ _ h => h) HS (List.Sublist.cons _ (List.Sublist.cons _ (List.Sublist.cons_cons _ (List.nil_sublist _)))) (.pointer (some ⟨b2, 1, none⟩)) rfl (fun _ => by go_simp) ?_
                try simp only [Act.put, List.setIfInBounds_toArray, List.set_cons_zero, List.set_cons_succ]
                refine hg_reg 2 (some 58) rfl rfl (by kernel_rfl) (by kernel_rfl) (by kernel_rfl) (fun _ _ _ _ h => h) HS (List.Sublist.cons _ (List.Sublist.cons _ (List.Sublist.cons_cons _ (List.nil_sublist _)))) (.int .i64 (pl : Int)) rfl (fun _ => by rfl) ?_
                try simp only [Act.put, List.setIfInBounds_toArray, List.set_cons_zero, List.set_cons_succ]
                refine hg_loads 5 (some 61) rfl rfl (by kernel_rfl) (by kernel_rfl) (by kernel_rfl) (fun _ _ _ _ h => h) HS (List.Sublist.cons _ (List.Sublist.cons _ (List.Sublist.cons_cons _ (List.nil_sublist _)))) rfl 29 _ rfl 0 _ _ _ rfl 0 rfl 4 sh29 [.int .i64 g.tx, .int .i64 g.page, .int .i64 g.slot, .int .i64 g.mode] rfl ⟨rfl, rfl, rfl, rfl, trivial⟩ ?_
                try simp only [Act.put, List.setIfInBounds_toArray, List.set_cons_zero, List.set_cons_succ]
                refine hg_reg 8 (some 64) rfl rfl (by kernel_rfl) (by kernel_rfl) (by kernel_rfl) (fun _ _ _ _ h => h) HS (List.Sublist.cons _ (List.Sublist.cons _ (List.Sublist.cons_cons _ (List.nil_sublist _)))) (.pointer (some ⟨b2, 1, none⟩)) rfl (fun _ => by go_simp) ?_
                try simp only [Act.put, List.setIfInBounds_toArray, List.set_cons_zero, List.set_cons_succ]
                refine hg_reg 10 (some 66) rfl rfl (by kernel_rfl) (by kernel_rfl) (by kernel_rfl) (fun _ _ _ _ h => h) HS (List.Sublist.cons _ (List.Sublist.cons _ (List.Sublist.cons_cons _ (List.nil_sublist _)))) (.int .i64 (pl : Int)) rfl (fun _ => by rfl) ?_
                try simp only [Act.put, List.setIfInBounds_toArray, List.set_cons_zero, List.set_cons_succ]
                refine hk_x3 1 6 9 (by kernel_rfl) ?_ ?_ ?_
                · skip
                  refine hx_load 1 (some 57) rfl rfl rfl HS (List.Sublist.cons _ (List.Sublist.cons _ (List.Sublist.cons_cons _ (List.nil_sublist _)))) 23 _ rfl 3 _ _ _ rfl 1 rfl _ sh23 (.slice (some ad) nw cpw) rfl ?_
                  try simp only [Act.put, List.setIfInBounds_toArray, List.set_cons_zero, List.set_cons_succ]
                  refine hg_reg 3 (some 59) rfl rfl (by kernel_rfl) (by kernel_rfl) (by kernel_rfl) (fun _ _ _ _ h => h) HS (List.Sublist.cons _ (List.Sublist.cons _ (List.Sublist.cons_cons _ (List.nil_sublist _)))) (.slice (some ad) pl cpw) rfl (fun _ => by exact run_sl_hi (n := nw) (s := 4) rfl Tryz.underlying23 (by kernel_rfl) rfl rfl (by omega) (sliced_hi4 _ _ _ 4).symm) ?_
                  try simp only [Act.put, List.setIfInBounds_toArray, List.set_cons_zero, List.set_cons_succ]
                  refine hk_x3 4 6 9 (by kernel_rfl) ?_ ?_ ?_
                  · skip
                    refine hg_appendS 4 (some 60) rfl rfl rfl (front := []) (lr := []) (ll := _) HS (fun l9 => List.Sublist.trans (List.Sublist.cons _ (List.Sublist.cons _ (List.Sublist.cons_cons _ (List.nil_sublist _)))) (List.sublist_append_right l9 _)) _ _ 23 rfl 29 ie _ 4 _ Tryz.underlying23 HIE.out HIZ.out HIS.out rfl rfl (by decide) _ 0 [] rfl RowEnt.nil _ rfl pl (gL (ws.take pl)) ((HGw.out.ext HS.out.isExt).hi (by omega)) (by unfold maxLen; omega) (Nat.le_trans (Nat.mul_le_mul (show 0 + pl ≤ 300001 by omega) HIB.out) (by decide)) ?_
                    clear HS; intro v5 w l5 HS HR5
                    replace HS := St4A HS
                    replace HR5 : Hid (RowEnt 29 4 l5 v5 pl (gL (ws.take pl))) := Lib.hid (by have h := HR5.out; rw [Nat.zero_add, List.nil_append] at h; exact h)
                    try simp only [Act.put, List.setIfInBounds_toArray, List.set_cons_zero, List.set_cons_succ]
                    refine hk_x2 6 9 (by kernel_rfl) ?_ ?_
                    · skip
                      refine hg_build 6 (some 62) rfl rfl rfl HS (List.Sublist.cons _ (List.Sublist.cons _ (List.Sublist.cons_cons _ (List.nil_sublist _)))) 23 29 1 [(0, .tmp 61)] rfl [(0, .agg g.arr)] rfl g.lst (fun w => build_grant g w) ?_
                      clear HS; intro w bn HS
                      replace HS := St4D HS
                      try simp only [Act.put, List.setIfInBounds_toArray, List.set_cons_zero, List.set_cons_succ]
                      refine hk_x2 7 9 (by kernel_rfl) ?_ ?_
                      · skip
                        replace HS := St4B HS
                        refine hg_appendS 7 (some 63) rfl rfl rfl (front := []) (lr := l5) (ll := _) HS (fun l9 => List.Sublist.trans (List.Sublist.cons _ (List.Sublist.cons _ (List.Sublist.cons_cons _ (List.nil_sublist _)))) (List.sublist_append_right l9 _)) _ _ 23 rfl 29 ie _ 4 _ Tryz.underlying23 HIE.out HIZ.out HIS.out rfl rfl (by decide) _ pl (gL (ws.take pl)) rfl HR5.out _ rfl 1 g.lst (SrcAt.box (HS.out.box (i := l5.length + 4) (show _ = some (bn, 29, g.lst) by simp)) rfl rfl) (by unfold maxLen; omega) (Nat.le_trans (Nat.mul_le_mul (show pl + 1 ≤ 300001 by omega) HIB.out) (by decide)) ?_
                        clear HS HR5; intro v6 w l6 HS HR6
                        replace HS := St4A HS
                        try simp only [Act.put, List.setIfInBounds_toArray, List.set_cons_zero, List.set_cons_succ]
                        refine hk_x1 9 (by kernel_rfl) ?_
                        refine hx_load 9 (some 65) rfl rfl rfl HS (List.Sublist.cons _ (List.Sublist.cons _ (List.Sublist.cons_cons _ (List.nil_sublist _)))) 23 _ rfl 3 _ _ _ rfl 1 rfl _ sh23 (.slice (some ad) nw cpw) rfl ?_
                        try simp only [Act.put, List.setIfInBounds_toArray, List.set_cons_zero, List.set_cons_succ]
                        refine hg_reg 11 (some 67) rfl rfl (by kernel_rfl) (by kernel_rfl) (by kernel_rfl) (fun _ _ _ _ h => h) HS (List.Sublist.cons _ (List.Sublist.cons _ (List.Sublist.cons_cons _ (List.nil_sublist _)))) (sv) rfl (fun _ => by exact run_sl_lo (ao := some ad) (n := nw) (cap := cpw) (k := pl) (s := 4) rfl Tryz.underlying23 (by kernel_rfl) rfl rfl (by omega) HSV.out) ?_
                        try simp only [Act.put, List.setIfInBounds_toArray, List.set_cons_zero, List.set_cons_succ]
                        refine hk_x1 12 (by kernel_rfl) ?_
                        replace HS := St4B HS
                        refine hg_appendS 12 (some 68) rfl rfl rfl (front := []) (lr := l6) (ll := _) HS (fun l9 => List.Sublist.trans (List.Sublist.cons _ (List.Sublist.cons _ (List.Sublist.cons_cons _ (List.nil_sublist _)))) (List.sublist_append_right l9 _)) _ _ 23 rfl 29 ie _ 4 _ Tryz.underlying23 HIE.out HIZ.out HIS.out rfl rfl (by decide) _ (pl + 1) (gL (ws.take pl) ++ g.lst) rfl HR6.out _ rfl n2 (gL (ws.drop pl)) (by rw [HSV.out, HN2.out]; exact (HGw.out.ext HS.out.isExt).lo (by omega)) (by unfold maxLen; omega) (Nat.le_trans (Nat.mul_le_mul (show (pl + 1) + n2 ≤ 300001 by omega) HIB.out) (by decide)) ?_
                        clear HS HR6; intro v7 w l7 HS HR7
                        replace HS := St4A HS
                        try simp only [Act.put, List.setIfInBounds_toArray, List.set_cons_zero, List.set_cons_succ]
                        refine hg_reg 13 (some 69) rfl rfl (by kernel_rfl) (by kernel_rfl) (by kernel_rfl) (fun _ _ _ _ h => h) HS (List.Sublist.cons _ (List.Sublist.cons _ (List.Sublist.cons_cons _ (List.nil_sublist _)))) (.pointer (some ⟨b2, 1, none⟩)) rfl (fun _ => by go_simp) ?_
                        try simp only [Act.put, List.setIfInBounds_toArray, List.set_cons_zero, List.set_cons_succ]
                        refine hk_x1 14 (by kernel_rfl) ?_
                        have HR8 := HR7
                        clear HR7
                        have HR7 : Hid (OwnRow 29 4 l7 v7 (insW hs ws g).length (gL (insW hs ws g))) := Lib.hid (by have h := OwnRow.of HR8.out; unfold insW; rw [← HPL.out, gL_append, gL_cons, List.length_append, List.length_cons, List.length_take, List.length_drop, ← HNw.out, ← HN2.out, Nat.min_eq_left (by omega), ← List.append_assoc, show pl + (n2 + 1) = pl + 1 + n2 by omega]; exact h)
                        refine hg_storeM (front := [(b7, 29, zeroG.lst), (b4, 25, [.slice none 0 0, .slice none 0 0]), (b3, 29, [.int .i64 g.tx, .int .i64 g.page, .int .i64 g.slot, .int .i64 g.mode])]) (ll := l7 ++ _) 14 rfl rfl HS 23 _ _ rfl rfl 1 rfl (v7) rfl sh23 HR7.out.one (by simp) [.slice aoh nh cph, v7] rfl (List.Sublist.cons _ (List.Sublist.cons _ (List.Sublist.cons_cons _ (List.nil_sublist _)))) ?_
                        clear HS; intro w HS
                        try simp only [Act.put, List.setIfInBounds_toArray, List.set_cons_zero, List.set_cons_succ]
                        refine hk_done (by kernel_rfl) ?_
                        try go_wp2_with fail
                        go_meet
                        exact ⟨_, l7, HR7, Lib.hid (HS.out.sub (by simp))⟩
                      · skip
                        refine hx_load 9 (some 65) rfl rfl rfl HS (List.Sublist.cons _ (List.Sublist.cons _ (List.Sublist.cons_cons _ (List.nil_sublist _)))) 23 _ rfl 3 _ _ _ rfl 1 rfl _ sh23 (.slice (some ad) nw cpw) rfl ?_
                        try simp only [Act.put, List.setIfInBounds_toArray, List.set_cons_zero, List.set_cons_succ]
                        refine hg_reg 11 (some 67) rfl rfl (by kernel_rfl) (by kernel_rfl) (by kernel_rfl) (fun _ _ _ _ h => h) HS (List.Sublist.cons _ (List.Sublist.cons _ (List.Sublist.cons_cons _ (List.nil_sublist _)))) (sv) rfl (fun _ => by exact run_sl_lo (ao := some ad) (n := nw) (cap := cpw) (k := pl) (s := 4) rfl Tryz.underlying23 (by kernel_rfl) rfl rfl (by omega) HSV.out) ?_
                        try simp only [Act.put, List.setIfInBounds_toArray, List.set_cons_zero, List.set_cons_succ]
                        refine hk_x1 7 (by kernel_rfl) ?_
                        replace HS := St4B HS
                        refine hg_appendS 7 (some 63) rfl rfl rfl (front := []) (lr := l5) (ll := _) HS (fun l9 => List.Sublist.trans (List.Sublist.cons _ (List.Sublist.cons _ (List.Sublist.cons_cons _ (List.nil_sublist _)))) (List.sublist_append_right l9 _)) _ _ 23 rfl 29 ie _ 4 _ Tryz.underlying23 HIE.out HIZ.out HIS.out rfl rfl (by decide) _ pl (gL (ws.take pl)) rfl HR5.out _ rfl 1 g.lst (SrcAt.box (HS.out.box (i := l5.length + 4) (show _ = some (bn, 29, g.lst) by simp)) rfl rfl) (by unfold maxLen; omega) (Nat.le_trans (Nat.mul_le_mul (show pl + 1 ≤ 300001 by omega) HIB.out) (by decide)) ?_
                        clear HS HR5; intro v6 w l6 HS HR6
                        replace HS := St4A HS
                        try simp only [Act.put, List.setIfInBounds_toArray, List.set_cons_zero, List.set_cons_succ]
                        refine hk_x1 12 (by kernel_rfl) ?_
                        replace HS := St4B HS
                        refine hg_appendS 12 (some 68) rfl rfl rfl (front := []) (lr := l6) (ll := _) HS (fun l9 => List.Sublist.trans (List.Sublist.cons _ (List.Sublist.cons _ (List.Sublist.cons_cons _ (List.nil_sublist _)))) (List.sublist_append_right l9 _)) _ _ 23 rfl 29 ie _ 4 _ Tryz.underlying23 HIE.out HIZ.out HIS.out rfl rfl (by decide) _ (pl + 1) (gL (ws.take pl) ++ g.lst) rfl HR6.out _ rfl n2 (gL (ws.drop pl)) (by rw [HSV.out, HN2.out]; exact (HGw.out.ext HS.out.isExt).lo (by omega)) (by unfold maxLen; omega) (Nat.le_trans (Nat.mul_le_mul (show (pl + 1) + n2 ≤ 300001 by omega) HIB.out) (by decide)) ?_
                        clear HS HR6; intro v7 w l7 HS HR7
                        replace HS := St4A HS
                        try simp only [Act.put, List.setIfInBounds_toArray, List.set_cons_zero, List.set_cons_succ]
                        refine hg_reg 13 (some 69) rfl rfl (by kernel_rfl) (by kernel_rfl) (by kernel_rfl) (fun _ _ _ _ h => h) HS (List.Sublist.cons _ (List.Sublist.cons _ (List.Sublist.cons_cons _ (List.nil_sublist _)))) (.pointer (some ⟨b2, 1, none⟩)) rfl (fun _ => by go_simp) ?_
                        try simp only [Act.put, List.setIfInBounds_toArray, List.set_cons_zero, List.set_cons_succ]
                        refine hk_x1 14 (by kernel_rfl) ?_
                        have HR8 := HR7
                        clear HR7
                        have HR7 : Hid (OwnRow 29 4 l7 v7 (insW hs ws g).length (gL (insW hs ws g))) := Lib.hid (by have h := OwnRow.of HR8.out; unfold insW; rw [← HPL.out, gL_append, gL_cons, List.length_append, List.length_cons, List.length_take, List.length_drop, ← HNw.out, ← HN2.out, Nat.min_eq_left (by omega), ← List.append_assoc, show pl + (n2 + 1) = pl + 1 + n2 by omega]; exact h)
                        refine hg_storeM (front := [(b7, 29, zeroG.lst), (b4, 25, [.slice none 0 0, .slice none 0 0]), (b3, 29, [.int .i64 g.tx, .int .i64 g.page, .int .i64 g.slot, .int .i64 g.mode])]) (ll := l7 ++ _) 14 rfl rfl HS 23 _ _ rfl rfl 1 rfl (v7) rfl sh23 HR7.out.one (by simp) [.slice aoh nh cph, v7] rfl (List.Sublist.cons _ (List.Sublist.cons _ (List.Sublist.cons_cons _ (List.nil_sublist _)))) ?_
                        clear HS; intro w HS
                        try simp only [Act.put, List.setIfInBounds_toArray, List.set_cons_zero, List.set_cons_succ]
                        refine hk_done (by kernel_rfl) ?_
                        try go_wp2_with fail
                        go_meet
                        exact ⟨_, l7, HR7, Lib.hid (HS.out.sub (by simp))⟩
                    · skip
                      refine hx_load 9 (some 65) rfl rfl rfl HS (List.Sublist.cons _ (List.Sublist.cons _ (List.Sublist.cons_cons _ (List.nil_sublist _)))) 23 _ rfl 3 _ _ _ rfl 1 rfl _ sh23 (.slice (some ad) nw cpw) rfl ?_
                      try simp only [Act.put, List.setIfInBounds_toArray, List.set_cons_zero, List.set_cons_succ]
                      refine hg_reg 11 (some 67) rfl rfl (by kernel_rfl) (by kernel_rfl) (by kernel_rfl) (fun _ _ _ _ h => h) HS (List.Sublist.cons _ (List.Sublist.cons _ (List.Sublist.cons_cons _ (List.nil_sublist _)))) (sv) rfl (fun _ => by exact run_sl_lo (ao := some ad) (n := nw) (cap := cpw) (k := pl) (s := 4) rfl Tryz.underlying23 (by kernel_rfl) rfl rfl (by omega) HSV.out) ?_
                      try simp only [Act.put, List.setIfInBounds_toArray, List.set_cons_zero, List.set_cons_succ]
                      refine hk_x1 6 (by kernel_rfl) ?_
                      refine hg_build 6 (some 62) rfl rfl rfl HS (List.Sublist.cons _ (List.Sublist.cons _ (List.Sublist.cons_cons _ (List.nil_sublist _)))) 23 29 1 [(0, .tmp 61)] rfl [(0, .agg g.arr)] rfl g.lst (fun w => build_grant g w) ?_
                      clear HS; intro w bn HS
                      replace HS := St4D HS
                      try simp only [Act.put, List.setIfInBounds_toArray, List.set_cons_zero, List.set_cons_succ]
                      refine hk_x1 7 (by kernel_rfl) ?_
                      replace HS := St4B HS
                      refine hg_appendS 7 (some 63) rfl rfl rfl (front := []) (lr := l5) (ll := _) HS (fun l9 => List.Sublist.trans (List.Sublist.cons _ (List.Sublist.cons _ (List.Sublist.cons_cons _ (List.nil_sublist _)))) (List.sublist_append_right l9 _)) _ _ 23 rfl 29 ie _ 4 _ Tryz.underlying23 HIE.out HIZ.out HIS.out rfl rfl (by decide) _ pl (gL (ws.take pl)) rfl HR5.out _ rfl 1 g.lst (SrcAt.box (HS.out.box (i := l5.length + 4) (show _ = some (bn, 29, g.lst) by simp)) rfl rfl) (by unfold maxLen; omega) (Nat.le_trans (Nat.mul_le_mul (show pl + 1 ≤ 300001 by omega) HIB.out) (by decide)) ?_
                      clear HS HR5; intro v6 w l6 HS HR6
                      replace HS := St4A HS
                      try simp only [Act.put, List.setIfInBounds_toArray, List.set_cons_zero, List.set_cons_succ]
                      refine hk_x1 12 (by kernel_rfl) ?_
                      replace HS := St4B HS
                      refine hg_appendS 12 (some 68) rfl rfl rfl (front := []) (lr := l6) (ll := _) HS (fun l9 => List.Sublist.trans (List.Sublist.cons _ (List.Sublist.cons _ (List.Sublist.cons_cons _ (List.nil_sublist _)))) (List.sublist_append_right l9 _)) _ _ 23 rfl 29 ie _ 4 _ Tryz.underlying23 HIE.out HIZ.out HIS.out rfl rfl (by decide) _ (pl + 1) (gL (ws.take pl) ++ g.lst) rfl HR6.out _ rfl n2 (gL (ws.drop pl)) (by rw [HSV.out, HN2.out]; exact (HGw.out.ext HS.out.isExt).lo (by omega)) (by unfold maxLen; omega) (Nat.le_trans (Nat.mul_le_mul (show (pl + 1) + n2 ≤ 300001 by omega) HIB.out) (by decide)) ?_
                      clear HS HR6; intro v7 w l7 HS HR7
                      replace HS := St4A HS
                      try simp only [Act.put, List.setIfInBounds_toArray, List.set_cons_zero, List.set_cons_succ]
                      refine hg_reg 13 (some 69) rfl rfl (by kernel_rfl) (by kernel_rfl) (by kernel_rfl) (fun _ _ _ _ h => h) HS (List.Sublist.cons _ (List.Sublist.cons _ (List.Sublist.cons_cons _ (List.nil_sublist _)))) (.pointer (some ⟨b2, 1, none⟩)) rfl (fun _ => by go_simp) ?_
                      try simp only [Act.put, List.setIfInBounds_toArray, List.set_cons_zero, List.set_cons_succ]
                      refine hk_x1 14 (by kernel_rfl) ?_
                      have HR8 := HR7
                      clear HR7
                      have HR7 : Hid (OwnRow 29 4 l7 v7 (insW hs ws g).length (gL (insW hs ws g))) := Lib.hid (by have h := OwnRow.of HR8.out; unfold insW; rw [← HPL.out, gL_append, gL_cons, List.length_append, List.length_cons, List.length_take, List.length_drop, ← HNw.out, ← HN2.out, Nat.min_eq_left (by omega), ← List.append_assoc, show pl + (n2 + 1) = pl + 1 + n2 by omega]; exact h)
                      refine hg_storeM (front := [(b7, 29, zeroG.lst), (b4, 25, [.slice none 0 0, .slice none 0 0]), (b3, 29, [.int .i64 g.tx, .int .i64 g.page, .int .i64 g.slot, .int .i64 g.mode])]) (ll := l7 ++ _) 14 rfl rfl HS 23 _ _ rfl rfl 1 rfl (v7) rfl sh23 HR7.out.one (by simp) [.slice aoh nh cph, v7] rfl (List.Sublist.cons _ (List.Sublist.cons _ (List.Sublist.cons_cons _ (List.nil_sublist _)))) ?_
                      clear HS; intro w HS
                      try simp only [Act.put, List.setIfInBounds_toArray, List.set_cons_zero, List.set_cons_succ]
                      refine hk_done (by kernel_rfl) ?_
                      try go_wp2_with fail
                      go_meet
                      exact ⟨_, l7, HR7, Lib.hid (HS.out.sub (by simp))⟩
                  · skip
                    refine hg_build 6 (some 62) rfl rfl rfl HS (List.Sublist.cons _ (List.Sublist.cons _ (List.Sublist.cons_cons _ (List.nil_sublist _)))) 23 29 1 [(0, .tmp 61)] rfl [(0, .agg g.arr)] rfl g.lst (fun w => build_grant g w) ?_
                    clear HS; intro w bn HS
                    replace HS := St4C HS
                    try simp only [Act.put, List.setIfInBounds_toArray, List.set_cons_zero, List.set_cons_succ]
                    refine hk_x2 4 9 (by kernel_rfl) ?_ ?_
                    · skip
                      refine hg_appendS 4 (some 60) rfl rfl rfl (front := []) (lr := []) (ll := _) HS (fun l9 => List.Sublist.trans (List.Sublist.cons _ (List.Sublist.cons _ (List.Sublist.cons_cons _ (List.nil_sublist _)))) (List.sublist_append_right l9 _)) _ _ 23 rfl 29 ie _ 4 _ Tryz.underlying23 HIE.out HIZ.out HIS.out rfl rfl (by decide) _ 0 [] rfl RowEnt.nil _ rfl pl (gL (ws.take pl)) ((HGw.out.ext HS.out.isExt).hi (by omega)) (by unfold maxLen; omega) (Nat.le_trans (Nat.mul_le_mul (show 0 + pl ≤ 300001 by omega) HIB.out) (by decide)) ?_
                      clear HS; intro v5 w l5 HS HR5
                      replace HS := St4A HS
                      replace HR5 : Hid (RowEnt 29 4 l5 v5 pl (gL (ws.take pl))) := Lib.hid (by have h := HR5.out; rw [Nat.zero_add, List.nil_append] at h; exact h)
                      try simp only [Act.put, List.setIfInBounds_toArray, List.set_cons_zero, List.set_cons_succ]
                      refine hk_x2 7 9 (by kernel_rfl) ?_ ?_
                      · skip
                        replace HS := St4B HS
                        refine hg_appendS 7 (some 63) rfl rfl rfl (front := []) (lr := l5) (ll := _) HS (fun l9 => List.Sublist.trans (List.Sublist.cons _ (List.Sublist.cons _ (List.Sublist.cons_cons _ (List.nil_sublist _)))) (List.sublist_append_right l9 _)) _ _ 23 rfl 29 ie _ 4 _ Tryz.underlying23 HIE.out HIZ.out HIS.out rfl rfl (by decide) _ pl (gL (ws.take pl)) rfl HR5.out _ rfl 1 g.lst (SrcAt.box (HS.out.box (i := l5.length + 4) (show _ = some (bn, 29, g.lst) by simp)) rfl rfl) (by unfold maxLen; omega) (Nat.le_trans (Nat.mul_le_mul (show pl + 1 ≤ 300001 by omega) HIB.out) (by decide)) ?_
                        clear HS HR5; intro v6 w l6 HS HR6
                        replace HS := St4A HS
                        try simp only [Act.put, List.setIfInBounds_toArray, List.set_cons_zero, List.set_cons_succ]
                        refine hk_x1 9 (by kernel_rfl) ?_
                        refine hx_load 9 (some 65) rfl rfl rfl HS (List.Sublist.cons _ (List.Sublist.cons _ (List.Sublist.cons_cons _ (List.nil_sublist _)))) 23 _ rfl 3 _ _ _ rfl 1 rfl _ sh23 (.slice (some ad) nw cpw) rfl ?_
                        try simp only [Act.put, List.setIfInBounds_toArray, List.set_cons_zero, List.set_cons_succ]
                        refine hg_reg 11 (some 67) rfl rfl (by kernel_rfl) (by kernel_rfl) (by kernel_rfl) (fun _ _ _ _ h => h) HS (List.Sublist.cons _ (List.Sublist.cons _ (List.Sublist.cons_cons _ (List.nil_sublist _)))) (sv) rfl (fun _ => by exact run_sl_lo (ao := some ad) (n := nw) (cap := cpw) (k := pl) (s := 4) rfl Tryz.underlying23 (by kernel_rfl) rfl rfl (by omega) HSV.out) ?_
                        try simp only [Act.put, List.setIfInBounds_toArray, List.set_cons_zero, List.set_cons_succ]
                        refine hk_x1 12 (by kernel_rfl) ?_
                        replace HS := St4B HS
                        refine hg_appendS 12 (some 68) rfl rfl rfl (front := []) (lr := l6) (ll := _) HS (fun l9 => List.Sublist.trans (List.Sublist.cons _ (List.Sublist.cons _ (List.Sublist.cons_cons _ (List.nil_sublist _)))) (List.sublist_append_right l9 _)) _ _ 23 rfl 29 ie _ 4 _ Tryz.underlying23 HIE.out HIZ.out HIS.out rfl rfl (by decide) _ (pl + 1) (gL (ws.take pl) ++ g.lst) rfl HR6.out _ rfl n2 (gL (ws.drop pl)) (by rw [HSV.out, HN2.out]; exact (HGw.out.ext HS.out.isExt).lo (by omega)) (by unfold maxLen; omega) (Nat.le_trans (Nat.mul_le_mul (show (pl + 1) + n2 ≤ 300001 by omega) HIB.out) (by decide)) ?_
                        clear HS HR6; intro v7 w l7 HS HR7
                        replace HS := St4A HS
                        try simp only [Act.put, List.setIfInBounds_toArray, List.set_cons_zero, List.set_cons_succ]
                        refine hg_reg 13 (some 69) rfl rfl (by kernel_rfl) (by kernel_rfl) (by kernel_rfl) (fun _ _ _ _ h => h) HS (List.Sublist.cons _ (List.Sublist.cons _ (List.Sublist.cons_cons _ (List.nil_sublist _)))) (.pointer (some ⟨b2, 1, none⟩)) rfl (fun _ => by go_simp) ?_
                        try simp only [Act.put, List.setIfInBounds_toArray, List.set_cons_zero, List.set_cons_succ]
                        refine hk_x1 14 (by kernel_rfl) ?_
                        have HR8 := HR7
                        clear HR7
                        have HR7 : Hid (OwnRow 29 4 l7 v7 (insW hs ws g).length (gL (insW hs ws g))) := Lib.hid (by have h := OwnRow.of HR8.out; unfold insW; rw [← HPL.out, gL_append, gL_cons, List.length_append, List.length_cons, List.length_take, List.length_drop, ← HNw.out, ← HN2.out, Nat.min_eq_left (by omega), ← List.append_assoc, show pl + (n2 + 1) = pl + 1 + n2 by omega]; exact h)
                        refine hg_storeM (front := [(b7, 29, zeroG.lst), (b4, 25, [.slice none 0 0, .slice none 0 0]), (b3, 29, [.int .i64 g.tx, .int .i64 g.page, .int .i64 g.slot, .int .i64 g.mode])]) (ll := l7 ++ _) 14 rfl rfl HS 23 _ _ rfl rfl 1 rfl (v7) rfl sh23 HR7.out.one (by simp) [.slice aoh nh cph, v7] rfl (List.Sublist.cons _ (List.Sublist.cons _ (List.Sublist.cons_cons _ (List.nil_sublist _)))) ?_
                        clear HS; intro w HS
                        try simp only [Act.put, List.setIfInBounds_toArray, List.set_cons_zero, List.set_cons_succ]
                        refine hk_done (by kernel_rfl) ?_
                        try go_wp2_with fail
                        go_meet
                        exact ⟨_, l7, HR7, Lib.hid (HS.out.sub (by simp))⟩
                      · skip
                        refine hx_load 9 (some 65) rfl rfl rfl HS (List.Sublist.cons _ (List.Sublist.cons _ (List.Sublist.cons_cons _ (List.nil_sublist _)))) 23 _ rfl 3 _ _ _ rfl 1 rfl _ sh23 (.slice (some ad) nw cpw) rfl ?_
                        try simp only [Act.put, List.setIfInBounds_toArray, List.set_cons_zero, List.set_cons_succ]
                        refine hg_reg 11 (some 67) rfl rfl (by kernel_rfl) (by kernel_rfl) (by kernel_rfl) (fun _ _ _ _ h => h) HS (List.Sublist.cons _ (List.Sublist.cons _ (List.Sublist.cons_cons _ (List.nil_sublist _)))) (sv) rfl (fun _ => by exact run_sl_lo (ao := some ad) (n := nw) (cap := cpw) (k := pl) (s := 4) rfl Tryz.underlying23 (by kernel_rfl) rfl rfl (by omega) HSV.out) ?_
                        try simp only [Act.put, List.setIfInBounds_toArray, List.set_cons_zero, List.set_cons_succ]
                        refine hk_x1 7 (by kernel_rfl) ?_
                        replace HS := St4B HS
                        refine hg_appendS 7 (some 63) rfl rfl rfl (front := []) (lr := l5) (ll := _) HS (fun l9 => List.Sublist.trans (List.Sublist.cons _ (List.Sublist.cons _ (List.Sublist.cons_cons _ (List.nil_sublist _)))) (List.sublist_append_right l9 _)) _ _ 23 rfl 29 ie _ 4 _ Tryz.underlying23 HIE.out HIZ.out HIS.out rfl rfl (by decide) _ pl (gL (ws.take pl)) rfl HR5.out _ rfl 1 g.lst (SrcAt.box (HS.out.box (i := l5.length + 4) (show _ = some (bn, 29, g.lst) by simp)) rfl rfl) (by unfold maxLen; omega) (Nat.le_trans (Nat.mul_le_mul (show pl + 1 ≤ 300001 by omega) HIB.out) (by decide)) ?_
                        clear HS HR5; intro v6 w l6 HS HR6
                        replace HS := St4A HS
                        try simp only [Act.put, List.setIfInBounds_toArray, List.set_cons_zero, List.set_cons_succ]
                        refine hk_x1 12 (by kernel_rfl) ?_
                        replace HS := St4B HS
                        refine hg_appendS 12 (some 68) rfl rfl rfl (front := []) (lr := l6) (ll := _) HS (fun l9 => List.Sublist.trans (List.Sublist.cons _ (List.Sublist.cons _ (List.Sublist.cons_cons _ (List.nil_sublist _)))) (List.sublist_append_right l9 _)) _ _ 23 rfl 29 ie _ 4 _ Tryz.underlying23 HIE.out HIZ.out HIS.out rfl rfl (by decide) _ (pl + 1) (gL (ws.take pl) ++ g.lst) rfl HR6.out _ rfl n2 (gL (ws.drop pl)) (by rw [HSV.out, HN2.out]; exact (HGw.out.ext HS.out.isExt).lo (by omega)) (by unfold maxLen; omega) (Nat.le_trans (Nat.mul_le_mul (show (pl + 1) + n2 ≤ 300001 by omega) HIB.out) (by decide)) ?_
                        clear HS HR6; intro v7 w l7 HS HR7
                        replace HS := St4A HS
                        try simp only [Act.put, List.setIfInBounds_toArray, List.set_cons_zero, List.set_cons_succ]
                        refine hg_reg 13 (some 69) rfl rfl (by kernel_rfl) (by kernel_rfl) (by kernel_rfl) (fun _ _ _ _ h => h) HS (List.Sublist.cons _ (List.Sublist.cons _ (List.Sublist.cons_cons _ (List.nil_sublist _)))) (.pointer (some ⟨b2, 1, none⟩)) rfl (fun _ => by go_simp) ?_
                        try simp only [Act.put, List.setIfInBounds_toArray, List.set_cons_zero, List.set_cons_succ]
                        refine hk_x1 14 (by kernel_rfl) ?_
                        have HR8 := HR7
                        clear HR7
                        have HR7 : Hid (OwnRow 29 4 l7 v7 (insW hs ws g).length (gL (insW hs ws g))) := Lib.hid (by have h := OwnRow.of HR8.out; unfold insW; rw [← HPL.out, gL_append, gL_cons, List.length_append, List.length_cons, List.length_take, List.length_drop, ← HNw.out, ← HN2.out, Nat.min_eq_left (by omega), ← List.append_assoc, show pl + (n2 + 1) = pl + 1 + n2 by omega]; exact h)
                        refine hg_storeM (front := [(b7, 29, zeroG.lst), (b4, 25, [.slice none 0 0, .slice none 0 0]), (b3, 29, [.int .i64 g.tx, .int .i64 g.page, .int .i64 g.slot, .int .i64 g.mode])]) (ll := l7 ++ _) 14 rfl rfl HS 23 _ _ rfl rfl 1 rfl (v7) rfl sh23 HR7.out.one (by simp) [.slice aoh nh cph, v7] rfl (List.Sublist.cons _ (List.Sublist.cons _ (List.Sublist.cons_cons _ (List.nil_sublist _)))) ?_
                        clear HS; intro w HS
                        try simp only [Act.put, List.setIfInBounds_toArray, List.set_cons_zero, List.set_cons_succ]
                        refine hk_done (by kernel_rfl) ?_
                        try go_wp2_with fail
                        go_meet
                        exact ⟨_, l7, HR7, Lib.hid (HS.out.sub (by simp))⟩
                    · skip
                      refine hx_load 9 (some 65) rfl rfl rfl HS (List.Sublist.cons _ (List.Sublist.cons _ (List.Sublist.cons_cons _ (List.nil_sublist _)))) 23 _ rfl 3 _ _ _ rfl 1 rfl _ sh23 (.slice (some ad) nw cpw) rfl ?_
                      try simp only [Act.put, List.setIfInBounds_toArray, List.set_cons_zero, List.set_cons_succ]
                      refine hg_reg 11 (some 67) rfl rfl (by kernel_rfl) (by kernel_rfl) (by kernel_rfl) (fun _ _ _ _ h => h) HS (List.Sublist.cons _ (List.Sublist.cons _ (List.Sublist.cons_cons _ (List.nil_sublist _)))) (sv) rfl (fun _ => by exact run_sl_lo (ao := some ad) (n := nw) (cap := cpw) (k := pl) (s := 4) rfl Tryz.underlying23 (by kernel_rfl) rfl rfl (by omega) HSV.out) ?_
                      try simp only [Act.put, List.setIfInBounds_toArray, List.set_cons_zero, List.set_cons_succ]
                      refine hk_x1 4 (by kernel_rfl) ?_
                      refine hg_appendS 4 (some 60) rfl rfl rfl (front := []) (lr := []) (ll := _) HS (fun l9 => List.Sublist.trans (List.Sublist.cons _ (List.Sublist.cons _ (List.Sublist.cons_cons _ (List.nil_sublist _)))) (List.sublist_append_right l9 _)) _ _ 23 rfl 29 ie _ 4 _ Tryz.underlying23 HIE.out HIZ.out HIS.out rfl rfl (by decide) _ 0 [] rfl RowEnt.nil _ rfl pl (gL (ws.take pl)) ((HGw.out.ext HS.out.isExt).hi (by omega)) (by unfold maxLen; omega) (Nat.le_trans (Nat.mul_le_mul (show 0 + pl ≤ 300001 by omega) HIB.out) (by decide)) ?_
                      clear HS; intro v5 w l5 HS HR5
                      replace HS := St4A HS
                      replace HR5 : Hid (RowEnt 29 4 l5 v5 pl (gL (ws.take pl))) := Lib.hid (by have h := HR5.out; rw [Nat.zero_add, List.nil_append] at h; exact h)
                      try simp only [Act.put, List.setIfInBounds_toArray, List.set_cons_zero, List.set_cons_succ]
                      refine hk_x1 7 (by kernel_rfl) ?_
                      replace HS := St4B HS
                      refine hg_appendS 7 (some 63) rfl rfl rfl (front := []) (lr := l5) (ll := _) HS (fun l9 => List.Sublist.trans (List.Sublist.cons _ (List.Sublist.cons _ (List.Sublist.cons_cons _ (List.nil_sublist _)))) (List.sublist_append_right l9 _)) _ _ 23 rfl 29 ie _ 4 _ Tryz.underlying23 HIE.out HIZ.out HIS.out rfl rfl (by decide) _ pl (gL (ws.take pl)) rfl HR5.out _ rfl 1 g.lst (SrcAt.box (HS.out.box (i := l5.length + 4) (show _ = some (bn, 29, g.lst) by simp)) rfl rfl) (by unfold maxLen; omega) (Nat.le_trans (Nat.mul_le_mul (show pl + 1 ≤ 300001 by omega) HIB.out) (by decide)) ?_
                      clear HS HR5; intro v6 w l6 HS HR6
                      replace HS := St4A HS
                      try simp only [Act.put, List.setIfInBounds_toArray, List.set_cons_zero, List.set_cons_succ]
                      refine hk_x1 12 (by kernel_rfl) ?_
                      replace HS := St4B HS
                      refine hg_appendS 12 (some 68) rfl rfl rfl (front := []) (lr := l6) (ll := _) HS (fun l9 => List.Sublist.trans (List.Sublist.cons _ (List.Sublist.cons _ (List.Sublist.cons_cons _ (List.nil_sublist _)))) (List.sublist_append_right l9 _)) _ _ 23 rfl 29 ie _ 4 _ Tryz.underlying23 HIE.out HIZ.out HIS.out rfl rfl (by decide) _ (pl + 1) (gL (ws.take pl) ++ g.lst) rfl HR6.out _ rfl n2 (gL (ws.drop pl)) (by rw [HSV.out, HN2.out]; exact (HGw.out.ext HS.out.isExt).lo (by omega)) (by unfold maxLen; omega) (Nat.le_trans (Nat.mul_le_mul (show (pl + 1) + n2 ≤ 300001 by omega) HIB.out) (by decide)) ?_
                      clear HS HR6; intro v7 w l7 HS HR7
                      replace HS := St4A HS
                      try simp only [Act.put, List.setIfInBounds_toArray, List.set_cons_zero, List.set_cons_succ]
                      refine hg_reg 13 (some 69) rfl rfl (by kernel_rfl) (by kernel_rfl) (by kernel_rfl) (fun _ _ _ _ h => h) HS (List.Sublist.cons _ (List.Sublist.cons _ (List.Sublist.cons_cons _ (List.nil_sublist _)))) (.pointer (some ⟨b2, 1, none⟩)) rfl (fun _ => by go_simp) ?_
                      try simp only [Act.put, List.setIfInBounds_toArray, List.set_cons_zero, List.set_cons_succ]
                      refine hk_x1 14 (by kernel_rfl) ?_
                      have HR8 := HR7
                      clear HR7
                      have HR7 : Hid (OwnRow 29 4 l7 v7 (insW hs ws g).length (gL (insW hs ws g))) := Lib.hid (by have h := OwnRow.of HR8.out; unfold insW; rw [← HPL.out, gL_append, gL_cons, List.length_append, List.length_cons, List.length_take, List.length_drop, ← HNw.out, ← HN2.out, Nat.min_eq_left (by omega), ← List.append_assoc, show pl + (n2 + 1) = pl + 1 + n2 by omega]; exact h)
                      refine hg_storeM (front := [(b7, 29, zeroG.lst), (b4, 25, [.slice none 0 0, .slice none 0 0]), (b3, 29, [.int .i64 g.tx, .int .i64 g.page, .int .i64 g.slot, .int .i64 g.mode])]) (ll := l7 ++ _) 14 rfl rfl HS 23 _ _ rfl rfl 1 rfl (v7) rfl sh23 HR7.out.one (by simp) [.slice aoh nh cph, v7] rfl (List.Sublist.cons _ (List.Sublist.cons _ (List.Sublist.cons_cons _ (List.nil_sublist _)))) ?_
                      clear HS; intro w HS
                      try simp only [Act.put, List.setIfInBounds_toArray, List.set_cons_zero, List.set_cons_succ]
                      refine hk_done (by kernel_rfl) ?_
                      try go_wp2_with fail
                      go_meet
                      exact ⟨_, l7, HR7, Lib.hid (HS.out.sub (by simp))⟩
                  · skip
                    refine hx_load 9 (some 65) rfl rfl rfl HS (List.Sublist.cons _ (List.Sublist.cons _ (List.Sublist.cons_cons _ (List.nil_sublist _)))) 23 _ rfl 3 _ _ _ rfl 1 rfl _ sh23 (.slice (some ad) nw cpw) rfl ?_
                    try simp only [Act.put, List.setIfInBounds_toArray, List.set_cons_zero, List.set_cons_succ]
                    refine hg_reg 11 (some 67) rfl rfl (by kernel_rfl) (by kernel_rfl) (by kernel_rfl) (fun _ _ _ _ h => h) HS (List.Sublist.cons _ (List.Sublist.cons _ (List.Sublist.cons_cons _ (List.nil_sublist _)))) (sv) rfl (fun _ => by exact run_sl_lo (ao := some ad) (n := nw) (cap := cpw) (k := pl) (s := 4) rfl Tryz.underlying23 (by kernel_rfl) rfl rfl (by omega) HSV.out) ?_
                    try simp only [Act.put, List.setIfInBounds_toArray, List.set_cons_zero, List.set_cons_succ]
                    refine hk_x2 4 6 (by kernel_rfl) ?_ ?_
                    · skip
                      refine hg_appendS 4 (some 60) rfl rfl rfl (front := []) (lr := []) (ll := _) HS (fun l9 => List.Sublist.trans (List.Sublist.cons _ (List.Sublist.cons _ (List.Sublist.cons_cons _ (List.nil_sublist _)))) (List.sublist_append_right l9 _)) _ _ 23 rfl 29 ie _ 4 _ Tryz.underlying23 HIE.out HIZ.out HIS.out rfl rfl (by decide) _ 0 [] rfl RowEnt.nil _ rfl pl (gL (ws.take pl)) ((HGw.out.ext HS.out.isExt).hi (by omega)) (by unfold maxLen; omega) (Nat.le_trans (Nat.mul_le_mul (show 0 + pl ≤ 300001 by omega) HIB.out) (by decide)) ?_
                      clear HS; intro v5 w l5 HS HR5
                      replace HS := St4A HS
                      replace HR5 : Hid (RowEnt 29 4 l5 v5 pl (gL (ws.take pl))) := Lib.hid (by have h := HR5.out; rw [Nat.zero_add, List.nil_append] at h; exact h)
                      try simp only [Act.put, List.setIfInBounds_toArray, List.set_cons_zero, List.set_cons_succ]
                      refine hk_x1 6 (by kernel_rfl) ?_
                      refine hg_build 6 (some 62) rfl rfl rfl HS (List.Sublist.cons _ (List.Sublist.cons _ (List.Sublist.cons_cons _ (List.nil_sublist _)))) 23 29 1 [(0, .tmp 61)] rfl [(0, .agg g.arr)] rfl g.lst (fun w => build_grant g w) ?_
                      clear HS; intro w bn HS
                      replace HS := St4D HS
                      try simp only [Act.put, List.setIfInBounds_toArray, List.set_cons_zero, List.set_cons_succ]
                      refine hk_x1 7 (by kernel_rfl) ?_
                      replace HS := St4B HS
                      refine hg_appendS 7 (some 63) rfl rfl rfl (front := []) (lr := l5) (ll := _) HS (fun l9 => List.Sublist.trans (List.Sublist.cons _ (List.Sublist.cons _ (List.Sublist.cons_cons _ (List.nil_sublist _)))) (List.sublist_append_right l9 _)) _ _ 23 rfl 29 ie _ 4 _ Tryz.underlying23 HIE.out HIZ.out HIS.out rfl rfl (by decide) _ pl (gL (ws.take pl)) rfl HR5.out _ rfl 1 g.lst (SrcAt.box (HS.out.box (i := l5.length + 4) (show _ = some (bn, 29, g.lst) by simp)) rfl rfl) (by unfold maxLen; omega) (Nat.le_trans (Nat.mul_le_mul (show pl + 1 ≤ 300001 by omega) HIB.out) (by decide)) ?_
                      clear HS HR5; intro v6 w l6 HS HR6
                      replace HS := St4A HS
                      try simp only [Act.put, List.setIfInBounds_toArray, List.set_cons_zero, List.set_cons_succ]
                      refine hk_x1 12 (by kernel_rfl) ?_
                      replace HS := St4B HS
                      refine hg_appendS 12 (some 68) rfl rfl rfl (front := []) (lr := l6) (ll := _) HS (fun l9 => List.Sublist.trans (List.Sublist.cons _ (List.Sublist.cons _ (List.Sublist.cons_cons _ (List.nil_sublist _)))) (List.sublist_append_right l9 _)) _ _ 23 rfl 29 ie _ 4 _ Tryz.underlying23 HIE.out HIZ.out HIS.out rfl rfl (by decide) _ (pl + 1) (gL (ws.take pl) ++ g.lst) rfl HR6.out _ rfl n2 (gL (ws.drop pl)) (by rw [HSV.out, HN2.out]; exact (HGw.out.ext HS.out.isExt).lo (by omega)) (by unfold maxLen; omega) (Nat.le_trans (Nat.mul_le_mul (show (pl + 1) + n2 ≤ 300001 by omega) HIB.out) (by decide)) ?_
                      clear HS HR6; intro v7 w l7 HS HR7
                      replace HS := St4A HS
                      try simp only [Act.put, List.setIfInBounds_toArray, List.set_cons_zero, List.set_cons_succ]
                      refine hg_reg 13 (some 69) rfl rfl (by kernel_rfl) (by kernel_rfl) (by kernel_rfl) (fun _ _ _ _ h => h) HS (List.Sublist.cons _ (List.Sublist.cons _ (List.Sublist.cons_cons _ (List.nil_sublist _)))) (.pointer (some ⟨b2, 1, none⟩)) rfl (fun _ => by go_simp) ?_
                      try simp only [Act.put, List.setIfInBounds_toArray, List.set_cons_zero, List.set_cons_succ]
                      refine hk_x1 14 (by kernel_rfl) ?_
                      have HR8 := HR7
                      clear HR7
                      have HR7 : Hid (OwnRow 29 4 l7 v7 (insW hs ws g).length (gL (insW hs ws g))) := Lib.hid (by have h := OwnRow.of HR8.out; unfold insW; rw [← HPL.out, gL_append, gL_cons, List.length_append, List.length_cons, List.length_take, List.length_drop, ← HNw.out, ← HN2.out, Nat.min_eq_left (by omega), ← List.append_assoc, show pl + (n2 + 1) = pl + 1 + n2 by omega]; exact h)
                      refine hg_storeM (front := [(b7, 29, zeroG.lst), (b4, 25, [.slice none 0 0, .slice none 0 0]), (b3, 29, [.int .i64 g.tx, .int .i64 g.page, .int .i64 g.slot, .int .i64 g.mode])]) (ll := l7 ++ _) 14 rfl rfl HS 23 _ _ rfl rfl 1 rfl (v7) rfl sh23 HR7.out.one (by simp) [.slice aoh nh cph, v7] rfl (List.Sublist.cons _ (List.Sublist.cons _ (List.Sublist.cons_cons _ (List.nil_sublist _)))) ?_
                      clear HS; intro w HS
                      try simp only [Act.put, List.setIfInBounds_toArray, List.set_cons_zero, List.set_cons_succ]
                      refine hk_done (by kernel_rfl) ?_
                      try go_wp2_with fail
                      go_meet
                      exact ⟨_, l7, HR7, Lib.hid (HS.out.sub (by simp))⟩
                    · skip
                      refine hg_build 6 (some 62) rfl rfl rfl HS (List.Sublist.cons _ (List.Sublist.cons _ (List.Sublist.cons_cons _ (List.nil_sublist _)))) 23 29 1 [(0, .tmp 61)] rfl [(0, .agg g.arr)] rfl g.lst (fun w => build_grant g w) ?_
                      clear HS; intro w bn HS
                      replace HS := St4C HS
                      try simp only [Act.put, List.setIfInBounds_toArray, List.set_cons_zero, List.set_cons_succ]
                      refine hk_x1 4 (by kernel_rfl) ?_
                      refine hg_appendS 4 (some 60) rfl rfl rfl (front := []) (lr := []) (ll := _) HS (fun l9 => List.Sublist.trans (List.Sublist.cons _ (List.Sublist.cons _ (List.Sublist.cons_cons _ (List.nil_sublist _)))) (List.sublist_append_right l9 _)) _ _ 23 rfl 29 ie _ 4 _ Tryz.underlying23 HIE.out HIZ.out HIS.out rfl rfl (by decide) _ 0 [] rfl RowEnt.nil _ rfl pl (gL (ws.take pl)) ((HGw.out.ext HS.out.isExt).hi (by omega)) (by unfold maxLen; omega) (Nat.le_trans (Nat.mul_le_mul (show 0 + pl ≤ 300001 by omega) HIB.out) (by decide)) ?_
                      clear HS; intro v5 w l5 HS HR5
                      replace HS := St4A HS
                      replace HR5 : Hid (RowEnt 29 4 l5 v5 pl (gL (ws.take pl))) := Lib.hid (by have h := HR5.out; rw [Nat.zero_add, List.nil_append] at h; exact h)
                      try simp only [Act.put, List.setIfInBounds_toArray, List.set_cons_zero, List.set_cons_succ]
                      refine hk_x1 7 (by kernel_rfl) ?_
                      replace HS := St4B HS
                      refine hg_appendS 7 (some 63) rfl rfl rfl (front := []) (lr := l5) (ll := _) HS (fun l9 => List.Sublist.trans (List.Sublist.cons _ (List.Sublist.cons _ (List.Sublist.cons_cons _ (List.nil_sublist _)))) (List.sublist_append_right l9 _)) _ _ 23 rfl 29 ie _ 4 _ Tryz.underlying23 HIE.out HIZ.out HIS.out rfl rfl (by decide) _ pl (gL (ws.take pl)) rfl HR5.out _ rfl 1 g.lst (SrcAt.box (HS.out.box (i := l5.length + 4) (show _ = some (bn, 29, g.lst) by simp)) rfl rfl) (by unfold maxLen; omega) (Nat.le_trans (Nat.mul_le_mul (show pl + 1 ≤ 300001 by omega) HIB.out) (by decide)) ?_
                      clear HS HR5; intro v6 w l6 HS HR6
                      replace HS := St4A HS
                      try simp only [Act.put, List.setIfInBounds_toArray, List.set_cons_zero, List.set_cons_succ]
                      refine hk_x1 12 (by kernel_rfl) ?_
                      replace HS := St4B HS
                      refine hg_appendS 12 (some 68) rfl rfl rfl (front := []) (lr := l6) (ll := _) HS (fun l9 => List.Sublist.trans (List.Sublist.cons _ (List.Sublist.cons _ (List.Sublist.cons_cons _ (List.nil_sublist _)))) (List.sublist_append_right l9 _)) _ _ 23 rfl 29 ie _ 4 _ Tryz.underlying23 HIE.out HIZ.out HIS.out rfl rfl (by decide) _ (pl + 1) (gL (ws.take pl) ++ g.lst) rfl HR6.out _ rfl n2 (gL (ws.drop pl)) (by rw [HSV.out, HN2.out]; exact (HGw.out.ext HS.out.isExt).lo (by omega)) (by unfold maxLen; omega) (Nat.le_trans (Nat.mul_le_mul (show (pl + 1) + n2 ≤ 300001 by omega) HIB.out) (by decide)) ?_
                      clear HS HR6; intro v7 w l7 HS HR7
                      replace HS := St4A HS
                      try simp only [Act.put, List.setIfInBounds_toArray, List.set_cons_zero, List.set_cons_succ]
                      refine hg_reg 13 (some 69) rfl rfl (by kernel_rfl) (by kernel_rfl) (by kernel_rfl) (fun _ _ _ _ h => h) HS (List.Sublist.cons _ (List.Sublist.cons _ (List.Sublist.cons_cons _ (List.nil_sublist _)))) (.pointer (some ⟨b2, 1, none⟩)) rfl (fun _ => by go_simp) ?_
                      try simp only [Act.put, List.setIfInBounds_toArray, List.set_cons_zero, List.set_cons_succ]
                      refine hk_x1 14 (by kernel_rfl) ?_
                      have HR8 := HR7
                      clear HR7
                      have HR7 : Hid (OwnRow 29 4 l7 v7 (insW hs ws g).length (gL (insW hs ws g))) := Lib.hid (by have h := OwnRow.of HR8.out; unfold insW; rw [← HPL.out, gL_append, gL_cons, List.length_append, List.length_cons, List.length_take, List.length_drop, ← HNw.out, ← HN2.out, Nat.min_eq_left (by omega), ← List.append_assoc, show pl + (n2 + 1) = pl + 1 + n2 by omega]; exact h)
                      refine hg_storeM (front := [(b7, 29, zeroG.lst), (b4, 25, [.slice none 0 0, .slice none 0 0]), (b3, 29, [.int .i64 g.tx, .int .i64 g.page, .int .i64 g.slot, .int .i64 g.mode])]) (ll := l7 ++ _) 14 rfl rfl HS 23 _ _ rfl rfl 1 rfl (v7) rfl sh23 HR7.out.one (by simp) [.slice aoh nh cph, v7] rfl (List.Sublist.cons _ (List.Sublist.cons _ (List.Sublist.cons_cons _ (List.nil_sublist _)))) ?_
                      clear HS; intro w HS
                      try simp only [Act.put, List.setIfInBounds_toArray, List.set_cons_zero, List.set_cons_succ]
                      refine hk_done (by kernel_rfl) ?_
                      try go_wp2_with fail
                      go_meet
                      exact ⟨_, l7, HR7, Lib.hid (HS.out.sub (by simp))⟩
                · skip
                  refine hg_build 6 (some 62) rfl rfl rfl HS (List.Sublist.cons _ (List.Sublist.cons _ (List.Sublist.cons_cons _ (List.nil_sublist _)))) 23 29 1 [(0, .tmp 61)] rfl [(0, .agg g.arr)] rfl g.lst (fun w => build_grant g w) ?_
                  clear HS; intro w bn HS
                  replace HS := St4C HS
                  try simp only [Act.put, List.setIfInBounds_toArray, List.set_cons_zero, List.set_cons_succ]
                  refine hk_x2 1 9 (by kernel_rfl) ?_ ?_
                  · skip
                    refine hx_load 1 (some 57) rfl rfl rfl HS (List.Sublist.cons _ (List.Sublist.cons _ (List.Sublist.cons_cons _ (List.nil_sublist _)))) 23 _ rfl 3 _ _ _ rfl 1 rfl _ sh23 (.slice (some ad) nw cpw) rfl ?_
                    try simp only [Act.put, List.setIfInBounds_toArray, List.set_cons_zero, List.set_cons_succ]
                    refine hg_reg 3 (some 59) rfl rfl (by kernel_rfl) (by kernel_rfl) (by kernel_rfl) (fun _ _ _ _ h => h) HS (List.Sublist.cons _ (List.Sublist.cons _ (List.Sublist.cons_cons _ (List.nil_sublist _)))) (.slice (some ad) pl cpw) rfl (fun _ => by exact run_sl_hi (n := nw) (s := 4) rfl Tryz.underlying23 (by kernel_rfl) rfl rfl (by omega) (sliced_hi4 _ _ _ 4).symm) ?_
                    try simp only [Act.put, List.setIfInBounds_toArray, List.set_cons_zero, List.set_cons_succ]
                    refine hk_x2 4 9 (by kernel_rfl) ?_ ?_
                    · skip
                      refine hg_appendS 4 (some 60) rfl rfl rfl (front := []) (lr := []) (ll := _) HS (fun l9 => List.Sublist.trans (List.Sublist.cons _ (List.Sublist.cons _ (List.Sublist.cons_cons _ (List.nil_sublist _)))) (List.sublist_append_right l9 _)) _ _ 23 rfl 29 ie _ 4 _ Tryz.underlying23 HIE.out HIZ.out HIS.out rfl rfl (by decide) _ 0 [] rfl RowEnt.nil _ rfl pl (gL (ws.take pl)) ((HGw.out.ext HS.out.isExt).hi (by omega)) (by unfold maxLen; omega) (Nat.le_trans (Nat.mul_le_mul (show 0 + pl ≤ 300001 by omega) HIB.out) (by decide)) ?_
                      clear HS; intro v5 w l5 HS HR5
                      replace HS := St4A HS
                      replace HR5 : Hid (RowEnt 29 4 l5 v5 pl (gL (ws.take pl))) := Lib.hid (by have h := HR5.out; rw [Nat.zero_add, List.nil_append] at h; exact h)
                      try simp only [Act.put, List.setIfInBounds_toArray, List.set_cons_zero, List.set_cons_succ]
                      refine hk_x2 7 9 (by kernel_rfl) ?_ ?_
                      · skip
                        replace HS := St4B HS
                        refine hg_appendS 7 (some 63) rfl rfl rfl (front := []) (lr := l5) (ll := _) HS (fun l9 => List.Sublist.trans (List.Sublist.cons _ (List.Sublist.cons _ (List.Sublist.cons_cons _ (List.nil_sublist _)))) (List.sublist_append_right l9 _)) _ _ 23 rfl 29 ie _ 4 _ Tryz.underlying23 HIE.out HIZ.out HIS.out rfl rfl (by decide) _ pl (gL (ws.take pl)) rfl HR5.out _ rfl 1 g.lst (SrcAt.box (HS.out.box (i := l5.length + 4) (show _ = some (bn, 29, g.lst) by simp)) rfl rfl) (by unfold maxLen; omega) (Nat.le_trans (Nat.mul_le_mul (show pl + 1 ≤ 300001 by omega) HIB.out) (by decide)) ?_
                        clear HS HR5; intro v6 w l6 HS HR6
                        replace HS := St4A HS
                        try simp only [Act.put, List.setIfInBounds_toArray, List.set_cons_zero, List.set_cons_succ]
                        refine hk_x1 9 (by kernel_rfl) ?_
                        refine hx_load 9 (some 65) rfl rfl rfl HS (List.Sublist.cons _ (List.Sublist.cons _ (List.Sublist.cons_cons _ (List.nil_sublist _)))) 23 _ rfl 3 _ _ _ rfl 1 rfl _ sh23 (.slice (some ad) nw cpw) rfl ?_
                        try simp only [Act.put, List.setIfInBounds_toArray, List.set_cons_zero, List.set_cons_succ]
                        refine hg_reg 11 (some 67) rfl rfl (by kernel_rfl) (by kernel_rfl) (by kernel_rfl) (fun _ _ _ _ h => h) HS (List.Sublist.cons _ (List.Sublist.cons _ (List.Sublist.cons_cons _ (List.nil_sublist _)))) (sv) rfl (fun _ => by exact run_sl_lo (ao := some ad) (n := nw) (cap := cpw) (k := pl) (s := 4) rfl Tryz.underlying23 (by kernel_rfl) rfl rfl (by omega) HSV.out) ?_
                        try simp only [Act.put, List.setIfInBounds_toArray, List.set_cons_zero, List.set_cons_succ]
                        refine hk_x1 12 (by kernel_rfl) ?_
                        replace HS := St4B HS
                        refine hg_appendS 12 (some 68) rfl rfl rfl (front := []) (lr := l6) (ll := _) HS (fun l9 => List.Sublist.trans (List.Sublist.cons _ (List.Sublist.cons _ (List.Sublist.cons_cons _ (List.nil_sublist _)))) (List.sublist_append_right l9 _)) _ _ 23 rfl 29 ie _ 4 _ Tryz.underlying23 HIE.out HIZ.out HIS.out rfl rfl (by decide) _ (pl + 1) (gL (ws.take pl) ++ g.lst) rfl HR6.out _ rfl n2 (gL (ws.drop pl)) (by rw [HSV.out, HN2.out]; exact (HGw.out.ext HS.out.isExt).lo (by omega)) (by unfold maxLen; omega) (Nat.le_trans (Nat.mul_le_mul (show (pl + 1) + n2 ≤ 300001 by omega) HIB.out) (by decide)) ?_
                        clear HS HR6; intro v7 w l7 HS HR7
                        replace HS := St4A HS
                        try simp only [Act.put, List.setIfInBounds_toArray, List.set_cons_zero, List.set_cons_succ]
                        refine hg_reg 13 (some 69) rfl rfl (by kernel_rfl) (by kernel_rfl) (by kernel_rfl) (fun _ _ _ _ h => h) HS (List.Sublist.cons _ (List.Sublist.cons _ (List.Sublist.cons_cons _ (List.nil_sublist _)))) (.pointer (some ⟨b2, 1, none⟩)) rfl (fun _ => by go_simp) ?_
                        try simp only [Act.put, List.setIfInBounds_toArray, List.set_cons_zero, List.set_cons_succ]
                        refine hk_x1 14 (by kernel_rfl) ?_
                        have HR8 := HR7
                        clear HR7
                        have HR7 : Hid (OwnRow 29 4 l7 v7 (insW hs ws g).length (gL (insW hs ws g))) := Lib.hid (by have h := OwnRow.of HR8.out; unfold insW; rw [← HPL.out, gL_append, gL_cons, List.length_append, List.length_cons, List.length_take, List.length_drop, ← HNw.out, ← HN2.out, Nat.min_eq_left (by omega), ← List.append_assoc, show pl + (n2 + 1) = pl + 1 + n2 by omega]; exact h)
                        refine hg_storeM (front := [(b7, 29, zeroG.lst), (b4, 25, [.slice none 0 0, .slice none 0 0]), (b3, 29, [.int .i64 g.tx, .int .i64 g.page, .int .i64 g.slot, .int .i64 g.mode])]) (ll := l7 ++ _) 14 rfl rfl HS 23 _ _ rfl rfl 1 rfl (v7) rfl sh23 HR7.out.one (by simp) [.slice aoh nh cph, v7] rfl (List.Sublist.cons _ (List.Sublist.cons _ (List.Sublist.cons_cons _ (List.nil_sublist _)))) ?_
                        clear HS; intro w HS
                        try simp only [Act.put, List.setIfInBounds_toArray, List.set_cons_zero, List.set_cons_succ]
                        refine hk_done (by kernel_rfl) ?_
                        try go_wp2_with fail
                        go_meet
                        exact ⟨_, l7, HR7, Lib.hid (HS.out.sub (by simp))⟩
                      · skip
                        refine hx_load 9 (some 65) rfl rfl rfl HS (List.Sublist.cons _ (List.Sublist.cons _ (List.Sublist.cons_cons _ (List.nil_sublist _)))) 23 _ rfl 3 _ _ _ rfl 1 rfl _ sh23 (.slice (some ad) nw cpw) rfl ?_
                        try simp only [Act.put, List.setIfInBounds_toArray, List.set_cons_zero, List.set_cons_succ]
                        refine hg_reg 11 (some 67) rfl rfl (by kernel_rfl) (by kernel_rfl) (by kernel_rfl) (fun _ _ _ _ h => h) HS (List.Sublist.cons _ (List.Sublist.cons _ (List.Sublist.cons_cons _ (List.nil_sublist _)))) (sv) rfl (fun _ => by exact run_sl_lo (ao := some ad) (n := nw) (cap := cpw) (k := pl) (s := 4) rfl Tryz.underlying23 (by kernel_rfl) rfl rfl (by omega) HSV.out) ?_
                        try simp only [Act.put, List.setIfInBounds_toArray, List.set_cons_zero, List.set_cons_succ]
                        refine hk_x1 7 (by kernel_rfl) ?_
                        replace HS := St4B HS
                        refine hg_appendS 7 (some 63) rfl rfl rfl (front := []) (lr := l5) (ll := _) HS (fun l9 => List.Sublist.trans (List.Sublist.cons _ (List.Sublist.cons _ (List.Sublist.cons_cons _ (List.nil_sublist _)))) (List.sublist_append_right l9 _)) _ _ 23 rfl 29 ie _ 4 _ Tryz.underlying23 HIE.out HIZ.out HIS.out rfl rfl (by decide) _ pl (gL (ws.take pl)) rfl HR5.out _ rfl 1 g.lst (SrcAt.box (HS.out.box (i := l5.length + 4) (show _ = some (bn, 29, g.lst) by simp)) rfl rfl) (by unfold maxLen; omega) (Nat.le_trans (Nat.mul_le_mul (show pl + 1 ≤ 300001 by omega) HIB.out) (by decide)) ?_
                        clear HS HR5; intro v6 w l6 HS HR6
                        replace HS := St4A HS
                        try simp only [Act.put, List.setIfInBounds_toArray, List.set_cons_zero, List.set_cons_succ]
                        refine hk_x1 12 (by kernel_rfl) ?_
                        replace HS := St4B HS
                        refine hg_appendS 12 (some 68) rfl rfl rfl (front := []) (lr := l6) (ll := _) HS (fun l9 => List.Sublist.trans (List.Sublist.cons _ (List.Sublist.cons _ (List.Sublist.cons_cons _ (List.nil_sublist _)))) (List.sublist_append_right l9 _)) _ _ 23 rfl 29 ie _ 4 _ Tryz.underlying23 HIE.out HIZ.out HIS.out rfl rfl (by decide) _ (pl + 1) (gL (ws.take pl) ++ g.lst) rfl HR6.out _ rfl n2 (gL (ws.drop pl)) (by rw [HSV.out, HN2.out]; exact (HGw.out.ext HS.out.isExt).lo (by omega)) (by unfold maxLen; omega) (Nat.le_trans (Nat.mul_le_mul (show (pl + 1) + n2 ≤ 300001 by omega) HIB.out) (by decide)) ?_
                        clear HS HR6; intro v7 w l7 HS HR7
                        replace HS := St4A HS
                        try simp only [Act.put, List.setIfInBounds_toArray, List.set_cons_zero, List.set_cons_succ]
                        refine hg_reg 13 (some 69) rfl rfl (by kernel_rfl) (by kernel_rfl) (by kernel_rfl) (fun _ _ _ _ h => h) HS (List.Sublist.cons _ (List.Sublist.cons _ (List.Sublist.cons_cons _ (List.nil_sublist _)))) (.pointer (some ⟨b2, 1, none⟩)) rfl (fun _ => by go_simp) ?_
                        try simp only [Act.put, List.setIfInBounds_toArray, List.set_cons_zero, List.set_cons_succ]
                        refine hk_x1 14 (by kernel_rfl) ?_
                        have HR8 := HR7
                        clear HR7
                        have HR7 : Hid (OwnRow 29 4 l7 v7 (insW hs ws g).length (gL (insW hs ws g))) := Lib.hid (by have h := OwnRow.of HR8.out; unfold insW; rw [← HPL.out, gL_append, gL_cons, List.length_append, List.length_cons, List.length_take, List.length_drop, ← HNw.out, ← HN2.out, Nat.min_eq_left (by omega), ← List.append_assoc, show pl + (n2 + 1) = pl + 1 + n2 by omega]; exact h)
                        refine hg_storeM (front := [(b7, 29, zeroG.lst), (b4, 25, [.slice none 0 0, .slice none 0 0]), (b3, 29, [.int .i64 g.tx, .int .i64 g.page, .int .i64 g.slot, .int .i64 g.mode])]) (ll := l7 ++ _) 14 rfl rfl HS 23 _ _ rfl rfl 1 rfl (v7) rfl sh23 HR7.out.one (by simp) [.slice aoh nh cph, v7] rfl (List.Sublist.cons _ (List.Sublist.cons _ (List.Sublist.cons_cons _ (List.nil_sublist _)))) ?_
                        clear HS; intro w HS
                        try simp only [Act.put, List.setIfInBounds_toArray, List.set_cons_zero, List.set_cons_succ]
                        refine hk_done (by kernel_rfl) ?_
                        try go_wp2_with fail
                        go_meet
                        exact ⟨_, l7, HR7, Lib.hid (HS.out.sub (by simp))⟩
                    · skip
                      refine hx_load 9 (some 65) rfl rfl rfl HS (List.Sublist.cons _ (List.Sublist.cons _ (List.Sublist.cons_cons _ (List.nil_sublist _)))) 23 _ rfl 3 _ _ _ rfl 1 rfl _ sh23 (.slice (some ad) nw cpw) rfl ?_
                      try simp only [Act.put, List.setIfInBounds_toArray, List.set_cons_zero, List.set_cons_succ]
                      refine hg_reg 11 (some 67) rfl rfl (by kernel_rfl) (by kernel_rfl) (by kernel_rfl) (fun _ _ _ _ h => h) HS (List.Sublist.cons _ (List.Sublist.cons _ (List.Sublist.cons_cons _ (List.nil_sublist _)))) (sv) rfl (fun _ => by exact run_sl_lo (ao := some ad) (n := nw) (cap := cpw) (k := pl) (s := 4) rfl Tryz.underlying23 (by kernel_rfl) rfl rfl (by omega) HSV.out) ?_
                      try simp only [Act.put, List.setIfInBounds_toArray, List.set_cons_zero, List.set_cons_succ]
                      refine hk_x1 4 (by kernel_rfl) ?_
                      refine hg_appendS 4 (some 60) rfl rfl rfl (front := []) (lr := []) (ll := _) HS (fun l9 => List.Sublist.trans (List.Sublist.cons _ (List.Sublist.cons _ (List.Sublist.cons_cons _ (List.nil_sublist _)))) (List.sublist_append_right l9 _)) _ _ 23 rfl 29 ie _ 4 _ Tryz.underlying23 HIE.out HIZ.out HIS.out rfl rfl (by decide) _ 0 [] rfl RowEnt.nil _ rfl pl (gL (ws.take pl)) ((HGw.out.ext HS.out.isExt).hi (by omega)) (by unfold maxLen; omega) (Nat.le_trans (Nat.mul_le_mul (show 0 + pl ≤ 300001 by omega) HIB.out) (by decide)) ?_
                      clear HS; intro v5 w l5 HS HR5
                      replace HS := St4A HS
                      replace HR5 : Hid (RowEnt 29 4 l5 v5 pl (gL (ws.take pl))) := Lib.hid (by have h := HR5.out; rw [Nat.zero_add, List.nil_append] at h; exact h)
                      try simp only [Act.put, List.setIfInBounds_toArray, List.set_cons_zero, List.set_cons_succ]
                      refine hk_x1 7 (by kernel_rfl) ?_
                      replace HS := St4B HS
                      refine hg_appendS 7 (some 63) rfl rfl rfl (front := []) (lr := l5) (ll := _) HS (fun l9 => List.Sublist.trans (List.Sublist.cons _ (List.Sublist.cons _ (List.Sublist.cons_cons _ (List.nil_sublist _)))) (List.sublist_append_right l9 _)) _ _ 23 rfl 29 ie _ 4 _ Tryz.underlying23 HIE.out HIZ.out HIS.out rfl rfl (by decide) _ pl (gL (ws.take pl)) rfl HR5.out _ rfl 1 g.lst (SrcAt.box (HS.out.box (i := l5.length + 4) (show _ = some (bn, 29, g.lst) by simp)) rfl rfl) (by unfold maxLen; omega) (Nat.le_trans (Nat.mul_le_mul (show pl + 1 ≤ 300001 by omega) HIB.out) (by decide)) ?_
                      clear HS HR5; intro v6 w l6 HS HR6
                      replace HS := St4A HS
                      try simp only [Act.put, List.setIfInBounds_toArray, List.set_cons_zero, List.set_cons_succ]
                      refine hk_x1 12 (by kernel_rfl) ?_
                      replace HS := St4B HS
                      refine hg_appendS 12 (some 68) rfl rfl rfl (front := []) (lr := l6) (ll := _) HS (fun l9 => List.Sublist.trans (List.Sublist.cons _ (List.Sublist.cons _ (List.Sublist.cons_cons _ (List.nil_sublist _)))) (List.sublist_append_right l9 _)) _ _ 23 rfl 29 ie _ 4 _ Tryz.underlying23 HIE.out HIZ.out HIS.out rfl rfl (by decide) _ (pl + 1) (gL (ws.take pl) ++ g.lst) rfl HR6.out _ rfl n2 (gL (ws.drop pl)) (by rw [HSV.out, HN2.out]; exact (HGw.out.ext HS.out.isExt).lo (by omega)) (by unfold maxLen; omega) (Nat.le_trans (Nat.mul_le_mul (show (pl + 1) + n2 ≤ 300001 by omega) HIB.out) (by decide)) ?_
                      clear HS HR6; intro v7 w l7 HS HR7
                      replace HS := St4A HS
                      try simp only [Act.put, List.setIfInBounds_toArray, List.set_cons_zero, List.set_cons_succ]
                      refine hg_reg 13 (some 69) rfl rfl (by kernel_rfl) (by kernel_rfl) (by kernel_rfl) (fun _ _ _ _ h => h) HS (List.Sublist.cons _ (List.Sublist.cons _ (List.Sublist.cons_cons _ (List.nil_sublist _)))) (.pointer (some ⟨b2, 1, none⟩)) rfl (fun _ => by go_simp) ?_
                      try simp only [Act.put, List.setIfInBounds_toArray, List.set_cons_zero, List.set_cons_succ]
                      refine hk_x1 14 (by kernel_rfl) ?_
                      have HR8 := HR7
                      clear HR7
                      have HR7 : Hid (OwnRow 29 4 l7 v7 (insW hs ws g).length (gL (insW hs ws g))) := Lib.hid (by have h := OwnRow.of HR8.out; unfold insW; rw [← HPL.out, gL_append, gL_cons, List.length_append, List.length_cons, List.length_take, List.length_drop, ← HNw.out, ← HN2.out, Nat.min_eq_left (by omega), ← List.append_assoc, show pl + (n2 + 1) = pl + 1 + n2 by omega]; exact h)
                      refine hg_storeM (front := [(b7, 29, zeroG.lst), (b4, 25, [.slice none 0 0, .slice none 0 0]), (b3, 29, [.int .i64 g.tx, .int .i64 g.page, .int .i64 g.slot, .int .i64 g.mode])]) (ll := l7 ++ _) 14 rfl rfl HS 23 _ _ rfl rfl 1 rfl (v7) rfl sh23 HR7.out.one (by simp) [.slice aoh nh cph, v7] rfl (List.Sublist.cons _ (List.Sublist.cons _ (List.Sublist.cons_cons _ (List.nil_sublist _)))) ?_
                      clear HS; intro w HS
                      try simp only [Act.put, List.setIfInBounds_toArray, List.set_cons_zero, List.set_cons_succ]
                      refine hk_done (by kernel_rfl) ?_
                      try go_wp2_with fail
                      go_meet
                      exact ⟨_, l7, HR7, Lib.hid (HS.out.sub (by simp))⟩
                  · skip
                    refine hx_load 9 (some 65) rfl rfl rfl HS (List.Sublist.cons _ (List.Sublist.cons _ (List.Sublist.cons_cons _ (List.nil_sublist _)))) 23 _ rfl 3 _ _ _ rfl 1 rfl _ sh23 (.slice (some ad) nw cpw) rfl ?_
                    try simp only [Act.put, List.setIfInBounds_toArray, List.set_cons_zero, List.set_cons_succ]
                    refine hg_reg 11 (some 67) rfl rfl (by kernel_rfl) (by kernel_rfl) (by kernel_rfl) (fun _ _ _ _ h => h) HS (List.Sublist.cons _ (List.Sublist.cons _ (List.Sublist.cons_cons _ (List.nil_sublist _)))) (sv) rfl (fun _ => by exact run_sl_lo (ao := some ad) (n := nw) (cap := cpw) (k := pl) (s := 4) rfl Tryz.underlying23 (by kernel_rfl) rfl rfl (by omega) HSV.out) ?_
                    try simp only [Act.put, List.setIfInBounds_toArray, List.set_cons_zero, List.set_cons_succ]
                    refine hk_x1 1 (by kernel_rfl) ?_
                    refine hx_load 1 (some 57) rfl rfl rfl HS (List.Sublist.cons _ (List.Sublist.cons _ (List.Sublist.cons_cons _ (List.nil_sublist _)))) 23 _ rfl 3 _ _ _ rfl 1 rfl _ sh23 (.slice (some ad) nw cpw) rfl ?_
                    try simp only [Act.put, List.setIfInBounds_toArray, List.set_cons_zero, List.set_cons_succ]
                    refine hg_reg 3 (some 59) rfl rfl (by kernel_rfl) (by kernel_rfl) (by kernel_rfl) (fun _ _ _ _ h => h) HS (List.Sublist.cons _ (List.Sublist.cons _ (List.Sublist.cons_cons _ (List.nil_sublist _)))) (.slice (some ad) pl cpw) rfl (fun _ => by exact run_sl_hi (n := nw) (s := 4) rfl Tryz.underlying23 (by kernel_rfl) rfl rfl (by omega) (sliced_hi4 _ _ _ 4).symm) ?_
                    try simp only [Act.put, List.setIfInBounds_toArray, List.set_cons_zero, List.set_cons_succ]
                    refine hk_x1 4 (by kernel_rfl) ?_
                    refine hg_appendS 4 (some 60) rfl rfl rfl (front := []) (lr := []) (ll := _) HS (fun l9 => List.Sublist.trans (List.Sublist.cons _ (List.Sublist.cons _ (List.Sublist.cons_cons _ (List.nil_sublist _)))) (List.sublist_append_right l9 _)) _ _ 23 rfl 29 ie _ 4 _ Tryz.underlying23 HIE.out HIZ.out HIS.out rfl rfl (by decide) _ 0 [] rfl RowEnt.nil _ rfl pl (gL (ws.take pl)) ((HGw.out.ext HS.out.isExt).hi (by omega)) (by unfold maxLen; omega) (Nat.le_trans (Nat.mul_le_mul (show 0 + pl ≤ 300001 by omega) HIB.out) (by decide)) ?_
                    clear HS; intro v5 w l5 HS HR5
                    replace HS := St4A HS
                    replace HR5 : Hid (RowEnt 29 4 l5 v5 pl (gL (ws.take pl))) := Lib.hid (by have h := HR5.out; rw [Nat.zero_add, List.nil_append] at h; exact h)
                    try simp only [Act.put, List.setIfInBounds_toArray, List.set_cons_zero, List.set_cons_succ]
                    refine hk_x1 7 (by kernel_rfl) ?_
                    replace HS := St4B HS
                    refine hg_appendS 7 (some 63) rfl rfl rfl (front := []) (lr := l5) (ll := _) HS (fun l9 => List.Sublist.trans (List.Sublist.cons _ (List.Sublist.cons _ (List.Sublist.cons_cons _ (List.nil_sublist _)))) (List.sublist_append_right l9 _)) _ _ 23 rfl 29 ie _ 4 _ Tryz.underlying23 HIE.out HIZ.out HIS.out rfl rfl (by decide) _ pl (gL (ws.take pl)) rfl HR5.out _ rfl 1 g.lst (SrcAt.box (HS.out.box (i := l5.length + 4) (show _ = some (bn, 29, g.lst) by simp)) rfl rfl) (by unfold maxLen; omega) (Nat.le_trans (Nat.mul_le_mul (show pl + 1 ≤ 300001 by omega) HIB.out) (by decide)) ?_
                    clear HS HR5; intro v6 w l6 HS HR6
                    replace HS := St4A HS
                    try simp only [Act.put, List.setIfInBounds_toArray, List.set_cons_zero, List.set_cons_succ]
                    refine hk_x1 12 (by kernel_rfl) ?_
                    replace HS := St4B HS
                    refine hg_appendS 12 (some 68) rfl rfl rfl (front := []) (lr := l6) (ll := _) HS (fun l9 => List.Sublist.trans (List.Sublist.cons _ (List.Sublist.cons _ (List.Sublist.cons_cons _ (List.nil_sublist _)))) (List.sublist_append_right l9 _)) _ _ 23 rfl 29 ie _ 4 _ Tryz.underlying23 HIE.out HIZ.out HIS.out rfl rfl (by decide) _ (pl + 1) (gL (ws.take pl) ++ g.lst) rfl HR6.out _ rfl n2 (gL (ws.drop pl)) (by rw [HSV.out, HN2.out]; exact (HGw.out.ext HS.out.isExt).lo (by omega)) (by unfold maxLen; omega) (Nat.le_trans (Nat.mul_le_mul (show (pl + 1) + n2 ≤ 300001 by omega) HIB.out) (by decide)) ?_
                    clear HS HR6; intro v7 w l7 HS HR7
                    replace HS := St4A HS
                    try simp only [Act.put, List.setIfInBounds_toArray, List.set_cons_zero, List.set_cons_succ]
                    refine hg_reg 13 (some 69) rfl rfl (by kernel_rfl) (by kernel_rfl) (by kernel_rfl) (fun _ _ _ _ h => h) HS (List.Sublist.cons _ (List.Sublist.cons _ (List.Sublist.cons_cons _ (List.nil_sublist _)))) (.pointer (some ⟨b2, 1, none⟩)) rfl (fun _ => by go_simp) ?_
                    try simp only [Act.put, List.setIfInBounds_toArray, List.set_cons_zero, List.set_cons_succ]
                    refine hk_x1 14 (by kernel_rfl) ?_
                    have HR8 := HR7
                    clear HR7
                    have HR7 : Hid (OwnRow 29 4 l7 v7 (insW hs ws g).length (gL (insW hs ws g))) := Lib.hid (by have h := OwnRow.of HR8.out; unfold insW; rw [← HPL.out, gL_append, gL_cons, List.length_append, List.length_cons, List.length_take, List.length_drop, ← HNw.out, ← HN2.out, Nat.min_eq_left (by omega), ← List.append_assoc, show pl + (n2 + 1) = pl + 1 + n2 by omega]; exact h)
                    refine hg_storeM (front := [(b7, 29, zeroG.lst), (b4, 25, [.slice none 0 0, .slice none 0 0]), (b3, 29, [.int .i64 g.tx, .int .i64 g.page, .int .i64 g.slot, .int .i64 g.mode])]) (ll := l7 ++ _) 14 rfl rfl HS 23 _ _ rfl rfl 1 rfl (v7) rfl sh23 HR7.out.one (by simp) [.slice aoh nh cph, v7] rfl (List.Sublist.cons _ (List.Sublist.cons _ (List.Sublist.cons_cons _ (List.nil_sublist _)))) ?_
                    clear HS; intro w HS
                    try simp only [Act.put, List.setIfInBounds_toArray, List.set_cons_zero, List.set_cons_succ]
                    refine hk_done (by kernel_rfl) ?_
                    try go_wp2_with fail
                    go_meet
                    exact ⟨_, l7, HR7, Lib.hid (HS.out.sub (by simp))⟩
                · skip
                  refine hx_load 9 (some 65) rfl rfl rfl HS (List.Sublist.cons _ (List.Sublist.cons _ (List.Sublist.cons_cons _ (List.nil_sublist _)))) 23 _ rfl 3 _ _ _ rfl 1 rfl _ sh23 (.slice (some ad) nw cpw) rfl ?_
                  try simp only [Act.put, List.setIfInBounds_toArray, List.set_cons_zero, List.set_cons_succ]
                  refine hg_reg 11 (some 67) rfl rfl (by kernel_rfl) (by kernel_rfl) (by kernel_rfl) (fun _ _ _ _ h => h) HS (List.Sublist.cons _ (List.Sublist.cons _ (List.Sublist.cons_cons _ (List.nil_sublist _)))) (sv) rfl (fun _ => by exact run_sl_lo (ao := some ad) (n := nw) (cap := cpw) (k := pl) (s := 4) rfl Tryz.underlying23 (by kernel_rfl) rfl rfl (by omega) HSV.out) ?_
                  try simp only [Act.put, List.setIfInBounds_toArray, List.set_cons_zero, List.set_cons_succ]
                  refine hk_x2 1 6 (by kernel_rfl) ?_ ?_
                  · skip
                    refine hx_load 1 (some 57) rfl rfl rfl HS (List.Sublist.cons _ (List.Sublist.cons _ (List.Sublist.cons_cons _ (List.nil_sublist _)))) 23 _ rfl 3 _ _ _ rfl 1 rfl _ sh23 (.slice (some ad) nw cpw) rfl ?_
                    try simp only [Act.put, List.setIfInBounds_toArray, List.set_cons_zero, List.set_cons_succ]
                    refine hg_reg 3 (some 59) rfl rfl (by kernel_rfl) (by kernel_rfl) (by kernel_rfl) (fun _ _ _ _ h => h) HS (List.Sublist.cons _ (List.Sublist.cons _ (List.Sublist.cons_cons _ (List.nil_sublist _)))) (.slice (some ad) pl cpw) rfl (fun _ => by exact run_sl_hi (n := nw) (s := 4) rfl Tryz.underlying23 (by kernel_rfl) rfl rfl (by omega) (sliced_hi4 _ _ _ 4).symm) ?_
                    try simp only [Act.put, List.setIfInBounds_toArray, List.set_cons_zero, List.set_cons_succ]
                    refine hk_x2 4 6 (by kernel_rfl) ?_ ?_
                    · skip
                      refine hg_appendS 4 (some 60) rfl rfl rfl (front := []) (lr := []) (ll := _) HS (fun l9 => List.Sublist.trans (List.Sublist.cons _ (List.Sublist.cons _ (List.Sublist.cons_cons _ (List.nil_sublist _)))) (List.sublist_append_right l9 _)) _ _ 23 rfl 29 ie _ 4 _ Tryz.underlying23 HIE.out HIZ.out HIS.out rfl rfl (by decide) _ 0 [] rfl RowEnt.nil _ rfl pl (gL (ws.take pl)) ((HGw.out.ext HS.out.isExt).hi (by omega)) (by unfold maxLen; omega) (Nat.le_trans (Nat.mul_le_mul (show 0 + pl ≤ 300001 by omega) HIB.out) (by decide)) ?_
                      clear HS; intro v5 w l5 HS HR5
                      replace HS := St4A HS
                      replace HR5 : Hid (RowEnt 29 4 l5 v5 pl (gL (ws.take pl))) := Lib.hid (by have h := HR5.out; rw [Nat.zero_add, List.nil_append] at h; exact h)
                      try simp only [Act.put, List.setIfInBounds_toArray, List.set_cons_zero, List.set_cons_succ]
                      refine hk_x1 6 (by kernel_rfl) ?_
                      refine hg_build 6 (some 62) rfl rfl rfl HS (List.Sublist.cons _ (List.Sublist.cons _ (List.Sublist.cons_cons _ (List.nil_sublist _)))) 23 29 1 [(0, .tmp 61)] rfl [(0, .agg g.arr)] rfl g.lst (fun w => build_grant g w) ?_
                      clear HS; intro w bn HS
                      replace HS := St4D HS
                      try simp only [Act.put, List.setIfInBounds_toArray, List.set_cons_zero, List.set_cons_succ]
                      refine hk_x1 7 (by kernel_rfl) ?_
                      replace HS := St4B HS
                      refine hg_appendS 7 (some 63) rfl rfl rfl (front := []) (lr := l5) (ll := _) HS (fun l9 => List.Sublist.trans (List.Sublist.cons _ (List.Sublist.cons _ (List.Sublist.cons_cons _ (List.nil_sublist _)))) (List.sublist_append_right l9 _)) _ _ 23 rfl 29 ie _ 4 _ Tryz.underlying23 HIE.out HIZ.out HIS.out rfl rfl (by decide) _ pl (gL (ws.take pl)) rfl HR5.out _ rfl 1 g.lst (SrcAt.box (HS.out.box (i := l5.length + 4) (show _ = some (bn, 29, g.lst) by simp)) rfl rfl) (by unfold maxLen; omega) (Nat.le_trans (Nat.mul_le_mul (show pl + 1 ≤ 300001 by omega) HIB.out) (by decide)) ?_
                      clear HS HR5; intro v6 w l6 HS HR6
                      replace HS := St4A HS
                      try simp only [Act.put, List.setIfInBounds_toArray, List.set_cons_zero, List.set_cons_succ]
                      refine hk_x1 12 (by kernel_rfl) ?_
                      replace HS := St4B HS
                      refine hg_appendS 12 (some 68) rfl rfl rfl (front := []) (lr := l6) (ll := _) HS (fun l9 => List.Sublist.trans (List.Sublist.cons _ (List.Sublist.cons _ (List.Sublist.cons_cons _ (List.nil_sublist _)))) (List.sublist_append_right l9 _)) _ _ 23 rfl 29 ie _ 4 _ Tryz.underlying23 HIE.out HIZ.out HIS.out rfl rfl (by decide) _ (pl + 1) (gL (ws.take pl) ++ g.lst) rfl HR6.out _ rfl n2 (gL (ws.drop pl)) (by rw [HSV.out, HN2.out]; exact (HGw.out.ext HS.out.isExt).lo (by omega)) (by unfold maxLen; omega) (Nat.le_trans (Nat.mul_le_mul (show (pl + 1) + n2 ≤ 300001 by omega) HIB.out) (by decide)) ?_
                      clear HS HR6; intro v7 w l7 HS HR7
                      replace HS := St4A HS
                      try simp only [Act.put, List.setIfInBounds_toArray, List.set_cons_zero, List.set_cons_succ]
                      refine hg_reg 13 (some 69) rfl rfl (by kernel_rfl) (by kernel_rfl) (by kernel_rfl) (fun _ _ _ _ h => h) HS (List.Sublist.cons _ (List.Sublist.cons _ (List.Sublist.cons_cons _ (List.nil_sublist _)))) (.pointer (some ⟨b2, 1, none⟩)) rfl (fun _ => by go_simp) ?_
                      try simp only [Act.put, List.setIfInBounds_toArray, List.set_cons_zero, List.set_cons_succ]
                      refine hk_x1 14 (by kernel_rfl) ?_
                      have HR8 := HR7
                      clear HR7
                      have HR7 : Hid (OwnRow 29 4 l7 v7 (insW hs ws g).length (gL (insW hs ws g))) := Lib.hid (by have h := OwnRow.of HR8.out; unfold insW; rw [← HPL.out, gL_append, gL_cons, List.length_append, List.length_cons, List.length_take, List.length_drop, ← HNw.out, ← HN2.out, Nat.min_eq_left (by omega), ← List.append_assoc, show pl + (n2 + 1) = pl + 1 + n2 by omega]; exact h)
                      refine hg_storeM (front := [(b7, 29, zeroG.lst), (b4, 25, [.slice none 0 0, .slice none 0 0]), (b3, 29, [.int .i64 g.tx, .int .i64 g.page, .int .i64 g.slot, .int .i64 g.mode])]) (ll := l7 ++ _) 14 rfl rfl HS 23 _ _ rfl rfl 1 rfl (v7) rfl sh23 HR7.out.one (by simp) [.slice aoh nh cph, v7] rfl (List.Sublist.cons _ (List.Sublist.cons _ (List.Sublist.cons_cons _ (List.nil_sublist _)))) ?_
                      clear HS; intro w HS
                      try simp only [Act.put, List.setIfInBounds_toArray, List.set_cons_zero, List.set_cons_succ]
                      refine hk_done (by kernel_rfl) ?_
                      try go_wp2_with fail
                      go_meet
                      exact ⟨_, l7, HR7, Lib.hid (HS.out.sub (by simp))⟩
                    · skip
                      refine hg_build 6 (some 62) rfl rfl rfl HS (List.Sublist.cons _ (List.Sublist.cons _ (List.Sublist.cons_cons _ (List.nil_sublist _)))) 23 29 1 [(0, .tmp 61)] rfl [(0, .agg g.arr)] rfl g.lst (fun w => build_grant g w) ?_
                      clear HS; intro w bn HS
                      replace HS := St4C HS
                      try simp only [Act.put, List.setIfInBounds_toArray, List.set_cons_zero, List.set_cons_succ]
                      refine hk_x1 4 (by kernel_rfl) ?_
                      refine hg_appendS 4 (some 60) rfl rfl rfl (front := []) (lr := []) (ll := _) HS (fun l9 => List.Sublist.trans (List.Sublist.cons _ (List.Sublist.cons _ (List.Sublist.cons_cons _ (List.nil_sublist _)))) (List.sublist_append_right l9 _)) _ _ 23 rfl 29 ie _ 4 _ Tryz.underlying23 HIE.out HIZ.out HIS.out rfl rfl (by decide) _ 0 [] rfl RowEnt.nil _ rfl pl (gL (ws.take pl)) ((HGw.out.ext HS.out.isExt).hi (by omega)) (by unfold maxLen; omega) (Nat.le_trans (Nat.mul_le_mul (show 0 + pl ≤ 300001 by omega) HIB.out) (by decide)) ?_
                      clear HS; intro v5 w l5 HS HR5
                      replace HS := St4A HS
                      replace HR5 : Hid (RowEnt 29 4 l5 v5 pl (gL (ws.take pl))) := Lib.hid (by have h := HR5.out; rw [Nat.zero_add, List.nil_append] at h; exact h)
                      try simp only [Act.put, List.setIfInBounds_toArray, List.set_cons_zero, List.set_cons_succ]
                      refine hk_x1 7 (by kernel_rfl) ?_
                      replace HS := St4B HS
                      refine hg_appendS 7 (some 63) rfl rfl rfl (front := []) (lr := l5) (ll := _) HS (fun l9 => List.Sublist.trans (List.Sublist.cons _ (List.Sublist.cons _ (List.Sublist.cons_cons _ (List.nil_sublist _)))) (List.sublist_append_right l9 _)) _ _ 23 rfl 29 ie _ 4 _ Tryz.underlying23 HIE.out HIZ.out HIS.out rfl rfl (by decide) _ pl (gL (ws.take pl)) rfl HR5.out _ rfl 1 g.lst (SrcAt.box (HS.out.box (i := l5.length + 4) (show _ = some (bn, 29, g.lst) by simp)) rfl rfl) (by unfold maxLen; omega) (Nat.le_trans (Nat.mul_le_mul (show pl + 1 ≤ 300001 by omega) HIB.out) (by decide)) ?_
                      clear HS HR5; intro v6 w l6 HS HR6
                      replace HS := St4A HS
                      try simp only [Act.put, List.setIfInBounds_toArray, List.set_cons_zero, List.set_cons_succ]
                      refine hk_x1 12 (by kernel_rfl) ?_
                      replace HS := St4B HS
                      refine hg_appendS 12 (some 68) rfl rfl rfl (front := []) (lr := l6) (ll := _) HS (fun l9 => List.Sublist.trans (List.Sublist.cons _ (List.Sublist.cons _ (List.Sublist.cons_cons _ (List.nil_sublist _)))) (List.sublist_append_right l9 _)) _ _ 23 rfl 29 ie _ 4 _ Tryz.underlying23 HIE.out HIZ.out HIS.out rfl rfl (by decide) _ (pl + 1) (gL (ws.take pl) ++ g.lst) rfl HR6.out _ rfl n2 (gL (ws.drop pl)) (by rw [HSV.out, HN2.out]; exact (HGw.out.ext HS.out.isExt).lo (by omega)) (by unfold maxLen; omega) (Nat.le_trans (Nat.mul_le_mul (show (pl + 1) + n2 ≤ 300001 by omega) HIB.out) (by decide)) ?_
                      clear HS HR6; intro v7 w l7 HS HR7
                      replace HS := St4A HS
                      try simp only [Act.put, List.setIfInBounds_toArray, List.set_cons_zero, List.set_cons_succ]
                      refine hg_reg 13 (some 69) rfl rfl (by kernel_rfl) (by kernel_rfl) (by kernel_rfl) (fun _ _ _ _ h => h) HS (List.Sublist.cons _ (List.Sublist.cons _ (List.Sublist.cons_cons _ (List.nil_sublist _)))) (.pointer (some ⟨b2, 1, none⟩)) rfl (fun _ => by go_simp) ?_
                      try simp only [Act.put, List.setIfInBounds_toArray, List.set_cons_zero, List.set_cons_succ]
                      refine hk_x1 14 (by kernel_rfl) ?_
                      have HR8 := HR7
                      clear HR7
                      have HR7 : Hid (OwnRow 29 4 l7 v7 (insW hs ws g).length (gL (insW hs ws g))) := Lib.hid (by have h := OwnRow.of HR8.out; unfold insW; rw [← HPL.out, gL_append, gL_cons, List.length_append, List.length_cons, List.length_take, List.length_drop, ← HNw.out, ← HN2.out, Nat.min_eq_left (by omega), ← List.append_assoc, show pl + (n2 + 1) = pl + 1 + n2 by omega]; exact h)
                      refine hg_storeM (front := [(b7, 29, zeroG.lst), (b4, 25, [.slice none 0 0, .slice none 0 0]), (b3, 29, [.int .i64 g.tx, .int .i64 g.page, .int .i64 g.slot, .int .i64 g.mode])]) (ll := l7 ++ _) 14 rfl rfl HS 23 _ _ rfl rfl 1 rfl (v7) rfl sh23 HR7.out.one (by simp) [.slice aoh nh cph, v7] rfl (List.Sublist.cons _ (List.Sublist.cons _ (List.Sublist.cons_cons _ (List.nil_sublist _)))) ?_
                      clear HS; intro w HS
                      try simp only [Act.put, List.setIfInBounds_toArray, List.set_cons_zero, List.set_cons_succ]
                      refine hk_done (by kernel_rfl) ?_
                      try go_wp2_with fail
                      go_meet
                      exact ⟨_, l7, HR7, Lib.hid (HS.out.sub (by simp))⟩
                  · skip
                    refine hg_build 6 (some 62) rfl rfl rfl HS (List.Sublist.cons _ (List.Sublist.cons _ (List.Sublist.cons_cons _ (List.nil_sublist _)))) 23 29 1 [(0, .tmp 61)] rfl [(0, .agg g.arr)] rfl g.lst (fun w => build_grant g w) ?_
                    clear HS; intro w bn HS
                    replace HS := St4C HS
                    try simp only [Act.put, List.setIfInBounds_toArray, List.set_cons_zero, List.set_cons_succ]
                    refine hk_x1 1 (by kernel_rfl) ?_
                    refine hx_load 1 (some 57) rfl rfl rfl HS (List.Sublist.cons _ (List.Sublist.cons _ (List.Sublist.cons_cons _ (List.nil_sublist _)))) 23 _ rfl 3 _ _ _ rfl 1 rfl _ sh23 (.slice (some ad) nw cpw) rfl ?_
                    try simp only [Act.put, List.setIfInBounds_toArray, List.set_cons_zero, List.set_cons_succ]
                    refine hg_reg 3 (some 59) rfl rfl (by kernel_rfl) (by kernel_rfl) (by kernel_rfl) (fun _ _ _ _ h => h) HS (List.Sublist.cons _ (List.Sublist.cons _ (List.Sublist.cons_cons _ (List.nil_sublist _)))) (.slice (some ad) pl cpw) rfl (fun _ => by exact run_sl_hi (n := nw) (s := 4) rfl Tryz.underlying23 (by kernel_rfl) rfl rfl (by omega) (sliced_hi4 _ _ _ 4).symm) ?_
                    try simp only [Act.put, List.setIfInBounds_toArray, List.set_cons_zero, List.set_cons_succ]
                    refine hk_x1 4 (by kernel_rfl) ?_
                    refine hg_appendS 4 (some 60) rfl rfl rfl (front := []) (lr := []) (ll := _) HS (fun l9 => List.Sublist.trans (List.Sublist.cons _ (List.Sublist.cons _ (List.Sublist.cons_cons _ (List.nil_sublist _)))) (List.sublist_append_right l9 _)) _ _ 23 rfl 29 ie _ 4 _ Tryz.underlying23 HIE.out HIZ.out HIS.out rfl rfl (by decide) _ 0 [] rfl RowEnt.nil _ rfl pl (gL (ws.take pl)) ((HGw.out.ext HS.out.isExt).hi (by omega)) (by unfold maxLen; omega) (Nat.le_trans (Nat.mul_le_mul (show 0 + pl ≤ 300001 by omega) HIB.out) (by decide)) ?_
                    clear HS; intro v5 w l5 HS HR5
                    replace HS := St4A HS
                    replace HR5 : Hid (RowEnt 29 4 l5 v5 pl (gL (ws.take pl))) := Lib.hid (by have h := HR5.out; rw [Nat.zero_add, List.nil_append] at h; exact h)
                    try simp only [Act.put, List.setIfInBounds_toArray, List.set_cons_zero, List.set_cons_succ]
                    refine hk_x1 7 (by kernel_rfl) ?_
                    replace HS := St4B HS
                    refine hg_appendS 7 (some 63) rfl rfl rfl (front := []) (lr := l5) (ll := _) HS (fun l9 => List.Sublist.trans (List.Sublist.cons _ (List.Sublist.cons _ (List.Sublist.cons_cons _ (List.nil_sublist _)))) (List.sublist_append_right l9 _)) _ _ 23 rfl 29 ie _ 4 _ Tryz.underlying23 HIE.out HIZ.out HIS.out rfl rfl (by decide) _ pl (gL (ws.take pl)) rfl HR5.out _ rfl 1 g.lst (SrcAt.box (HS.out.box (i := l5.length + 4) (show _ = some (bn, 29, g.lst) by simp)) rfl rfl) (by unfold maxLen; omega) (Nat.le_trans (Nat.mul_le_mul (show pl + 1 ≤ 300001 by omega) HIB.out) (by decide)) ?_
                    clear HS HR5; intro v6 w l6 HS HR6
                    replace HS := St4A HS
                    try simp only [Act.put, List.setIfInBounds_toArray, List.set_cons_zero, List.set_cons_succ]
                    refine hk_x1 12 (by kernel_rfl) ?_
                    replace HS := St4B HS
                    refine hg_appendS 12 (some 68) rfl rfl rfl (front := []) (lr := l6) (ll := _) HS (fun l9 => List.Sublist.trans (List.Sublist.cons _ (List.Sublist.cons _ (List.Sublist.cons_cons _ (List.nil_sublist _)))) (List.sublist_append_right l9 _)) _ _ 23 rfl 29 ie _ 4 _ Tryz.underlying23 HIE.out HIZ.out HIS.out rfl rfl (by decide) _ (pl + 1) (gL (ws.take pl) ++ g.lst) rfl HR6.out _ rfl n2 (gL (ws.drop pl)) (by rw [HSV.out, HN2.out]; exact (HGw.out.ext HS.out.isExt).lo (by omega)) (by unfold maxLen; omega) (Nat.le_trans (Nat.mul_le_mul (show (pl + 1) + n2 ≤ 300001 by omega) HIB.out) (by decide)) ?_
                    clear HS HR6; intro v7 w l7 HS HR7
                    replace HS := St4A HS
                    try simp only [Act.put, List.setIfInBounds_toArray, List.set_cons_zero, List.set_cons_succ]
                    refine hg_reg 13 (some 69) rfl rfl (by kernel_rfl) (by kernel_rfl) (by kernel_rfl) (fun _ _ _ _ h => h) HS (List.Sublist.cons _ (List.Sublist.cons _ (List.Sublist.cons_cons _ (List.nil_sublist _)))) (.pointer (some ⟨b2, 1, none⟩)) rfl (fun _ => by go_simp) ?_
                    try simp only [Act.put, List.setIfInBounds_toArray, List.set_cons_zero, List.set_cons_succ]
                    refine hk_x1 14 (by kernel_rfl) ?_
                    have HR8 := HR7
                    clear HR7
                    have HR7 : Hid (OwnRow 29 4 l7 v7 (insW hs ws g).length (gL (insW hs ws g))) := Lib.hid (by have h := OwnRow.of HR8.out; unfold insW; rw [← HPL.out, gL_append, gL_cons, List.length_append, List.length_cons, List.length_take, List.length_drop, ← HNw.out, ← HN2.out, Nat.min_eq_left (by omega), ← List.append_assoc, show pl + (n2 + 1) = pl + 1 + n2 by omega]; exact h)
                    refine hg_storeM (front := [(b7, 29, zeroG.lst), (b4, 25, [.slice none 0 0, .slice none 0 0]), (b3, 29, [.int .i64 g.tx, .int .i64 g.page, .int .i64 g.slot, .int .i64 g.mode])]) (ll := l7 ++ _) 14 rfl rfl HS 23 _ _ rfl rfl 1 rfl (v7) rfl sh23 HR7.out.one (by simp) [.slice aoh nh cph, v7] rfl (List.Sublist.cons _ (List.Sublist.cons _ (List.Sublist.cons_cons _ (List.nil_sublist _)))) ?_
                    clear HS; intro w HS
                    try simp only [Act.put, List.setIfInBounds_toArray, List.set_cons_zero, List.set_cons_succ]
                    refine hk_done (by kernel_rfl) ?_
                    try go_wp2_with fail
                    go_meet
                    exact ⟨_, l7, HR7, Lib.hid (HS.out.sub (by simp))⟩
            case rest =>
              clear HS
              obtain ⟨v3, l3, HR3, HS⟩ := hcut
              go_wp2_with (first | (refine sx_loads HS (by rfl) 25 _ rfl 3 _ _ _ rfl 0 rfl 2 sh25 [.slice aoh nh cph, v3] rfl ⟨rfl, rfl, trivial⟩ ?_))
              have HIL : Hid ((insW hs ws g).length = nw + 1) := Lib.hid (by unfold insW; rw [← HPL.out, List.length_append, List.length_cons, List.length_take, List.length_drop, ← HNw.out]; omega)
              refine (rf_settle wc _ _ hs (insW hs ws g) (HGh.out.ext HS.out.isExt) (GsAt.own (lr := l3) HS.out (fun e he => by simp [he]) HR3.out) (by rw [HIL.out, ← HNh.out]; omega) (ins_tv HV.out HVG.out HFD.out (by have := HNM.out; omega))).mono ?_
              rintro e w ⟨v4, v5, lr, rfl, hst, hk1, hk2⟩
              replace HS : Hid (St none default w0 w ((b7, 29, zeroG.lst) :: (b4, 25, [.slice none 0 0, .slice none 0 0]) :: (b3, 29, [.int .i64 g.tx, .int .i64 g.page, .int .i64 g.slot, .int .i64 g.mode]) :: (b2, 25, [.slice aoh nh cph, v3]) :: (lr ++ l3))) := Lib.hid ((HS.out.call hst).perm (by simpa using List.perm_append_comm_assoc [(b7, 29, zeroG.lst), (b4, 25, [.slice none 0 0, .slice none 0 0]), (b3, 29, [.int .i64 g.tx, .int .i64 g.page, .int .i64 g.slot, .int .i64 g.mode]), (b2, 25, [.slice aoh nh cph, v3])] lr l3))
              obtain ⟨R, hR⟩ : ∃ R, R = settle hs (insW hs ws g) := ⟨_, rfl⟩
              rw [← hR] at hk1 hk2 HF
              clear hR hst
              have HK1 : Hid (Kp (.slice aoh nh cph) hs (lr ++ l3) v4 R.1) := Lib.hid (hk1.mono (fun e he => List.mem_append_left _ he))
              have HK2 : Hid (OwnIn (lr ++ l3) v5 R.2) := Lib.hid (by
                rcases hk2 with ⟨e1, e2⟩ | h
                · rw [e1, e2]; exact ⟨l3, fun e he => List.mem_append_right _ he, HR3.out⟩
                · exact h.mono (fun e he => List.mem_append_left _ he))
              clear hk1 hk2
              go_wp2_with (first | (refine sx_store_all HS (by rfl) 25 _ _ rfl rfl 3 _ _ _ rfl rfl [v4, v5] rfl 2 sh25 rfl rfl (by simp [HK1.out.one rfl, HK2.out.one]) ?_; clear HS; intro w HS))
              replace HS : Hid (St none default w0 w ((b7, 29, zeroG.lst) :: (b4, 25, [.slice none 0 0, .slice none 0 0]) :: (b3, 29, [.int .i64 g.tx, .int .i64 g.page, .int .i64 g.slot, .int .i64 g.mode]) :: (b2, 25, [v4, v5]) :: (lr ++ l3))) := HS
              obtain ⟨m2, hm2⟩ : ∃ m, m = modeF R.1 g := ⟨_, rfl⟩
              rw [← hm2] at HF
              have HMK2 : Hid (modeF R.1 ⟨g.tx, g.page, g.slot, 0⟩ = m2) := Lib.hid (by rw [hm2]; exact modeF_key R.1 ⟨g.tx, g.page, g.slot, 0⟩ g rfl rfl rfl)
              clear hm2
              refine hg_begin [(b3, 29, [.int .i64 g.tx, .int .i64 g.page, .int .i64 g.slot, .int .i64 g.mode]), (b2, 25, [v4, v5])] HS (by kernel_rfl) ?_
              clear HS; intro w HS
              refine hg_loads 0 (some 72) rfl rfl (by kernel_rfl) (by kernel_rfl) (by kernel_rfl) (fun _ _ _ _ h => h) HS (List.Sublist.cons _ (List.Sublist.cons _ (List.Sublist.cons_cons _ (List.Sublist.cons_cons _ (List.nil_sublist _))))) rfl 25 _ rfl 1 _ _ _ rfl 0 rfl 2 sh25 [v4, v5] rfl ⟨rfl, rfl, trivial⟩ ?_
              try simp only [Act.put, List.setIfInBounds_toArray, List.set_cons_zero, List.set_cons_succ]
              refine hg_loads 1 (some 73) rfl rfl (by kernel_rfl) (by kernel_rfl) (by kernel_rfl) (fun _ _ _ _ h => h) HS (List.Sublist.cons _ (List.Sublist.cons _ (List.Sublist.cons_cons _ (List.Sublist.cons_cons _ (List.nil_sublist _))))) rfl 25 _ rfl 1 _ _ _ rfl 0 rfl 2 sh25 [v4, v5] rfl ⟨rfl, rfl, trivial⟩ ?_
              try simp only [Act.put, List.setIfInBounds_toArray, List.set_cons_zero, List.set_cons_succ]
              refine hg_reg 2 (some 74) rfl rfl (by kernel_rfl) (by kernel_rfl) (by kernel_rfl) (fun _ _ _ _ h => h) HS (List.Sublist.cons _ (List.Sublist.cons _ (List.Sublist.cons_cons _ (List.Sublist.cons_cons _ (List.nil_sublist _))))) (.pointer (some ⟨b3, 0, none⟩)) rfl (fun _ => by go_simp) ?_
              try simp only [Act.put, List.setIfInBounds_toArray, List.set_cons_zero, List.set_cons_succ]
              refine hg_load 3 (some 75) rfl rfl (by kernel_rfl) (by kernel_rfl) (by kernel_rfl) (fun _ _ _ _ h => h) HS (List.Sublist.cons _ (List.Sublist.cons _ (List.Sublist.cons_cons _ (List.Sublist.cons_cons _ (List.nil_sublist _))))) rfl 3 _ rfl 0 _ _ _ rfl 0 rfl _ sh3 (.int .i64 g.tx) rfl ?_
              try simp only [Act.put, List.setIfInBounds_toArray, List.set_cons_zero, List.set_cons_succ]
              refine hg_reg 4 (some 76) rfl rfl (by kernel_rfl) (by kernel_rfl) (by kernel_rfl) (fun _ _ _ _ h => h) HS (List.Sublist.cons _ (List.Sublist.cons _ (List.Sublist.cons_cons _ (List.Sublist.cons_cons _ (List.nil_sublist _))))) (.pointer (some ⟨b3, 1, none⟩)) rfl (fun _ => by go_simp) ?_
              try simp only [Act.put, List.setIfInBounds_toArray, List.set_cons_zero, List.set_cons_succ]
              refine hg_loads 5 (some 77) rfl rfl (by kernel_rfl) (by kernel_rfl) (by kernel_rfl) (fun _ _ _ _ h => h) HS (List.Sublist.cons _ (List.Sublist.cons _ (List.Sublist.cons_cons _ (List.Sublist.cons_cons _ (List.nil_sublist _))))) rfl 27 _ rfl 0 _ _ _ rfl 1 rfl 2 sh27 [.int .i64 g.page, .int .i64 g.slot] rfl ⟨rfl, rfl, trivial⟩ ?_
              try simp only [Act.put, List.setIfInBounds_toArray, List.set_cons_zero, List.set_cons_succ]
              refine hg_reg 7 (some 79) rfl rfl (by kernel_rfl) (by kernel_rfl) (by kernel_rfl) (fun _ _ _ _ h => h) HS (List.Sublist.cons _ (List.Sublist.cons _ (List.Sublist.cons_cons _ (List.Sublist.cons_cons _ (List.nil_sublist _))))) (.pointer (some ⟨b3, 3, none⟩)) rfl (fun _ => by go_simp) ?_
              try simp only [Act.put, List.setIfInBounds_toArray, List.set_cons_zero, List.set_cons_succ]
              refine hg_load 8 (some 80) rfl rfl (by kernel_rfl) (by kernel_rfl) (by kernel_rfl) (fun _ _ _ _ h => h) HS (List.Sublist.cons _ (List.Sublist.cons _ (List.Sublist.cons_cons _ (List.Sublist.cons_cons _ (List.nil_sublist _))))) rfl 3 _ rfl 0 _ _ _ rfl 3 rfl _ sh3 (.int .i64 g.mode) rfl ?_
              try simp only [Act.put, List.setIfInBounds_toArray, List.set_cons_zero, List.set_cons_succ]
              refine hk_x1 6 (by kernel_rfl) ?_
              refine hg_call 6 (some 78) rfl rfl rfl HS (List.Sublist.cons _ (List.Sublist.cons _ (List.Sublist.cons_cons _ (List.Sublist.cons_cons _ (List.nil_sublist _))))) 38 _ _ rfl Tryz.func38 (by kernel_rfl) rfl _ (fun v => v = .int .i64 m2) ((rf_mode w _ _ R.1 g.tx g.page g.slot (HK1.out.at HGh.out HS.out (fun e he => by simp only [List.mem_cons]; exact .inr (.inr (.inr (.inr he))))) HK2.out.one).mono (fun e w1 h => by obtain ⟨rfl, hx⟩ := h; exact ⟨_, rfl, (by rw [HMK2.out]), HS.out.ext hx⟩)) rfl ?_
              clear HS; rintro _ w rfl HS
              try simp only [Act.put, List.setIfInBounds_toArray, List.set_cons_zero, List.set_cons_succ]
              refine hg_reg 9 (some 81) rfl rfl (by kernel_rfl) (by kernel_rfl) (by kernel_rfl) (fun _ _ _ _ h => h) HS (List.Sublist.cons _ (List.Sublist.cons _ (List.Sublist.cons_cons _ (List.Sublist.cons_cons _ (List.nil_sublist _))))) (.bool (decide (g.mode ≤ m2))) rfl (fun _ => by first | rfl | go_simp) ?_
              try simp only [Act.put, List.setIfInBounds_toArray, List.set_cons_zero, List.set_cons_succ]
              refine hk_x1 10 (by kernel_rfl) ?_
              refine hg_store_all 10 rfl rfl HS 25 _ _ rfl rfl 1 b4 25 [.slice none 0 0, .slice none 0 0] rfl rfl [v4, v5] rfl 2 sh25 rfl rfl (by simp [HK1.out.one rfl, HK2.out.one]) (List.Sublist.cons _ (List.Sublist.cons _ (List.Sublist.cons_cons _ (List.Sublist.cons_cons _ (List.nil_sublist _))))) ?_
              clear HS; intro w HS
              try simp only [Act.put, List.setIfInBounds_toArray, List.set_cons_zero, List.set_cons_succ]
              refine hg_reg 11 (some 5) rfl rfl (by kernel_rfl) (by kernel_rfl) (by kernel_rfl) (fun _ _ _ _ h => h) HS (List.Sublist.cons _ (List.Sublist.cons _ (List.Sublist.cons_cons _ (List.Sublist.cons_cons _ (List.nil_sublist _))))) (.bool (decide (g.mode ≤ m2))) rfl (fun _ => by rfl) ?_
              try simp only [Act.put, List.setIfInBounds_toArray, List.set_cons_zero, List.set_cons_succ]
              refine hg_reg 12 (some 6) rfl rfl (by kernel_rfl) (by kernel_rfl) (by kernel_rfl) (fun _ _ _ _ h => h) HS (List.Sublist.cons _ (List.Sublist.cons _ (List.Sublist.cons_cons _ (List.Sublist.cons_cons _ (List.nil_sublist _))))) (.int .i64 0) rfl (fun _ => by rfl) ?_
              try simp only [Act.put, List.setIfInBounds_toArray, List.set_cons_zero, List.set_cons_succ]
              refine hk_done (by kernel_rfl) ?_
              go_wp2_with fail
              have hB : PBox w b4 25 [v4, v5] := HS.out.box (i := 1) rfl
              refine bodyPost_ret (results_ctt rfl rfl (run_load_cells sh25 rfl (fun j u hj => by rw [Nat.zero_add]; exact hB.cell hj)) rfl rfl) rfl ?_
              exact .inr ⟨R, decide (g.mode ≤ m2), v4, v5, lr ++ l3, HF.out.1, HF.out.2, rfl, HS.out.drop 4, HK1.out, .inr HK2.out⟩
end Go.Proofs.YtnfkplohpjfocaaGreat
