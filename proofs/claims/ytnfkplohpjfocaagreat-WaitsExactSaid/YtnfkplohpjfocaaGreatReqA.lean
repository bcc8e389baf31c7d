/-
  The contract of locks.Request.
-/
import Derived.Test.YtnfkplohpjfocaaGreatReqF
set_option linter.unusedVariables false
set_option linter.unusedSimpArgs false
namespace Go.Proofs.YtnfkplohpjfocaaGreat
open Go.RowKit
def ReqPost (vh vw : Value) (hs ws : List G) (g : G) (w0 : World) (e : Ending) (w' : World) : Prop :=
  (reqF hs ws g = none ∧ reqE hs ws g ≠ 0 ∧ e = .returned (.tuple #[.agg #[.slice none 0 0, .slice none 0 0], .bool false, .int .i64 (reqE hs ws g)]) ∧ Ext w0 w') ∨
  (∃ b, reqF hs ws g = some (hs, ws, b) ∧ reqE hs ws g = 0 ∧ e = .returned (.tuple #[.agg #[vh, vw], .bool b, .int .i64 0]) ∧ Ext w0 w') ∨
  (∃ (R : List G × List G) (b : Bool) (v1 v2 : Value) (l1 l2 : List (Nat × TypeId × List Value)), reqF hs ws g = some (R.1, R.2, b) ∧ reqE hs ws g = 0 ∧ e = .returned (.tuple #[.agg #[v1, v2], .bool b, .int .i64 0]) ∧ St none default w0 w' (l1 ++ l2) ∧ OwnRow 29 4 l1 v1 R.1.length (gL R.1) ∧ OwnRow 29 4 l2 v2 R.2.length (gL R.2))
set_option maxHeartbeats 8000000 in
set_option maxRecDepth 100000 in
theorem lk_request (w0 : World) (vh vw : Value) (hs ws : List G) (g : G) (h1 : GsAt w0 vh hs) (h2 : GsAt w0 vw ws) (hb1 : hs.length ≤ 400000) (hb2 : ws.length ≤ 400000) : Calls Tryz.prog 33 #[.agg #[vh, vw], .agg g.arr] w0 (ReqPost vh vw hs ws g w0) := by
  have HG1 := Lib.hid h1
  have HG2 := Lib.hid h2
  have HB1 := Lib.hid hb1
  have HB2 := Lib.hid hb2
  obtain ⟨aoh, cph, rfl, hch1, hch2, -⟩ := h1.get
  obtain ⟨aow, cpw, rfl, hcw1, hcw2, -⟩ := h2.get
  obtain ⟨nh, hnh⟩ : ∃ n, n = hs.length := ⟨_, rfl⟩
  obtain ⟨nw, hnw⟩ : ∃ n, n = ws.length := ⟨_, rfl⟩
  rw [← hnh] at HG1 hch1 hb1 ⊢
  rw [← hnw] at HG2 hcw1 hb2 ⊢
  have HNH := Lib.hid hnh
  have HNW := Lib.hid hnw
  clear h1 h2 hnh hnw
  have HS : Hid (St none default w0 w0 []) := St.start w0
  go_enter Tryz.func33, Tryz.ntmps33
  go_wp2_with (first | (refine sx_box HS rfl 25 (.tmp 0) rfl [.slice aoh nh cph, .slice aow nw cpw] rfl ?_; clear HS; intro w b2 HS) | (refine sx_box HS rfl 29 (.tmp 1) rfl g.lst rfl ?_; clear HS; intro w b3 HS) | (refine sx_alloc HS rfl 25 rfl _ zr25 ?_; clear HS; intro w b4 HS) | (refine sx_loads HS (by rfl) 25 (.tmp 2) rfl 2 _ _ _ rfl 0 rfl 2 sh25 [.slice aoh nh cph, .slice aow nw cpw] rfl ⟨rfl, rfl, trivial⟩ ?_))
  replace HS : Hid (St none default w0 w [(b4, 25, [.slice none 0 0, .slice none 0 0]), (b3, 29, g.lst), (b2, 25, [.slice aoh nh cph, .slice aow nw cpw])]) := HS
  refine (lk_valid w _ _ hs ws (HG1.out.ext HS.out.isExt) (HG2.out.ext HS.out.isExt) (Nat.le_trans HB1.out (by decide)) (Nat.le_trans HB2.out (by decide))).mono ?_
  rintro e w ⟨he, hx⟩
  replace HS := Lib.hid (HS.out.ext hx)
  clear hx
  cases hval : validT hs ws with
  | false =>
    rw [hval] at he
    subst he
    have HF := Lib.hid (req_bad1 (g := g) hval)
    go_wp2_with (first | (refine sx_store_all HS (by rfl) 25 (.tmp 4) (.tmp 13) rfl rfl 0 _ _ _ rfl rfl [.slice none 0 0, .slice none 0 0] rfl 2 sh25 rfl rfl rfl ?_; clear HS; intro w HS))
    have hB : PBox w b4 25 [.slice none 0 0, .slice none 0 0] := HS.out.box (i := 0) rfl
    refine bodyPost_ret (results_ctt rfl rfl (run_load_cells sh25 rfl (fun j u hj => by rw [Nat.zero_add]; exact hB.cell hj)) rfl rfl) rfl ?_
    refine .inl ⟨HF.out.1, by rw [HF.out.2]; decide, ?_, HS.out.isExt⟩
    rw [HF.out.2]
    rfl
  | true =>
    rw [hval] at he
    subst he
    have HV := Lib.hid hval
    clear hval
    go_wp2_with (refine sx_load_all HS (by rfl) 29 (.tmp 3) rfl 1 _ _ _ rfl rfl 4 sh29 rfl ?_)
    refine (lk_validG g w).mono ?_
    rintro e w ⟨he, hx⟩
    replace HS := Lib.hid (HS.out.ext hx)
    clear hx
    cases hvg : validG g with
    | false =>
      rw [hvg] at he
      subst he
      have HF := Lib.hid (req_bad2 HV.out hvg)
      go_wp2_with (first | (refine sx_store_all HS (by rfl) 25 (.tmp 4) (.tmp 18) rfl rfl 0 _ _ _ rfl rfl [.slice none 0 0, .slice none 0 0] rfl 2 sh25 rfl rfl rfl ?_; clear HS; intro w HS))
      have hB : PBox w b4 25 [.slice none 0 0, .slice none 0 0] := HS.out.box (i := 0) rfl
      refine bodyPost_ret (results_ctt rfl rfl (run_load_cells sh25 rfl (fun j u hj => by rw [Nat.zero_add]; exact hB.cell hj)) rfl rfl) rfl ?_
      refine .inl ⟨HF.out.1, by rw [HF.out.2]; decide, ?_, HS.out.isExt⟩
      rw [HF.out.2]
      rfl
    | true =>
      rw [hvg] at he
      subst he
      have HVG := Lib.hid hvg
      clear hvg
      go_wp2_with (first | (refine sx_loads HS (by rfl) 25 (.tmp 2) rfl 2 _ _ _ rfl 0 rfl 2 sh25 [.slice aoh nh cph, .slice aow nw cpw] rfl ⟨rfl, rfl, trivial⟩ ?_) | (refine sx_load HS (by rfl) 3 (.tmp 21) rfl 1 _ _ _ rfl 0 rfl _ sh3 (.int .i64 g.tx) rfl ?_))
      refine (lk_Waiting w _ _ hs ws g.tx (HG1.out.ext HS.out.isExt) (HG2.out.ext HS.out.isExt) (Nat.le_trans HB1.out (by decide)) (Nat.le_trans HB2.out (by decide))).mono ?_
      rintro e w ⟨he, hx⟩
      replace HS := Lib.hid (HS.out.ext hx)
      clear hx
      rw [waitF_yes HV.out] at he
      cases hfd : ws.find? (fun x => x.tx == g.tx) with
      | some x =>
        rw [hfd] at he
        have he2 : e = .returned (.tuple #[.agg x.arr, .bool true]) := he
        clear he
        subst he2
        have HFD := Lib.hid hfd
        clear hfd
        have hq := neq_grant x g
        cases hsg : sameG x g with
        | false =>
          rw [hsg] at hq
          have HSG := Lib.hid hsg
          clear hsg
          have HF := Lib.hid (req_bad3 HV.out HVG.out HFD.out HSG.out)
          go_wp2_with (first | (refine sx_alloc HS (by rfl) 29 rfl _ zr29 ?_; clear HS; intro w b7 HS) | (refine sx_store_all HS (by rfl) 29 (.tmp 7) (.tmp 24) rfl rfl 0 _ _ _ rfl rfl x.lst rfl 4 sh29 rfl rfl rfl ?_; clear HS; intro w HS) | (refine sx_load_all HS (by rfl) 29 (.tmp 7) rfl 0 _ _ _ rfl rfl 4 sh29 rfl ?_) | (refine sx_load_all HS (by rfl) 29 (.tmp 3) rfl 2 _ _ _ rfl rfl 4 sh29 rfl ?_) | (refine sx_store_all HS (by rfl) 25 (.tmp 4) (.tmp 33) rfl rfl 1 _ _ _ rfl rfl [.slice none 0 0, .slice none 0 0] rfl 2 sh25 rfl rfl rfl ?_; clear HS; intro w HS))
          have hB : PBox w b4 25 [.slice none 0 0, .slice none 0 0] := HS.out.box (i := 1) rfl
          refine bodyPost_ret (results_ctt rfl rfl (run_load_cells sh25 rfl (fun j u hj => by rw [Nat.zero_add]; exact hB.cell hj)) rfl rfl) rfl ?_
          refine .inl ⟨HF.out.1, by rw [HF.out.2]; decide, ?_, HS.out.isExt⟩
          rw [HF.out.2]
          rfl
        | true =>
          rw [hsg] at hq
          have HSG := Lib.hid hsg
          clear hsg
          have HF := Lib.hid (req_same HV.out HVG.out HFD.out HSG.out)
          go_wp2_with (first | (refine sx_alloc HS (by rfl) 29 rfl _ zr29 ?_; clear HS; intro w b7 HS) | (refine sx_store_all HS (by rfl) 29 (.tmp 7) (.tmp 24) rfl rfl 0 _ _ _ rfl rfl x.lst rfl 4 sh29 rfl rfl rfl ?_; clear HS; intro w HS) | (refine sx_load_all HS (by rfl) 29 (.tmp 7) rfl 0 _ _ _ rfl rfl 4 sh29 rfl ?_) | (refine sx_load_all HS (by rfl) 29 (.tmp 3) rfl 2 _ _ _ rfl rfl 4 sh29 rfl ?_) | (refine sx_loads HS (by rfl) 25 (.tmp 2) rfl 3 _ _ _ rfl 0 rfl 2 sh25 [.slice aoh nh cph, .slice aow nw cpw] rfl ⟨rfl, rfl, trivial⟩ ?_) | (refine sx_store_all HS (by rfl) 25 (.tmp 4) (.tmp 36) rfl rfl 1 _ _ _ rfl rfl [.slice aoh nh cph, .slice aow nw cpw] rfl 2 sh25 rfl rfl rfl ?_; clear HS; intro w HS))
          have hB : PBox w b4 25 [.slice aoh nh cph, .slice aow nw cpw] := HS.out.box (i := 1) rfl
          refine bodyPost_ret (results_ctt rfl rfl (run_load_cells sh25 rfl (fun j u hj => by rw [Nat.zero_add]; exact hB.cell hj)) rfl rfl) rfl ?_
          exact .inr (.inl ⟨false, HF.out.1, HF.out.2, rfl, HS.out.isExt⟩)
      | none =>
        rw [hfd] at he
        have he2 : e = .returned (.tuple #[.agg zeroG.arr, .bool false]) := he
        clear he
        subst he2
        have HFD := Lib.hid hfd
        clear hfd
        go_wp2_with (first | (refine sx_alloc HS (by rfl) 29 rfl _ zr29 ?_; clear HS; intro w b7 HS) | (refine sx_store_all HS (by rfl) 29 (.tmp 7) (.tmp 24) rfl rfl 0 _ _ _ rfl rfl zeroG.lst rfl 4 sh29 rfl rfl rfl ?_; clear HS; intro w HS))
        replace HS : Hid (St none default w0 w [(b7, 29, zeroG.lst), (b4, 25, [.slice none 0 0, .slice none 0 0]), (b3, 29, g.lst), (b2, 25, [.slice aoh nh cph, .slice aow nw cpw])]) := HS
        have HSO : Hid (sortedG hs) := Lib.hid (validT_sorted HV.out)
        have hmk : modeF hs ⟨g.tx, g.page, g.slot, 0⟩ = modeF hs g := modeF_key hs _ g rfl rfl rfl
        obtain ⟨mg, hmg⟩ : ∃ m, m = modeF hs g := ⟨_, rfl⟩
        rw [← hmg] at hmk
        have HMK := Lib.hid hmk
        have HMG := Lib.hid hmg
        clear hmk hmg
        by_cases hm : g.mode ≤ mg
        · skip
          refine hg_begin [(b3, 29, g.lst), (b2, 25, [.slice aoh nh cph, .slice aow nw cpw])] HS (by kernel_rfl) ?_
          clear HS; intro w HS
          refine hg_loads 0 (some 38) rfl rfl (by kernel_rfl) (by kernel_rfl) (by kernel_rfl) (fun _ _ _ _ h => h) HS (List.Sublist.cons _ (List.Sublist.cons _ (List.Sublist.refl _))) rfl 25 _ rfl 1 _ _ _ rfl 0 rfl 2 sh25 [.slice aoh nh cph, .slice aow nw cpw] rfl ⟨rfl, rfl, trivial⟩ ?_
          try simp only [Act.put, List.setIfInBounds_toArray, List.set_cons_zero, List.set_cons_succ]
          refine hg_reg 1 (some 39) rfl rfl (by kernel_rfl) (by kernel_rfl) (by kernel_rfl) (fun _ _ _ _ h => h) HS (List.Sublist.cons _ (List.Sublist.cons _ (List.Sublist.refl _))) (.pointer (some ⟨b3, 0, none⟩)) rfl (fun _ => by go_simp) ?_
          try simp only [Act.put, List.setIfInBounds_toArray, List.set_cons_zero, List.set_cons_succ]
          refine hg_load 2 (some 40) rfl rfl (by kernel_rfl) (by kernel_rfl) (by kernel_rfl) (fun _ _ _ _ h => h) HS (List.Sublist.cons _ (List.Sublist.cons _ (List.Sublist.refl _))) rfl 3 _ rfl 0 _ _ _ rfl 0 rfl _ sh3 (.int .i64 g.tx) rfl ?_
          try simp only [Act.put, List.setIfInBounds_toArray, List.set_cons_zero, List.set_cons_succ]
          refine hg_reg 3 (some 41) rfl rfl (by kernel_rfl) (by kernel_rfl) (by kernel_rfl) (fun _ _ _ _ h => h) HS (List.Sublist.cons _ (List.Sublist.cons _ (List.Sublist.refl _))) (.pointer (some ⟨b3, 1, none⟩)) rfl (fun _ => by go_simp) ?_
          try simp only [Act.put, List.setIfInBounds_toArray, List.set_cons_zero, List.set_cons_succ]
          refine hg_loads 4 (some 42) rfl rfl (by kernel_rfl) (by kernel_rfl) (by kernel_rfl) (fun _ _ _ _ h => h) HS (List.Sublist.cons _ (List.Sublist.cons _ (List.Sublist.refl _))) rfl 27 _ rfl 0 _ _ _ rfl 1 rfl 2 sh27 [.int .i64 g.page, .int .i64 g.slot] rfl ⟨rfl, rfl, trivial⟩ ?_
          try simp only [Act.put, List.setIfInBounds_toArray, List.set_cons_zero, List.set_cons_succ]
          refine hg_reg 6 (some 44) rfl rfl (by kernel_rfl) (by kernel_rfl) (by kernel_rfl) (fun _ _ _ _ h => h) HS (List.Sublist.cons _ (List.Sublist.cons _ (List.Sublist.refl _))) (.pointer (some ⟨b3, 3, none⟩)) rfl (fun _ => by go_simp) ?_
          try simp only [Act.put, List.setIfInBounds_toArray, List.set_cons_zero, List.set_cons_succ]
          refine hg_load 7 (some 45) rfl rfl (by kernel_rfl) (by kernel_rfl) (by kernel_rfl) (fun _ _ _ _ h => h) HS (List.Sublist.cons _ (List.Sublist.cons _ (List.Sublist.refl _))) rfl 3 _ rfl 0 _ _ _ rfl 3 rfl _ sh3 (.int .i64 g.mode) rfl ?_
          try simp only [Act.put, List.setIfInBounds_toArray, List.set_cons_zero, List.set_cons_succ]
          refine hk_x1 5 (by kernel_rfl) ?_
          refine hg_call 5 (some 43) rfl rfl rfl HS (List.Sublist.cons _ (List.Sublist.cons _ (List.Sublist.refl _))) 43 _ _ rfl Tryz.func43 (by kernel_rfl) rfl _ (fun v => v = .int .i64 mg) ((lk_mode w _ _ hs g.tx g.page g.slot (HG1.out.ext HS.out.isExt) (Nat.le_trans HB1.out (by decide)) HSO.out rfl).mono (fun e w1 h => by obtain ⟨rfl, hx⟩ := h; exact ⟨_, rfl, (by rw [HMK.out]), HS.out.ext hx⟩)) rfl ?_
          clear HS; rintro _ w rfl HS
          try simp only [Act.put, List.setIfInBounds_toArray, List.set_cons_zero, List.set_cons_succ]
          refine hg_reg 8 (some 46) rfl rfl (by kernel_rfl) (by kernel_rfl) (by kernel_rfl) (fun _ _ _ _ h => h) HS (List.Sublist.cons _ (List.Sublist.cons _ (List.Sublist.refl _))) (.bool true) rfl (fun _ => by go_simp) ?_
          try simp only [Act.put, List.setIfInBounds_toArray, List.set_cons_zero, List.set_cons_succ]
          refine hg_reg 9 (some 37) rfl rfl (by kernel_rfl) (by kernel_rfl) (by kernel_rfl) (fun _ _ _ _ h => h) HS (List.Sublist.cons _ (List.Sublist.cons _ (List.Sublist.refl _))) (.bool true) rfl (fun _ => by rfl) ?_
          try simp only [Act.put, List.setIfInBounds_toArray, List.set_cons_zero, List.set_cons_succ]
          refine hk_done (by kernel_rfl) ?_
          have HF := Lib.hid (req_has HV.out HVG.out HFD.out (by rw [← HMG.out]; exact hm))
          clear hm
          go_wp2_with (first | (refine sx_loads HS (by rfl) 25 (.tmp 2) rfl 3 _ _ _ rfl 0 rfl 2 sh25 [.slice aoh nh cph, .slice aow nw cpw] rfl ⟨rfl, rfl, trivial⟩ ?_) | (refine sx_store_all HS (by rfl) 25 (.tmp 4) (.tmp 47) rfl rfl 1 _ _ _ rfl rfl [.slice aoh nh cph, .slice aow nw cpw] rfl 2 sh25 rfl rfl rfl ?_; clear HS; intro w HS))
          have hB : PBox w b4 25 [.slice aoh nh cph, .slice aow nw cpw] := HS.out.box (i := 1) rfl
          refine bodyPost_ret (results_ctt rfl rfl (run_load_cells sh25 rfl (fun j u hj => by rw [Nat.zero_add]; exact hB.cell hj)) rfl rfl) rfl ?_
          exact .inr (.inl ⟨true, HF.out.1, HF.out.2, rfl, HS.out.isExt⟩)
        · skip
          refine hg_begin [(b3, 29, g.lst), (b2, 25, [.slice aoh nh cph, .slice aow nw cpw])] HS (by kernel_rfl) ?_
          clear HS; intro w HS
          refine hg_loads 0 (some 38) rfl rfl (by kernel_rfl) (by kernel_rfl) (by kernel_rfl) (fun _ _ _ _ h => h) HS (List.Sublist.cons _ (List.Sublist.cons _ (List.Sublist.refl _))) rfl 25 _ rfl 1 _ _ _ rfl 0 rfl 2 sh25 [.slice aoh nh cph, .slice aow nw cpw] rfl ⟨rfl, rfl, trivial⟩ ?_
          try simp only [Act.put, List.setIfInBounds_toArray, List.set_cons_zero, List.set_cons_succ]
          refine hg_reg 1 (some 39) rfl rfl (by kernel_rfl) (by kernel_rfl) (by kernel_rfl) (fun _ _ _ _ h => h) HS (List.Sublist.cons _ (List.Sublist.cons _ (List.Sublist.refl _))) (.pointer (some ⟨b3, 0, none⟩)) rfl (fun _ => by go_simp) ?_
          try simp only [Act.put, List.setIfInBounds_toArray, List.set_cons_zero, List.set_cons_succ]
          refine hg_load 2 (some 40) rfl rfl (by kernel_rfl) (by kernel_rfl) (by kernel_rfl) (fun _ _ _ _ h => h) HS (List.Sublist.cons _ (List.Sublist.cons _ (List.Sublist.refl _))) rfl 3 _ rfl 0 _ _ _ rfl 0 rfl _ sh3 (.int .i64 g.tx) rfl ?_
          try simp only [Act.put, List.setIfInBounds_toArray, List.set_cons_zero, List.set_cons_succ]
          refine hg_reg 3 (some 41) rfl rfl (by kernel_rfl) (by kernel_rfl) (by kernel_rfl) (fun _ _ _ _ h => h) HS (List.Sublist.cons _ (List.Sublist.cons _ (List.Sublist.refl _))) (.pointer (some ⟨b3, 1, none⟩)) rfl (fun _ => by go_simp) ?_
          try simp only [Act.put, List.setIfInBounds_toArray, List.set_cons_zero, List.set_cons_succ]
          refine hg_loads 4 (some 42) rfl rfl (by kernel_rfl) (by kernel_rfl) (by kernel_rfl) (fun _ _ _ _ h => h) HS (List.Sublist.cons _ (List.Sublist.cons _ (List.Sublist.refl _))) rfl 27 _ rfl 0 _ _ _ rfl 1 rfl 2 sh27 [.int .i64 g.page, .int .i64 g.slot] rfl ⟨rfl, rfl, trivial⟩ ?_
          try simp only [Act.put, List.setIfInBounds_toArray, List.set_cons_zero, List.set_cons_succ]
          refine hg_reg 6 (some 44) rfl rfl (by kernel_rfl) (by kernel_rfl) (by kernel_rfl) (fun _ _ _ _ h => h) HS (List.Sublist.cons _ (List.Sublist.cons _ (List.Sublist.refl _))) (.pointer (some ⟨b3, 3, none⟩)) rfl (fun _ => by go_simp) ?_
          try simp only [Act.put, List.setIfInBounds_toArray, List.set_cons_zero, List.set_cons_succ]
          refine hg_load 7 (some 45) rfl rfl (by kernel_rfl) (by kernel_rfl) (by kernel_rfl) (fun _ _ _ _ h => h) HS (List.Sublist.cons _ (List.Sublist.cons _ (List.Sublist.refl _))) rfl 3 _ rfl 0 _ _ _ rfl 3 rfl _ sh3 (.int .i64 g.mode) rfl ?_
          try simp only [Act.put, List.setIfInBounds_toArray, List.set_cons_zero, List.set_cons_succ]
          refine hk_x1 5 (by kernel_rfl) ?_
          refine hg_call 5 (some 43) rfl rfl rfl HS (List.Sublist.cons _ (List.Sublist.cons _ (List.Sublist.refl _))) 43 _ _ rfl Tryz.func43 (by kernel_rfl) rfl _ (fun v => v = .int .i64 mg) ((lk_mode w _ _ hs g.tx g.page g.slot (HG1.out.ext HS.out.isExt) (Nat.le_trans HB1.out (by decide)) HSO.out rfl).mono (fun e w1 h => by obtain ⟨rfl, hx⟩ := h; exact ⟨_, rfl, (by rw [HMK.out]), HS.out.ext hx⟩)) rfl ?_
          clear HS; rintro _ w rfl HS
          try simp only [Act.put, List.setIfInBounds_toArray, List.set_cons_zero, List.set_cons_succ]
          refine hg_reg 8 (some 46) rfl rfl (by kernel_rfl) (by kernel_rfl) (by kernel_rfl) (fun _ _ _ _ h => h) HS (List.Sublist.cons _ (List.Sublist.cons _ (List.Sublist.refl _))) (.bool false) rfl (fun _ => by go_simp) ?_
          try simp only [Act.put, List.setIfInBounds_toArray, List.set_cons_zero, List.set_cons_succ]
          refine hg_reg 9 (some 37) rfl rfl (by kernel_rfl) (by kernel_rfl) (by kernel_rfl) (fun _ _ _ _ h => h) HS (List.Sublist.cons _ (List.Sublist.cons _ (List.Sublist.refl _))) (.bool false) rfl (fun _ => by rfl) ?_
          try simp only [Act.put, List.setIfInBounds_toArray, List.set_cons_zero, List.set_cons_succ]
          refine hk_done (by kernel_rfl) ?_
          have HNM : Hid (¬ g.mode ≤ modeF hs g) := Lib.hid (by rw [← HMG.out]; exact hm)
          clear hm
          by_cases hfl : nh + nw = 1024
          · have HF := Lib.hid (req_full HV.out HVG.out HFD.out HNM.out (by rw [← HNH.out, ← HNW.out]; exact hfl))
            go_wp2_with (first | (refine sx_load HS (by rfl) 23 (.tmp 49) rfl 3 _ _ _ rfl 0 rfl _ sh23 (.slice aoh nh cph) rfl ?_) | (refine sx_load HS (by rfl) 23 (.tmp 52) rfl 3 _ _ _ rfl 1 rfl _ sh23 (.slice aow nw cpw) rfl ?_) | (refine sx_store_all HS (by rfl) 25 (.tmp 4) (.tmp 57) rfl rfl 1 _ _ _ rfl rfl [.slice none 0 0, .slice none 0 0] rfl 2 sh25 rfl rfl rfl ?_; clear HS; intro w HS))
            have hB : PBox w b4 25 [.slice none 0 0, .slice none 0 0] := HS.out.box (i := 1) rfl
            refine bodyPost_ret (results_ctt rfl rfl (run_load_cells sh25 rfl (fun j u hj => by rw [Nat.zero_add]; exact hB.cell hj)) rfl rfl) rfl ?_
            refine .inl ⟨HF.out.1, by rw [HF.out.2]; decide, ?_, HS.out.isExt⟩
            rw [HF.out.2]
            rfl
          · have HF := Lib.hid (req_new HV.out HVG.out HFD.out HNM.out (by rw [← HNH.out, ← HNW.out]; exact hfl))
            go_wp2_with (first | (refine sx_load HS (by rfl) 23 (.tmp 49) rfl 3 _ _ _ rfl 0 rfl _ sh23 (.slice aoh nh cph) rfl ?_) | (refine sx_load HS (by rfl) 23 (.tmp 52) rfl 3 _ _ _ rfl 1 rfl _ sh23 (.slice aow nw cpw) rfl ?_) | (refine sx_loads HS (by rfl) 25 (.tmp 2) rfl 3 _ _ _ rfl 0 rfl 2 sh25 [.slice aoh nh cph, .slice aow nw cpw] rfl ⟨rfl, rfl, trivial⟩ ?_))
            refine (lk_own w _ _ hs ws (HG1.out.ext HS.out.isExt) (HG2.out.ext HS.out.isExt) (Nat.le_trans HB1.out (by decide)) (Nat.le_trans HB2.out (by decide))).mono ?_
            rintro e w1 ⟨v1, v2, l1, l2, rfl, hst, hr1, hr2⟩
            replace HS : Hid (St none default w0 w1 ((b7, 29, zeroG.lst) :: (b4, 25, [.slice none 0 0, .slice none 0 0]) :: (b3, 29, g.lst) :: (b2, 25, [.slice aoh nh cph, .slice aow nw cpw]) :: (l1 ++ (l2 ++ [])))) := Lib.hid ((HS.out.call hst).perm (by simpa using List.perm_append_comm (l₁ := [(b7, 29, zeroG.lst), (b4, 25, [.slice none 0 0, .slice none 0 0]), (b3, 29, g.lst), (b2, 25, [.slice aoh nh cph, .slice aow nw cpw])]) (l₂ := l1 ++ l2)))
            have HR1 := Lib.hid hr1
            have HR2 := Lib.hid hr2
            clear hst hr1 hr2
            go_wp2_with (refine sx_store_all HS (by rfl) 25 (.tmp 2) (.tmp 59) rfl rfl 3 _ _ _ rfl rfl [v1, v2] rfl 2 sh25 rfl rfl (by simp [HR1.out.one, HR2.out.one]) ?_; clear HS; intro w HS)
            replace HS : Hid (St none default w0 w ((b7, 29, zeroG.lst) :: (b4, 25, [.slice none 0 0, .slice none 0 0]) :: (b3, 29, g.lst) :: (b2, 25, [v1, v2]) :: (l1 ++ (l2 ++ [])))) := HS
            obtain ⟨pl, hpl⟩ : ∃ p, p = placeF hs ws g := ⟨_, rfl⟩
            have HPL := Lib.hid hpl
            have HPLE : Hid (pl ≤ ws.length) := Lib.hid (by rw [hpl]; exact placeF_le hs ws g)
            clear hpl
            go_cut [60, 61, 62, 63, 64, 65, 66, 67, 68] (fun _ _ _ _ _ _ _ _ _  wx => ∃ (v3 : Value) (l3 : List (Nat × TypeId × List Value)), Hid (OwnRow 29 4 l3 v3 (insW hs ws g).length (gL (insW hs ws g))) ∧ Hid (St none default w0 wx ((b7, 29, zeroG.lst) :: (b4, 25, [.slice none 0 0, .slice none 0 0]) :: (b3, 29, g.lst) :: (b2, 25, [v1, v3]) :: (l1 ++ (l3 ++ [])))))
            case first =>
              refine hg_begin [(b3, 29, g.lst)] HS (by kernel_rfl) ?_
              clear HS; intro w HS
              refine hg_reg 0 (some 60) rfl rfl (by kernel_rfl) (by kernel_rfl) (by kernel_rfl) (fun _ _ _ _ h => h) HS (List.Sublist.cons _ (List.Sublist.cons _ (List.Sublist.cons_cons _ (List.nil_sublist _)))) (.pointer (some ⟨b2, 1, none⟩)) rfl (fun _ => by go_simp) ?_
              try simp only [Act.put, List.setIfInBounds_toArray, List.set_cons_zero, List.set_cons_succ]
              refine hg_loads 3 (some 63) rfl rfl (by kernel_rfl) (by kernel_rfl) (by kernel_rfl) (fun _ _ _ _ h => h) HS (List.Sublist.cons _ (List.Sublist.cons _ (List.Sublist.cons_cons _ (List.nil_sublist _)))) rfl 29 _ rfl 0 _ _ _ rfl 0 rfl 4 sh29 [.int .i64 g.tx, .int .i64 g.page, .int .i64 g.slot, .int .i64 g.mode] rfl ⟨rfl, rfl, rfl, rfl, trivial⟩ ?_
              try simp only [Act.put, List.setIfInBounds_toArray, List.set_cons_zero, List.set_cons_succ]
              refine hg_loads 5 (some 65) rfl rfl (by kernel_rfl) (by kernel_rfl) (by kernel_rfl) (fun _ _ _ _ h => h) HS (List.Sublist.cons _ (List.Sublist.cons _ (List.Sublist.cons_cons _ (List.nil_sublist _)))) rfl 29 _ rfl 0 _ _ _ rfl 0 rfl 4 sh29 [.int .i64 g.tx, .int .i64 g.page, .int .i64 g.slot, .int .i64 g.mode] rfl ⟨rfl, rfl, rfl, rfl, trivial⟩ ?_
              try simp only [Act.put, List.setIfInBounds_toArray, List.set_cons_zero, List.set_cons_succ]
              refine hk_x3 1 2 6 (by kernel_rfl) ?_ ?_ ?_
              · skip
                refine hx_load 1 (some 61) rfl rfl rfl HS (List.Sublist.cons _ (List.Sublist.cons _ (List.Sublist.cons_cons _ (List.nil_sublist _)))) 23 _ rfl 3 _ _ _ rfl 1 rfl _ sh23 v2 rfl ?_
                try simp only [Act.put, List.setIfInBounds_toArray, List.set_cons_zero, List.set_cons_succ]
                refine hk_x2 2 6 (by kernel_rfl) ?_ ?_
                · skip
                  refine hx_loads 2 (some 62) rfl rfl rfl HS (List.Sublist.cons _ (List.Sublist.cons _ (List.Sublist.cons_cons _ (List.nil_sublist _)))) 25 _ rfl 3 _ _ _ rfl 0 rfl 2 sh25 [v1, v2] rfl ⟨rfl, rfl, trivial⟩ ?_
                  try simp only [Act.put, List.setIfInBounds_toArray, List.set_cons_zero, List.set_cons_succ]
                  refine hk_x2 4 6 (by kernel_rfl) ?_ ?_
                  · skip
                    refine hg_call 4 (some 64) rfl rfl rfl HS (List.Sublist.cons _ (List.Sublist.cons _ (List.Sublist.cons_cons _ (List.nil_sublist _)))) 58 _ _ rfl Tryz.func58 (by kernel_rfl) rfl _ (fun v => v = .int .i64 (pl : Int)) ((lk_place w _ _ hs ws g (GsAt.own (lr := l1) HS.out (fun e he => by simp [he]) HR1.out) (GsAt.own (lr := l2) HS.out (fun e he => by simp [he]) HR2.out) (Nat.le_trans HB1.out (by decide)) (Nat.le_trans HB2.out (by decide)) HSO.out).mono (fun e w1 h => by obtain ⟨rfl, hx⟩ := h; exact ⟨_, rfl, (by rw [HPL.out]), HS.out.ext hx⟩)) rfl ?_
                    clear HS; rintro _ w rfl HS
                    try simp only [Act.put, List.setIfInBounds_toArray, List.set_cons_zero, List.set_cons_succ]
                    refine hk_x1 6 (by kernel_rfl) ?_
                    refine hg_build 6 (some 66) rfl rfl rfl HS (List.Sublist.cons _ (List.Sublist.cons _ (List.Sublist.cons_cons _ (List.nil_sublist _)))) 23 29 1 [(0, .tmp 65)] rfl [(0, .agg g.arr)] rfl g.lst (fun w => build_grant g w) ?_
                    clear HS; intro w bn HS
                    try simp only [Act.put, List.setIfInBounds_toArray, List.set_cons_zero, List.set_cons_succ]
                    refine hk_x1 7 (by kernel_rfl) ?_
                    refine hg_callT 7 (some 67) rfl rfl rfl 57 _ _ rfl Tryz.func57 (by kernel_rfl) rfl _ (fun v w2 => ∃ l3, St none default w0 w2 (((bn, 29, g.lst) :: (b7, 29, zeroG.lst) :: (b4, 25, [.slice none 0 0, .slice none 0 0]) :: (b3, 29, g.lst) :: (b2, 25, [v1, v2]) :: l1) ++ (l3 ++ [])) ∧ OwnRow 29 4 l3 v (insW hs ws g).length (gL (insW hs ws g))) ((gs_insert default w0 w ((bn, 29, g.lst) :: (b7, 29, zeroG.lst) :: (b4, 25, [.slice none 0 0, .slice none 0 0]) :: (b3, 29, g.lst) :: (b2, 25, [v1, v2]) :: l1) l2 [] v2 ws g bn pl HS.out HR2.out (by simp) HPLE.out (Nat.le_trans HB2.out (by decide))).mono (fun e w1 h => by obtain ⟨v, l3, rfl, h1, h2⟩ := h; exact ⟨_, rfl, l3, h1, by rw [HPL.out] at h2; exact h2⟩)) (fun v w2 h => by obtain ⟨l3, h1, _⟩ := h; exact h1.sub (List.Sublist.cons _ (List.Sublist.cons _ (List.Sublist.cons _ (List.Sublist.cons_cons _ (List.nil_sublist _)))))) rfl ?_
                    clear HS; rintro v3 w ⟨l3, hst3, hr3⟩
                    have HS := Lib.hid hst3
                    have HR3 := Lib.hid hr3
                    clear hst3 hr3
                    try simp only [Act.put, List.setIfInBounds_toArray, List.set_cons_zero, List.set_cons_succ]
                    refine hg_reg 8 (some 68) rfl rfl (by kernel_rfl) (by kernel_rfl) (by kernel_rfl) (fun _ _ _ _ h => h) HS (List.Sublist.cons _ (List.Sublist.cons _ (List.Sublist.cons _ (List.Sublist.cons_cons _ (List.nil_sublist _))))) (.pointer (some ⟨b2, 1, none⟩)) rfl (fun _ => by go_simp) ?_
                    try simp only [Act.put, List.setIfInBounds_toArray, List.set_cons_zero, List.set_cons_succ]
                    refine hk_x1 9 (by kernel_rfl) ?_
                    refine hg_storeM (front := [(bn, 29, g.lst), (b7, 29, zeroG.lst), (b4, 25, [.slice none 0 0, .slice none 0 0]), (b3, 29, g.lst)]) (ll := l1 ++ (l3 ++ [])) 9 rfl rfl HS 23 _ _ rfl rfl 1 rfl v3 rfl sh23 HR3.out.one (by simp) [v1, v3] rfl (List.Sublist.cons _ (List.Sublist.cons _ (List.Sublist.cons _ (List.Sublist.cons_cons _ (List.nil_sublist _))))) ?_
                    clear HS; intro w HS
                    try simp only [Act.put, List.setIfInBounds_toArray, List.set_cons_zero, List.set_cons_succ]
                    refine hk_done (by kernel_rfl) ?_
                    try go_wp2_with fail
                    go_meet
                    exact ⟨v3, l3, HR3, Lib.hid (HS.out.drop 1)⟩
                  · skip
                    refine hg_build 6 (some 66) rfl rfl rfl HS (List.Sublist.cons _ (List.Sublist.cons _ (List.Sublist.cons_cons _ (List.nil_sublist _)))) 23 29 1 [(0, .tmp 65)] rfl [(0, .agg g.arr)] rfl g.lst (fun w => build_grant g w) ?_
                    clear HS; intro w bn HS
                    try simp only [Act.put, List.setIfInBounds_toArray, List.set_cons_zero, List.set_cons_succ]
                    refine hk_x1 4 (by kernel_rfl) ?_
                    refine hg_call 4 (some 64) rfl rfl rfl HS (List.Sublist.cons _ (List.Sublist.cons _ (List.Sublist.cons _ (List.Sublist.cons_cons _ (List.nil_sublist _))))) 58 _ _ rfl Tryz.func58 (by kernel_rfl) rfl _ (fun v => v = .int .i64 (pl : Int)) ((lk_place w _ _ hs ws g (GsAt.own (lr := l1) HS.out (fun e he => by simp [he]) HR1.out) (GsAt.own (lr := l2) HS.out (fun e he => by simp [he]) HR2.out) (Nat.le_trans HB1.out (by decide)) (Nat.le_trans HB2.out (by decide)) HSO.out).mono (fun e w1 h => by obtain ⟨rfl, hx⟩ := h; exact ⟨_, rfl, (by rw [HPL.out]), HS.out.ext hx⟩)) rfl ?_
                    clear HS; rintro _ w rfl HS
                    try simp only [Act.put, List.setIfInBounds_toArray, List.set_cons_zero, List.set_cons_succ]
                    refine hk_x1 7 (by kernel_rfl) ?_
                    refine hg_callT 7 (some 67) rfl rfl rfl 57 _ _ rfl Tryz.func57 (by kernel_rfl) rfl _ (fun v w2 => ∃ l3, St none default w0 w2 (((bn, 29, g.lst) :: (b7, 29, zeroG.lst) :: (b4, 25, [.slice none 0 0, .slice none 0 0]) :: (b3, 29, g.lst) :: (b2, 25, [v1, v2]) :: l1) ++ (l3 ++ [])) ∧ OwnRow 29 4 l3 v (insW hs ws g).length (gL (insW hs ws g))) ((gs_insert default w0 w ((bn, 29, g.lst) :: (b7, 29, zeroG.lst) :: (b4, 25, [.slice none 0 0, .slice none 0 0]) :: (b3, 29, g.lst) :: (b2, 25, [v1, v2]) :: l1) l2 [] v2 ws g bn pl HS.out HR2.out (by simp) HPLE.out (Nat.le_trans HB2.out (by decide))).mono (fun e w1 h => by obtain ⟨v, l3, rfl, h1, h2⟩ := h; exact ⟨_, rfl, l3, h1, by rw [HPL.out] at h2; exact h2⟩)) (fun v w2 h => by obtain ⟨l3, h1, _⟩ := h; exact h1.sub (List.Sublist.cons _ (List.Sublist.cons _ (List.Sublist.cons _ (List.Sublist.cons_cons _ (List.nil_sublist _)))))) rfl ?_
                    clear HS; rintro v3 w ⟨l3, hst3, hr3⟩
                    have HS := Lib.hid hst3
                    have HR3 := Lib.hid hr3
                    clear hst3 hr3
                    try simp only [Act.put, List.setIfInBounds_toArray, List.set_cons_zero, List.set_cons_succ]
                    refine hg_reg 8 (some 68) rfl rfl (by kernel_rfl) (by kernel_rfl) (by kernel_rfl) (fun _ _ _ _ h => h) HS (List.Sublist.cons _ (List.Sublist.cons _ (List.Sublist.cons _ (List.Sublist.cons_cons _ (List.nil_sublist _))))) (.pointer (some ⟨b2, 1, none⟩)) rfl (fun _ => by go_simp) ?_
                    try simp only [Act.put, List.setIfInBounds_toArray, List.set_cons_zero, List.set_cons_succ]
                    refine hk_x1 9 (by kernel_rfl) ?_
                    refine hg_storeM (front := [(bn, 29, g.lst), (b7, 29, zeroG.lst), (b4, 25, [.slice none 0 0, .slice none 0 0]), (b3, 29, g.lst)]) (ll := l1 ++ (l3 ++ [])) 9 rfl rfl HS 23 _ _ rfl rfl 1 rfl v3 rfl sh23 HR3.out.one (by simp) [v1, v3] rfl (List.Sublist.cons _ (List.Sublist.cons _ (List.Sublist.cons _ (List.Sublist.cons_cons _ (List.nil_sublist _))))) ?_
                    clear HS; intro w HS
                    try simp only [Act.put, List.setIfInBounds_toArray, List.set_cons_zero, List.set_cons_succ]
                    refine hk_done (by kernel_rfl) ?_
                    try go_wp2_with fail
                    go_meet
                    exact ⟨v3, l3, HR3, Lib.hid (HS.out.drop 1)⟩
                · skip
                  refine hg_build 6 (some 66) rfl rfl rfl HS (List.Sublist.cons _ (List.Sublist.cons _ (List.Sublist.cons_cons _ (List.nil_sublist _)))) 23 29 1 [(0, .tmp 65)] rfl [(0, .agg g.arr)] rfl g.lst (fun w => build_grant g w) ?_
                  clear HS; intro w bn HS
                  try simp only [Act.put, List.setIfInBounds_toArray, List.set_cons_zero, List.set_cons_succ]
                  refine hk_x1 2 (by kernel_rfl) ?_
                  refine hx_loads 2 (some 62) rfl rfl rfl HS (List.Sublist.cons _ (List.Sublist.cons _ (List.Sublist.cons _ (List.Sublist.cons_cons _ (List.nil_sublist _))))) 25 _ rfl 4 _ _ _ rfl 0 rfl 2 sh25 [v1, v2] rfl ⟨rfl, rfl, trivial⟩ ?_
                  try simp only [Act.put, List.setIfInBounds_toArray, List.set_cons_zero, List.set_cons_succ]
                  refine hk_x1 4 (by kernel_rfl) ?_
                  refine hg_call 4 (some 64) rfl rfl rfl HS (List.Sublist.cons _ (List.Sublist.cons _ (List.Sublist.cons _ (List.Sublist.cons_cons _ (List.nil_sublist _))))) 58 _ _ rfl Tryz.func58 (by kernel_rfl) rfl _ (fun v => v = .int .i64 (pl : Int)) ((lk_place w _ _ hs ws g (GsAt.own (lr := l1) HS.out (fun e he => by simp [he]) HR1.out) (GsAt.own (lr := l2) HS.out (fun e he => by simp [he]) HR2.out) (Nat.le_trans HB1.out (by decide)) (Nat.le_trans HB2.out (by decide)) HSO.out).mono (fun e w1 h => by obtain ⟨rfl, hx⟩ := h; exact ⟨_, rfl, (by rw [HPL.out]), HS.out.ext hx⟩)) rfl ?_
                  clear HS; rintro _ w rfl HS
                  try simp only [Act.put, List.setIfInBounds_toArray, List.set_cons_zero, List.set_cons_succ]
                  refine hk_x1 7 (by kernel_rfl) ?_
                  refine hg_callT 7 (some 67) rfl rfl rfl 57 _ _ rfl Tryz.func57 (by kernel_rfl) rfl _ (fun v w2 => ∃ l3, St none default w0 w2 (((bn, 29, g.lst) :: (b7, 29, zeroG.lst) :: (b4, 25, [.slice none 0 0, .slice none 0 0]) :: (b3, 29, g.lst) :: (b2, 25, [v1, v2]) :: l1) ++ (l3 ++ [])) ∧ OwnRow 29 4 l3 v (insW hs ws g).length (gL (insW hs ws g))) ((gs_insert default w0 w ((bn, 29, g.lst) :: (b7, 29, zeroG.lst) :: (b4, 25, [.slice none 0 0, .slice none 0 0]) :: (b3, 29, g.lst) :: (b2, 25, [v1, v2]) :: l1) l2 [] v2 ws g bn pl HS.out HR2.out (by simp) HPLE.out (Nat.le_trans HB2.out (by decide))).mono (fun e w1 h => by obtain ⟨v, l3, rfl, h1, h2⟩ := h; exact ⟨_, rfl, l3, h1, by rw [HPL.out] at h2; exact h2⟩)) (fun v w2 h => by obtain ⟨l3, h1, _⟩ := h; exact h1.sub (List.Sublist.cons _ (List.Sublist.cons _ (List.Sublist.cons _ (List.Sublist.cons_cons _ (List.nil_sublist _)))))) rfl ?_
                  clear HS; rintro v3 w ⟨l3, hst3, hr3⟩
                  have HS := Lib.hid hst3
                  have HR3 := Lib.hid hr3
                  clear hst3 hr3
                  try simp only [Act.put, List.setIfInBounds_toArray, List.set_cons_zero, List.set_cons_succ]
                  refine hg_reg 8 (some 68) rfl rfl (by kernel_rfl) (by kernel_rfl) (by kernel_rfl) (fun _ _ _ _ h => h) HS (List.Sublist.cons _ (List.Sublist.cons _ (List.Sublist.cons _ (List.Sublist.cons_cons _ (List.nil_sublist _))))) (.pointer (some ⟨b2, 1, none⟩)) rfl (fun _ => by go_simp) ?_
                  try simp only [Act.put, List.setIfInBounds_toArray, List.set_cons_zero, List.set_cons_succ]
                  refine hk_x1 9 (by kernel_rfl) ?_
                  refine hg_storeM (front := [(bn, 29, g.lst), (b7, 29, zeroG.lst), (b4, 25, [.slice none 0 0, .slice none 0 0]), (b3, 29, g.lst)]) (ll := l1 ++ (l3 ++ [])) 9 rfl rfl HS 23 _ _ rfl rfl 1 rfl v3 rfl sh23 HR3.out.one (by simp) [v1, v3] rfl (List.Sublist.cons _ (List.Sublist.cons _ (List.Sublist.cons _ (List.Sublist.cons_cons _ (List.nil_sublist _))))) ?_
                  clear HS; intro w HS
                  try simp only [Act.put, List.setIfInBounds_toArray, List.set_cons_zero, List.set_cons_succ]
                  refine hk_done (by kernel_rfl) ?_
                  try go_wp2_with fail
                  go_meet
                  exact ⟨v3, l3, HR3, Lib.hid (HS.out.drop 1)⟩
              · skip
                refine hx_loads 2 (some 62) rfl rfl rfl HS (List.Sublist.cons _ (List.Sublist.cons _ (List.Sublist.cons_cons _ (List.nil_sublist _)))) 25 _ rfl 3 _ _ _ rfl 0 rfl 2 sh25 [v1, v2] rfl ⟨rfl, rfl, trivial⟩ ?_
                try simp only [Act.put, List.setIfInBounds_toArray, List.set_cons_zero, List.set_cons_succ]
                refine hk_x3 1 4 6 (by kernel_rfl) ?_ ?_ ?_
                · skip
                  refine hx_load 1 (some 61) rfl rfl rfl HS (List.Sublist.cons _ (List.Sublist.cons _ (List.Sublist.cons_cons _ (List.nil_sublist _)))) 23 _ rfl 3 _ _ _ rfl 1 rfl _ sh23 v2 rfl ?_
                  try simp only [Act.put, List.setIfInBounds_toArray, List.set_cons_zero, List.set_cons_succ]
                  refine hk_x2 4 6 (by kernel_rfl) ?_ ?_
                  · skip
                    refine hg_call 4 (some 64) rfl rfl rfl HS (List.Sublist.cons _ (List.Sublist.cons _ (List.Sublist.cons_cons _ (List.nil_sublist _)))) 58 _ _ rfl Tryz.func58 (by kernel_rfl) rfl _ (fun v => v = .int .i64 (pl : Int)) ((lk_place w _ _ hs ws g (GsAt.own (lr := l1) HS.out (fun e he => by simp [he]) HR1.out) (GsAt.own (lr := l2) HS.out (fun e he => by simp [he]) HR2.out) (Nat.le_trans HB1.out (by decide)) (Nat.le_trans HB2.out (by decide)) HSO.out).mono (fun e w1 h => by obtain ⟨rfl, hx⟩ := h; exact ⟨_, rfl, (by rw [HPL.out]), HS.out.ext hx⟩)) rfl ?_
                    clear HS; rintro _ w rfl HS
                    try simp only [Act.put, List.setIfInBounds_toArray, List.set_cons_zero, List.set_cons_succ]
                    refine hk_x1 6 (by kernel_rfl) ?_
                    refine hg_build 6 (some 66) rfl rfl rfl HS (List.Sublist.cons _ (List.Sublist.cons _ (List.Sublist.cons_cons _ (List.nil_sublist _)))) 23 29 1 [(0, .tmp 65)] rfl [(0, .agg g.arr)] rfl g.lst (fun w => build_grant g w) ?_
                    clear HS; intro w bn HS
                    try simp only [Act.put, List.setIfInBounds_toArray, List.set_cons_zero, List.set_cons_succ]
                    refine hk_x1 7 (by kernel_rfl) ?_
                    refine hg_callT 7 (some 67) rfl rfl rfl 57 _ _ rfl Tryz.func57 (by kernel_rfl) rfl _ (fun v w2 => ∃ l3, St none default w0 w2 (((bn, 29, g.lst) :: (b7, 29, zeroG.lst) :: (b4, 25, [.slice none 0 0, .slice none 0 0]) :: (b3, 29, g.lst) :: (b2, 25, [v1, v2]) :: l1) ++ (l3 ++ [])) ∧ OwnRow 29 4 l3 v (insW hs ws g).length (gL (insW hs ws g))) ((gs_insert default w0 w ((bn, 29, g.lst) :: (b7, 29, zeroG.lst) :: (b4, 25, [.slice none 0 0, .slice none 0 0]) :: (b3, 29, g.lst) :: (b2, 25, [v1, v2]) :: l1) l2 [] v2 ws g bn pl HS.out HR2.out (by simp) HPLE.out (Nat.le_trans HB2.out (by decide))).mono (fun e w1 h => by obtain ⟨v, l3, rfl, h1, h2⟩ := h; exact ⟨_, rfl, l3, h1, by rw [HPL.out] at h2; exact h2⟩)) (fun v w2 h => by obtain ⟨l3, h1, _⟩ := h; exact h1.sub (List.Sublist.cons _ (List.Sublist.cons _ (List.Sublist.cons _ (List.Sublist.cons_cons _ (List.nil_sublist _)))))) rfl ?_
                    clear HS; rintro v3 w ⟨l3, hst3, hr3⟩
                    have HS := Lib.hid hst3
                    have HR3 := Lib.hid hr3
                    clear hst3 hr3
                    try simp only [Act.put, List.setIfInBounds_toArray, List.set_cons_zero, List.set_cons_succ]
                    refine hg_reg 8 (some 68) rfl rfl (by kernel_rfl) (by kernel_rfl) (by kernel_rfl) (fun _ _ _ _ h => h) HS (List.Sublist.cons _ (List.Sublist.cons _ (List.Sublist.cons _ (List.Sublist.cons_cons _ (List.nil_sublist _))))) (.pointer (some ⟨b2, 1, none⟩)) rfl (fun _ => by go_simp) ?_
                    try simp only [Act.put, List.setIfInBounds_toArray, List.set_cons_zero, List.set_cons_succ]
                    refine hk_x1 9 (by kernel_rfl) ?_
                    refine hg_storeM (front := [(bn, 29, g.lst), (b7, 29, zeroG.lst), (b4, 25, [.slice none 0 0, .slice none 0 0]), (b3, 29, g.lst)]) (ll := l1 ++ (l3 ++ [])) 9 rfl rfl HS 23 _ _ rfl rfl 1 rfl v3 rfl sh23 HR3.out.one (by simp) [v1, v3] rfl (List.Sublist.cons _ (List.Sublist.cons _ (List.Sublist.cons _ (List.Sublist.cons_cons _ (List.nil_sublist _))))) ?_
                    clear HS; intro w HS
                    try simp only [Act.put, List.setIfInBounds_toArray, List.set_cons_zero, List.set_cons_succ]
                    refine hk_done (by kernel_rfl) ?_
                    try go_wp2_with fail
                    go_meet
                    exact ⟨v3, l3, HR3, Lib.hid (HS.out.drop 1)⟩
                  · skip
                    refine hg_build 6 (some 66) rfl rfl rfl HS (List.Sublist.cons _ (List.Sublist.cons _ (List.Sublist.cons_cons _ (List.nil_sublist _)))) 23 29 1 [(0, .tmp 65)] rfl [(0, .agg g.arr)] rfl g.lst (fun w => build_grant g w) ?_
                    clear HS; intro w bn HS
                    try simp only [Act.put, List.setIfInBounds_toArray, List.set_cons_zero, List.set_cons_succ]
                    refine hk_x1 4 (by kernel_rfl) ?_
                    refine hg_call 4 (some 64) rfl rfl rfl HS (List.Sublist.cons _ (List.Sublist.cons _ (List.Sublist.cons _ (List.Sublist.cons_cons _ (List.nil_sublist _))))) 58 _ _ rfl Tryz.func58 (by kernel_rfl) rfl _ (fun v => v = .int .i64 (pl : Int)) ((lk_place w _ _ hs ws g (GsAt.own (lr := l1) HS.out (fun e he => by simp [he]) HR1.out) (GsAt.own (lr := l2) HS.out (fun e he => by simp [he]) HR2.out) (Nat.le_trans HB1.out (by decide)) (Nat.le_trans HB2.out (by decide)) HSO.out).mono (fun e w1 h => by obtain ⟨rfl, hx⟩ := h; exact ⟨_, rfl, (by rw [HPL.out]), HS.out.ext hx⟩)) rfl ?_
                    clear HS; rintro _ w rfl HS
                    try simp only [Act.put, List.setIfInBounds_toArray, List.set_cons_zero, List.set_cons_succ]
                    refine hk_x1 7 (by kernel_rfl) ?_
                    refine hg_callT 7 (some 67) rfl rfl rfl 57 _ _ rfl Tryz.func57 (by kernel_rfl) rfl _ (fun v w2 => ∃ l3, St none default w0 w2 (((bn, 29, g.lst) :: (b7, 29, zeroG.lst) :: (b4, 25, [.slice none 0 0, .slice none 0 0]) :: (b3, 29, g.lst) :: (b2, 25, [v1, v2]) :: l1) ++ (l3 ++ [])) ∧ OwnRow 29 4 l3 v (insW hs ws g).length (gL (insW hs ws g))) ((gs_insert default w0 w ((bn, 29, g.lst) :: (b7, 29, zeroG.lst) :: (b4, 25, [.slice none 0 0, .slice none 0 0]) :: (b3, 29, g.lst) :: (b2, 25, [v1, v2]) :: l1) l2 [] v2 ws g bn pl HS.out HR2.out (by simp) HPLE.out (Nat.le_trans HB2.out (by decide))).mono (fun e w1 h => by obtain ⟨v, l3, rfl, h1, h2⟩ := h; exact ⟨_, rfl, l3, h1, by rw [HPL.out] at h2; exact h2⟩)) (fun v w2 h => by obtain ⟨l3, h1, _⟩ := h; exact h1.sub (List.Sublist.cons _ (List.Sublist.cons _ (List.Sublist.cons _ (List.Sublist.cons_cons _ (List.nil_sublist _)))))) rfl ?_
                    clear HS; rintro v3 w ⟨l3, hst3, hr3⟩
                    have HS := Lib.hid hst3
                    have HR3 := Lib.hid hr3
                    clear hst3 hr3
                    try simp only [Act.put, List.setIfInBounds_toArray, List.set_cons_zero, List.set_cons_succ]
                    refine hg_reg 8 (some 68) rfl rfl (by kernel_rfl) (by kernel_rfl) (by kernel_rfl) (fun _ _ _ _ h => h) HS (List.Sublist.cons _ (List.Sublist.cons _ (List.Sublist.cons _ (List.Sublist.cons_cons _ (List.nil_sublist _))))) (.pointer (some ⟨b2, 1, none⟩)) rfl (fun _ => by go_simp) ?_
                    try simp only [Act.put, List.setIfInBounds_toArray, List.set_cons_zero, List.set_cons_succ]
                    refine hk_x1 9 (by kernel_rfl) ?_
                    refine hg_storeM (front := [(bn, 29, g.lst), (b7, 29, zeroG.lst), (b4, 25, [.slice none 0 0, .slice none 0 0]), (b3, 29, g.lst)]) (ll := l1 ++ (l3 ++ [])) 9 rfl rfl HS 23 _ _ rfl rfl 1 rfl v3 rfl sh23 HR3.out.one (by simp) [v1, v3] rfl (List.Sublist.cons _ (List.Sublist.cons _ (List.Sublist.cons _ (List.Sublist.cons_cons _ (List.nil_sublist _))))) ?_
                    clear HS; intro w HS
                    try simp only [Act.put, List.setIfInBounds_toArray, List.set_cons_zero, List.set_cons_succ]
                    refine hk_done (by kernel_rfl) ?_
                    try go_wp2_with fail
                    go_meet
                    exact ⟨v3, l3, HR3, Lib.hid (HS.out.drop 1)⟩
                · skip
                  refine hg_call 4 (some 64) rfl rfl rfl HS (List.Sublist.cons _ (List.Sublist.cons _ (List.Sublist.cons_cons _ (List.nil_sublist _)))) 58 _ _ rfl Tryz.func58 (by kernel_rfl) rfl _ (fun v => v = .int .i64 (pl : Int)) ((lk_place w _ _ hs ws g (GsAt.own (lr := l1) HS.out (fun e he => by simp [he]) HR1.out) (GsAt.own (lr := l2) HS.out (fun e he => by simp [he]) HR2.out) (Nat.le_trans HB1.out (by decide)) (Nat.le_trans HB2.out (by decide)) HSO.out).mono (fun e w1 h => by obtain ⟨rfl, hx⟩ := h; exact ⟨_, rfl, (by rw [HPL.out]), HS.out.ext hx⟩)) rfl ?_
                  clear HS; rintro _ w rfl HS
                  try simp only [Act.put, List.setIfInBounds_toArray, List.set_cons_zero, List.set_cons_succ]
                  refine hk_x2 1 6 (by kernel_rfl) ?_ ?_
                  · skip
                    refine hx_load 1 (some 61) rfl rfl rfl HS (List.Sublist.cons _ (List.Sublist.cons _ (List.Sublist.cons_cons _ (List.nil_sublist _)))) 23 _ rfl 3 _ _ _ rfl 1 rfl _ sh23 v2 rfl ?_
                    try simp only [Act.put, List.setIfInBounds_toArray, List.set_cons_zero, List.set_cons_succ]
                    refine hk_x1 6 (by kernel_rfl) ?_
                    refine hg_build 6 (some 66) rfl rfl rfl HS (List.Sublist.cons _ (List.Sublist.cons _ (List.Sublist.cons_cons _ (List.nil_sublist _)))) 23 29 1 [(0, .tmp 65)] rfl [(0, .agg g.arr)] rfl g.lst (fun w => build_grant g w) ?_
                    clear HS; intro w bn HS
                    try simp only [Act.put, List.setIfInBounds_toArray, List.set_cons_zero, List.set_cons_succ]
                    refine hk_x1 7 (by kernel_rfl) ?_
                    refine hg_callT 7 (some 67) rfl rfl rfl 57 _ _ rfl Tryz.func57 (by kernel_rfl) rfl _ (fun v w2 => ∃ l3, St none default w0 w2 (((bn, 29, g.lst) :: (b7, 29, zeroG.lst) :: (b4, 25, [.slice none 0 0, .slice none 0 0]) :: (b3, 29, g.lst) :: (b2, 25, [v1, v2]) :: l1) ++ (l3 ++ [])) ∧ OwnRow 29 4 l3 v (insW hs ws g).length (gL (insW hs ws g))) ((gs_insert default w0 w ((bn, 29, g.lst) :: (b7, 29, zeroG.lst) :: (b4, 25, [.slice none 0 0, .slice none 0 0]) :: (b3, 29, g.lst) :: (b2, 25, [v1, v2]) :: l1) l2 [] v2 ws g bn pl HS.out HR2.out (by simp) HPLE.out (Nat.le_trans HB2.out (by decide))).mono (fun e w1 h => by obtain ⟨v, l3, rfl, h1, h2⟩ := h; exact ⟨_, rfl, l3, h1, by rw [HPL.out] at h2; exact h2⟩)) (fun v w2 h => by obtain ⟨l3, h1, _⟩ := h; exact h1.sub (List.Sublist.cons _ (List.Sublist.cons _ (List.Sublist.cons _ (List.Sublist.cons_cons _ (List.nil_sublist _)))))) rfl ?_
                    clear HS; rintro v3 w ⟨l3, hst3, hr3⟩
                    have HS := Lib.hid hst3
                    have HR3 := Lib.hid hr3
                    clear hst3 hr3
                    try simp only [Act.put, List.setIfInBounds_toArray, List.set_cons_zero, List.set_cons_succ]
                    refine hg_reg 8 (some 68) rfl rfl (by kernel_rfl) (by kernel_rfl) (by kernel_rfl) (fun _ _ _ _ h => h) HS (List.Sublist.cons _ (List.Sublist.cons _ (List.Sublist.cons _ (List.Sublist.cons_cons _ (List.nil_sublist _))))) (.pointer (some ⟨b2, 1, none⟩)) rfl (fun _ => by go_simp) ?_
                    try simp only [Act.put, List.setIfInBounds_toArray, List.set_cons_zero, List.set_cons_succ]
                    refine hk_x1 9 (by kernel_rfl) ?_
                    refine hg_storeM (front := [(bn, 29, g.lst), (b7, 29, zeroG.lst), (b4, 25, [.slice none 0 0, .slice none 0 0]), (b3, 29, g.lst)]) (ll := l1 ++ (l3 ++ [])) 9 rfl rfl HS 23 _ _ rfl rfl 1 rfl v3 rfl sh23 HR3.out.one (by simp) [v1, v3] rfl (List.Sublist.cons _ (List.Sublist.cons _ (List.Sublist.cons _ (List.Sublist.cons_cons _ (List.nil_sublist _))))) ?_
                    clear HS; intro w HS
                    try simp only [Act.put, List.setIfInBounds_toArray, List.set_cons_zero, List.set_cons_succ]
                    refine hk_done (by kernel_rfl) ?_
                    try go_wp2_with fail
                    go_meet
                    exact ⟨v3, l3, HR3, Lib.hid (HS.out.drop 1)⟩
                  · skip
                    refine hg_build 6 (some 66) rfl rfl rfl HS (List.Sublist.cons _ (List.Sublist.cons _ (List.Sublist.cons_cons _ (List.nil_sublist _)))) 23 29 1 [(0, .tmp 65)] rfl [(0, .agg g.arr)] rfl g.lst (fun w => build_grant g w) ?_
                    clear HS; intro w bn HS
                    try simp only [Act.put, List.setIfInBounds_toArray, List.set_cons_zero, List.set_cons_succ]
                    refine hk_x1 1 (by kernel_rfl) ?_
                    refine hx_load 1 (some 61) rfl rfl rfl HS (List.Sublist.cons _ (List.Sublist.cons _ (List.Sublist.cons _ (List.Sublist.cons_cons _ (List.nil_sublist _))))) 23 _ rfl 4 _ _ _ rfl 1 rfl _ sh23 v2 rfl ?_
                    try simp only [Act.put, List.setIfInBounds_toArray, List.set_cons_zero, List.set_cons_succ]
                    refine hk_x1 7 (by kernel_rfl) ?_
                    refine hg_callT 7 (some 67) rfl rfl rfl 57 _ _ rfl Tryz.func57 (by kernel_rfl) rfl _ (fun v w2 => ∃ l3, St none default w0 w2 (((bn, 29, g.lst) :: (b7, 29, zeroG.lst) :: (b4, 25, [.slice none 0 0, .slice none 0 0]) :: (b3, 29, g.lst) :: (b2, 25, [v1, v2]) :: l1) ++ (l3 ++ [])) ∧ OwnRow 29 4 l3 v (insW hs ws g).length (gL (insW hs ws g))) ((gs_insert default w0 w ((bn, 29, g.lst) :: (b7, 29, zeroG.lst) :: (b4, 25, [.slice none 0 0, .slice none 0 0]) :: (b3, 29, g.lst) :: (b2, 25, [v1, v2]) :: l1) l2 [] v2 ws g bn pl HS.out HR2.out (by simp) HPLE.out (Nat.le_trans HB2.out (by decide))).mono (fun e w1 h => by obtain ⟨v, l3, rfl, h1, h2⟩ := h; exact ⟨_, rfl, l3, h1, by rw [HPL.out] at h2; exact h2⟩)) (fun v w2 h => by obtain ⟨l3, h1, _⟩ := h; exact h1.sub (List.Sublist.cons _ (List.Sublist.cons _ (List.Sublist.cons _ (List.Sublist.cons_cons _ (List.nil_sublist _)))))) rfl ?_
                    clear HS; rintro v3 w ⟨l3, hst3, hr3⟩
                    have HS := Lib.hid hst3
                    have HR3 := Lib.hid hr3
                    clear hst3 hr3
                    try simp only [Act.put, List.setIfInBounds_toArray, List.set_cons_zero, List.set_cons_succ]
                    refine hg_reg 8 (some 68) rfl rfl (by kernel_rfl) (by kernel_rfl) (by kernel_rfl) (fun _ _ _ _ h => h) HS (List.Sublist.cons _ (List.Sublist.cons _ (List.Sublist.cons _ (List.Sublist.cons_cons _ (List.nil_sublist _))))) (.pointer (some ⟨b2, 1, none⟩)) rfl (fun _ => by go_simp) ?_
                    try simp only [Act.put, List.setIfInBounds_toArray, List.set_cons_zero, List.set_cons_succ]
                    refine hk_x1 9 (by kernel_rfl) ?_
                    refine hg_storeM (front := [(bn, 29, g.lst), (b7, 29, zeroG.lst), (b4, 25, [.slice none 0 0, .slice none 0 0]), (b3, 29, g.lst)]) (ll := l1 ++ (l3 ++ [])) 9 rfl rfl HS 23 _ _ rfl rfl 1 rfl v3 rfl sh23 HR3.out.one (by simp) [v1, v3] rfl (List.Sublist.cons _ (List.Sublist.cons _ (List.Sublist.cons _ (List.Sublist.cons_cons _ (List.nil_sublist _))))) ?_
                    clear HS; intro w HS
                    try simp only [Act.put, List.setIfInBounds_toArray, List.set_cons_zero, List.set_cons_succ]
                    refine hk_done (by kernel_rfl) ?_
                    try go_wp2_with fail
                    go_meet
                    exact ⟨v3, l3, HR3, Lib.hid (HS.out.drop 1)⟩
                · skip
                  refine hg_build 6 (some 66) rfl rfl rfl HS (List.Sublist.cons _ (List.Sublist.cons _ (List.Sublist.cons_cons _ (List.nil_sublist _)))) 23 29 1 [(0, .tmp 65)] rfl [(0, .agg g.arr)] rfl g.lst (fun w => build_grant g w) ?_
                  clear HS; intro w bn HS
                  try simp only [Act.put, List.setIfInBounds_toArray, List.set_cons_zero, List.set_cons_succ]
                  refine hk_x2 1 4 (by kernel_rfl) ?_ ?_
                  · skip
                    refine hx_load 1 (some 61) rfl rfl rfl HS (List.Sublist.cons _ (List.Sublist.cons _ (List.Sublist.cons _ (List.Sublist.cons_cons _ (List.nil_sublist _))))) 23 _ rfl 4 _ _ _ rfl 1 rfl _ sh23 v2 rfl ?_
                    try simp only [Act.put, List.setIfInBounds_toArray, List.set_cons_zero, List.set_cons_succ]
                    refine hk_x1 4 (by kernel_rfl) ?_
                    refine hg_call 4 (some 64) rfl rfl rfl HS (List.Sublist.cons _ (List.Sublist.cons _ (List.Sublist.cons _ (List.Sublist.cons_cons _ (List.nil_sublist _))))) 58 _ _ rfl Tryz.func58 (by kernel_rfl) rfl _ (fun v => v = .int .i64 (pl : Int)) ((lk_place w _ _ hs ws g (GsAt.own (lr := l1) HS.out (fun e he => by simp [he]) HR1.out) (GsAt.own (lr := l2) HS.out (fun e he => by simp [he]) HR2.out) (Nat.le_trans HB1.out (by decide)) (Nat.le_trans HB2.out (by decide)) HSO.out).mono (fun e w1 h => by obtain ⟨rfl, hx⟩ := h; exact ⟨_, rfl, (by rw [HPL.out]), HS.out.ext hx⟩)) rfl ?_
                    clear HS; rintro _ w rfl HS
                    try simp only [Act.put, List.setIfInBounds_toArray, List.set_cons_zero, List.set_cons_succ]
                    refine hk_x1 7 (by kernel_rfl) ?_
                    refine hg_callT 7 (some 67) rfl rfl rfl 57 _ _ rfl Tryz.func57 (by kernel_rfl) rfl _ (fun v w2 => ∃ l3, St none default w0 w2 (((bn, 29, g.lst) :: (b7, 29, zeroG.lst) :: (b4, 25, [.slice none 0 0, .slice none 0 0]) :: (b3, 29, g.lst) :: (b2, 25, [v1, v2]) :: l1) ++ (l3 ++ [])) ∧ OwnRow 29 4 l3 v (insW hs ws g).length (gL (insW hs ws g))) ((gs_insert default w0 w ((bn, 29, g.lst) :: (b7, 29, zeroG.lst) :: (b4, 25, [.slice none 0 0, .slice none 0 0]) :: (b3, 29, g.lst) :: (b2, 25, [v1, v2]) :: l1) l2 [] v2 ws g bn pl HS.out HR2.out (by simp) HPLE.out (Nat.le_trans HB2.out (by decide))).mono (fun e w1 h => by obtain ⟨v, l3, rfl, h1, h2⟩ := h; exact ⟨_, rfl, l3, h1, by rw [HPL.out] at h2; exact h2⟩)) (fun v w2 h => by obtain ⟨l3, h1, _⟩ := h; exact h1.sub (List.Sublist.cons _ (List.Sublist.cons _ (List.Sublist.cons _ (List.Sublist.cons_cons _ (List.nil_sublist _)))))) rfl ?_
                    clear HS; rintro v3 w ⟨l3, hst3, hr3⟩
                    have HS := Lib.hid hst3
                    have HR3 := Lib.hid hr3
                    clear hst3 hr3
                    try simp only [Act.put, List.setIfInBounds_toArray, List.set_cons_zero, List.set_cons_succ]
                    refine hg_reg 8 (some 68) rfl rfl (by kernel_rfl) (by kernel_rfl) (by kernel_rfl) (fun _ _ _ _ h => h) HS (List.Sublist.cons _ (List.Sublist.cons _ (List.Sublist.cons _ (List.Sublist.cons_cons _ (List.nil_sublist _))))) (.pointer (some ⟨b2, 1, none⟩)) rfl (fun _ => by go_simp) ?_
                    try simp only [Act.put, List.setIfInBounds_toArray, List.set_cons_zero, List.set_cons_succ]
                    refine hk_x1 9 (by kernel_rfl) ?_
                    refine hg_storeM (front := [(bn, 29, g.lst), (b7, 29, zeroG.lst), (b4, 25, [.slice none 0 0, .slice none 0 0]), (b3, 29, g.lst)]) (ll := l1 ++ (l3 ++ [])) 9 rfl rfl HS 23 _ _ rfl rfl 1 rfl v3 rfl sh23 HR3.out.one (by simp) [v1, v3] rfl (List.Sublist.cons _ (List.Sublist.cons _ (List.Sublist.cons _ (List.Sublist.cons_cons _ (List.nil_sublist _))))) ?_
                    clear HS; intro w HS
                    try simp only [Act.put, List.setIfInBounds_toArray, List.set_cons_zero, List.set_cons_succ]
                    refine hk_done (by kernel_rfl) ?_
                    try go_wp2_with fail
                    go_meet
                    exact ⟨v3, l3, HR3, Lib.hid (HS.out.drop 1)⟩
                  · skip
                    refine hg_call 4 (some 64) rfl rfl rfl HS (List.Sublist.cons _ (List.Sublist.cons _ (List.Sublist.cons _ (List.Sublist.cons_cons _ (List.nil_sublist _))))) 58 _ _ rfl Tryz.func58 (by kernel_rfl) rfl _ (fun v => v = .int .i64 (pl : Int)) ((lk_place w _ _ hs ws g (GsAt.own (lr := l1) HS.out (fun e he => by simp [he]) HR1.out) (GsAt.own (lr := l2) HS.out (fun e he => by simp [he]) HR2.out) (Nat.le_trans HB1.out (by decide)) (Nat.le_trans HB2.out (by decide)) HSO.out).mono (fun e w1 h => by obtain ⟨rfl, hx⟩ := h; exact ⟨_, rfl, (by rw [HPL.out]), HS.out.ext hx⟩)) rfl ?_
                    clear HS; rintro _ w rfl HS
                    try simp only [Act.put, List.setIfInBounds_toArray, List.set_cons_zero, List.set_cons_succ]
                    refine hk_x1 1 (by kernel_rfl) ?_
                    refine hx_load 1 (some 61) rfl rfl rfl HS (List.Sublist.cons _ (List.Sublist.cons _ (List.Sublist.cons _ (List.Sublist.cons_cons _ (List.nil_sublist _))))) 23 _ rfl 4 _ _ _ rfl 1 rfl _ sh23 v2 rfl ?_
                    try simp only [Act.put, List.setIfInBounds_toArray, List.set_cons_zero, List.set_cons_succ]
                    refine hk_x1 7 (by kernel_rfl) ?_
                    refine hg_callT 7 (some 67) rfl rfl rfl 57 _ _ rfl Tryz.func57 (by kernel_rfl) rfl _ (fun v w2 => ∃ l3, St none default w0 w2 (((bn, 29, g.lst) :: (b7, 29, zeroG.lst) :: (b4, 25, [.slice none 0 0, .slice none 0 0]) :: (b3, 29, g.lst) :: (b2, 25, [v1, v2]) :: l1) ++ (l3 ++ [])) ∧ OwnRow 29 4 l3 v (insW hs ws g).length (gL (insW hs ws g))) ((gs_insert default w0 w ((bn, 29, g.lst) :: (b7, 29, zeroG.lst) :: (b4, 25, [.slice none 0 0, .slice none 0 0]) :: (b3, 29, g.lst) :: (b2, 25, [v1, v2]) :: l1) l2 [] v2 ws g bn pl HS.out HR2.out (by simp) HPLE.out (Nat.le_trans HB2.out (by decide))).mono (fun e w1 h => by obtain ⟨v, l3, rfl, h1, h2⟩ := h; exact ⟨_, rfl, l3, h1, by rw [HPL.out] at h2; exact h2⟩)) (fun v w2 h => by obtain ⟨l3, h1, _⟩ := h; exact h1.sub (List.Sublist.cons _ (List.Sublist.cons _ (List.Sublist.cons _ (List.Sublist.cons_cons _ (List.nil_sublist _)))))) rfl ?_
                    clear HS; rintro v3 w ⟨l3, hst3, hr3⟩
                    have HS := Lib.hid hst3
                    have HR3 := Lib.hid hr3
                    clear hst3 hr3
                    try simp only [Act.put, List.setIfInBounds_toArray, List.set_cons_zero, List.set_cons_succ]
                    refine hg_reg 8 (some 68) rfl rfl (by kernel_rfl) (by kernel_rfl) (by kernel_rfl) (fun _ _ _ _ h => h) HS (List.Sublist.cons _ (List.Sublist.cons _ (List.Sublist.cons _ (List.Sublist.cons_cons _ (List.nil_sublist _))))) (.pointer (some ⟨b2, 1, none⟩)) rfl (fun _ => by go_simp) ?_
                    try simp only [Act.put, List.setIfInBounds_toArray, List.set_cons_zero, List.set_cons_succ]
                    refine hk_x1 9 (by kernel_rfl) ?_
                    refine hg_storeM (front := [(bn, 29, g.lst), (b7, 29, zeroG.lst), (b4, 25, [.slice none 0 0, .slice none 0 0]), (b3, 29, g.lst)]) (ll := l1 ++ (l3 ++ [])) 9 rfl rfl HS 23 _ _ rfl rfl 1 rfl v3 rfl sh23 HR3.out.one (by simp) [v1, v3] rfl (List.Sublist.cons _ (List.Sublist.cons _ (List.Sublist.cons _ (List.Sublist.cons_cons _ (List.nil_sublist _))))) ?_
                    clear HS; intro w HS
                    try simp only [Act.put, List.setIfInBounds_toArray, List.set_cons_zero, List.set_cons_succ]
                    refine hk_done (by kernel_rfl) ?_
                    try go_wp2_with fail
                    go_meet
                    exact ⟨v3, l3, HR3, Lib.hid (HS.out.drop 1)⟩
              · skip
                refine hg_build 6 (some 66) rfl rfl rfl HS (List.Sublist.cons _ (List.Sublist.cons _ (List.Sublist.cons_cons _ (List.nil_sublist _)))) 23 29 1 [(0, .tmp 65)] rfl [(0, .agg g.arr)] rfl g.lst (fun w => build_grant g w) ?_
                clear HS; intro w bn HS
                try simp only [Act.put, List.setIfInBounds_toArray, List.set_cons_zero, List.set_cons_succ]
                refine hk_x2 1 2 (by kernel_rfl) ?_ ?_
                · skip
                  refine hx_load 1 (some 61) rfl rfl rfl HS (List.Sublist.cons _ (List.Sublist.cons _ (List.Sublist.cons _ (List.Sublist.cons_cons _ (List.nil_sublist _))))) 23 _ rfl 4 _ _ _ rfl 1 rfl _ sh23 v2 rfl ?_
                  try simp only [Act.put, List.setIfInBounds_toArray, List.set_cons_zero, List.set_cons_succ]
                  refine hk_x1 2 (by kernel_rfl) ?_
                  refine hx_loads 2 (some 62) rfl rfl rfl HS (List.Sublist.cons _ (List.Sublist.cons _ (List.Sublist.cons _ (List.Sublist.cons_cons _ (List.nil_sublist _))))) 25 _ rfl 4 _ _ _ rfl 0 rfl 2 sh25 [v1, v2] rfl ⟨rfl, rfl, trivial⟩ ?_
                  try simp only [Act.put, List.setIfInBounds_toArray, List.set_cons_zero, List.set_cons_succ]
                  refine hk_x1 4 (by kernel_rfl) ?_
                  refine hg_call 4 (some 64) rfl rfl rfl HS (List.Sublist.cons _ (List.Sublist.cons _ (List.Sublist.cons _ (List.Sublist.cons_cons _ (List.nil_sublist _))))) 58 _ _ rfl Tryz.func58 (by kernel_rfl) rfl _ (fun v => v = .int .i64 (pl : Int)) ((lk_place w _ _ hs ws g (GsAt.own (lr := l1) HS.out (fun e he => by simp [he]) HR1.out) (GsAt.own (lr := l2) HS.out (fun e he => by simp [he]) HR2.out) (Nat.le_trans HB1.out (by decide)) (Nat.le_trans HB2.out (by decide)) HSO.out).mono (fun e w1 h => by obtain ⟨rfl, hx⟩ := h; exact ⟨_, rfl, (by rw [HPL.out]), HS.out.ext hx⟩)) rfl ?_
                  clear HS; rintro _ w rfl HS
                  try simp only [Act.put, List.setIfInBounds_toArray, List.set_cons_zero, List.set_cons_succ]
                  refine hk_x1 7 (by kernel_rfl) ?_
                  refine hg_callT 7 (some 67) rfl rfl rfl 57 _ _ rfl Tryz.func57 (by kernel_rfl) rfl _ (fun v w2 => ∃ l3, St none default w0 w2 (((bn, 29, g.lst) :: (b7, 29, zeroG.lst) :: (b4, 25, [.slice none 0 0, .slice none 0 0]) :: (b3, 29, g.lst) :: (b2, 25, [v1, v2]) :: l1) ++ (l3 ++ [])) ∧ OwnRow 29 4 l3 v (insW hs ws g).length (gL (insW hs ws g))) ((gs_insert default w0 w ((bn, 29, g.lst) :: (b7, 29, zeroG.lst) :: (b4, 25, [.slice none 0 0, .slice none 0 0]) :: (b3, 29, g.lst) :: (b2, 25, [v1, v2]) :: l1) l2 [] v2 ws g bn pl HS.out HR2.out (by simp) HPLE.out (Nat.le_trans HB2.out (by decide))).mono (fun e w1 h => by obtain ⟨v, l3, rfl, h1, h2⟩ := h; exact ⟨_, rfl, l3, h1, by rw [HPL.out] at h2; exact h2⟩)) (fun v w2 h => by obtain ⟨l3, h1, _⟩ := h; exact h1.sub (List.Sublist.cons _ (List.Sublist.cons _ (List.Sublist.cons _ (List.Sublist.cons_cons _ (List.nil_sublist _)))))) rfl ?_
                  clear HS; rintro v3 w ⟨l3, hst3, hr3⟩
                  have HS := Lib.hid hst3
                  have HR3 := Lib.hid hr3
                  clear hst3 hr3
                  try simp only [Act.put, List.setIfInBounds_toArray, List.set_cons_zero, List.set_cons_succ]
                  refine hg_reg 8 (some 68) rfl rfl (by kernel_rfl) (by kernel_rfl) (by kernel_rfl) (fun _ _ _ _ h => h) HS (List.Sublist.cons _ (List.Sublist.cons _ (List.Sublist.cons _ (List.Sublist.cons_cons _ (List.nil_sublist _))))) (.pointer (some ⟨b2, 1, none⟩)) rfl (fun _ => by go_simp) ?_
                  try simp only [Act.put, List.setIfInBounds_toArray, List.set_cons_zero, List.set_cons_succ]
                  refine hk_x1 9 (by kernel_rfl) ?_
                  refine hg_storeM (front := [(bn, 29, g.lst), (b7, 29, zeroG.lst), (b4, 25, [.slice none 0 0, .slice none 0 0]), (b3, 29, g.lst)]) (ll := l1 ++ (l3 ++ [])) 9 rfl rfl HS 23 _ _ rfl rfl 1 rfl v3 rfl sh23 HR3.out.one (by simp) [v1, v3] rfl (List.Sublist.cons _ (List.Sublist.cons _ (List.Sublist.cons _ (List.Sublist.cons_cons _ (List.nil_sublist _))))) ?_
                  clear HS; intro w HS
                  try simp only [Act.put, List.setIfInBounds_toArray, List.set_cons_zero, List.set_cons_succ]
                  refine hk_done (by kernel_rfl) ?_
                  try go_wp2_with fail
                  go_meet
                  exact ⟨v3, l3, HR3, Lib.hid (HS.out.drop 1)⟩
                · skip
                  refine hx_loads 2 (some 62) rfl rfl rfl HS (List.Sublist.cons _ (List.Sublist.cons _ (List.Sublist.cons _ (List.Sublist.cons_cons _ (List.nil_sublist _))))) 25 _ rfl 4 _ _ _ rfl 0 rfl 2 sh25 [v1, v2] rfl ⟨rfl, rfl, trivial⟩ ?_
                  try simp only [Act.put, List.setIfInBounds_toArray, List.set_cons_zero, List.set_cons_succ]
                  refine hk_x2 1 4 (by kernel_rfl) ?_ ?_
                  · skip
                    refine hx_load 1 (some 61) rfl rfl rfl HS (List.Sublist.cons _ (List.Sublist.cons _ (List.Sublist.cons _ (List.Sublist.cons_cons _ (List.nil_sublist _))))) 23 _ rfl 4 _ _ _ rfl 1 rfl _ sh23 v2 rfl ?_
                    try simp only [Act.put, List.setIfInBounds_toArray, List.set_cons_zero, List.set_cons_succ]
                    refine hk_x1 4 (by kernel_rfl) ?_
                    refine hg_call 4 (some 64) rfl rfl rfl HS (List.Sublist.cons _ (List.Sublist.cons _ (List.Sublist.cons _ (List.Sublist.cons_cons _ (List.nil_sublist _))))) 58 _ _ rfl Tryz.func58 (by kernel_rfl) rfl _ (fun v => v = .int .i64 (pl : Int)) ((lk_place w _ _ hs ws g (GsAt.own (lr := l1) HS.out (fun e he => by simp [he]) HR1.out) (GsAt.own (lr := l2) HS.out (fun e he => by simp [he]) HR2.out) (Nat.le_trans HB1.out (by decide)) (Nat.le_trans HB2.out (by decide)) HSO.out).mono (fun e w1 h => by obtain ⟨rfl, hx⟩ := h; exact ⟨_, rfl, (by rw [HPL.out]), HS.out.ext hx⟩)) rfl ?_
                    clear HS; rintro _ w rfl HS
                    try simp only [Act.put, List.setIfInBounds_toArray, List.set_cons_zero, List.set_cons_succ]
                    refine hk_x1 7 (by kernel_rfl) ?_
                    refine hg_callT 7 (some 67) rfl rfl rfl 57 _ _ rfl Tryz.func57 (by kernel_rfl) rfl _ (fun v w2 => ∃ l3, St none default w0 w2 (((bn, 29, g.lst) :: (b7, 29, zeroG.lst) :: (b4, 25, [.slice none 0 0, .slice none 0 0]) :: (b3, 29, g.lst) :: (b2, 25, [v1, v2]) :: l1) ++ (l3 ++ [])) ∧ OwnRow 29 4 l3 v (insW hs ws g).length (gL (insW hs ws g))) ((gs_insert default w0 w ((bn, 29, g.lst) :: (b7, 29, zeroG.lst) :: (b4, 25, [.slice none 0 0, .slice none 0 0]) :: (b3, 29, g.lst) :: (b2, 25, [v1, v2]) :: l1) l2 [] v2 ws g bn pl HS.out HR2.out (by simp) HPLE.out (Nat.le_trans HB2.out (by decide))).mono (fun e w1 h => by obtain ⟨v, l3, rfl, h1, h2⟩ := h; exact ⟨_, rfl, l3, h1, by rw [HPL.out] at h2; exact h2⟩)) (fun v w2 h => by obtain ⟨l3, h1, _⟩ := h; exact h1.sub (List.Sublist.cons _ (List.Sublist.cons _ (List.Sublist.cons _ (List.Sublist.cons_cons _ (List.nil_sublist _)))))) rfl ?_
                    clear HS; rintro v3 w ⟨l3, hst3, hr3⟩
                    have HS := Lib.hid hst3
                    have HR3 := Lib.hid hr3
                    clear hst3 hr3
                    try simp only [Act.put, List.setIfInBounds_toArray, List.set_cons_zero, List.set_cons_succ]
                    refine hg_reg 8 (some 68) rfl rfl (by kernel_rfl) (by kernel_rfl) (by kernel_rfl) (fun _ _ _ _ h => h) HS (List.Sublist.cons _ (List.Sublist.cons _ (List.Sublist.cons _ (List.Sublist.cons_cons _ (List.nil_sublist _))))) (.pointer (some ⟨b2, 1, none⟩)) rfl (fun _ => by go_simp) ?_
                    try simp only [Act.put, List.setIfInBounds_toArray, List.set_cons_zero, List.set_cons_succ]
                    refine hk_x1 9 (by kernel_rfl) ?_
                    refine hg_storeM (front := [(bn, 29, g.lst), (b7, 29, zeroG.lst), (b4, 25, [.slice none 0 0, .slice none 0 0]), (b3, 29, g.lst)]) (ll := l1 ++ (l3 ++ [])) 9 rfl rfl HS 23 _ _ rfl rfl 1 rfl v3 rfl sh23 HR3.out.one (by simp) [v1, v3] rfl (List.Sublist.cons _ (List.Sublist.cons _ (List.Sublist.cons _ (List.Sublist.cons_cons _ (List.nil_sublist _))))) ?_
                    clear HS; intro w HS
                    try simp only [Act.put, List.setIfInBounds_toArray, List.set_cons_zero, List.set_cons_succ]
                    refine hk_done (by kernel_rfl) ?_
                    try go_wp2_with fail
                    go_meet
                    exact ⟨v3, l3, HR3, Lib.hid (HS.out.drop 1)⟩
                  · skip
                    refine hg_call 4 (some 64) rfl rfl rfl HS (List.Sublist.cons _ (List.Sublist.cons _ (List.Sublist.cons _ (List.Sublist.cons_cons _ (List.nil_sublist _))))) 58 _ _ rfl Tryz.func58 (by kernel_rfl) rfl _ (fun v => v = .int .i64 (pl : Int)) ((lk_place w _ _ hs ws g (GsAt.own (lr := l1) HS.out (fun e he => by simp [he]) HR1.out) (GsAt.own (lr := l2) HS.out (fun e he => by simp [he]) HR2.out) (Nat.le_trans HB1.out (by decide)) (Nat.le_trans HB2.out (by decide)) HSO.out).mono (fun e w1 h => by obtain ⟨rfl, hx⟩ := h; exact ⟨_, rfl, (by rw [HPL.out]), HS.out.ext hx⟩)) rfl ?_
                    clear HS; rintro _ w rfl HS
                    try simp only [Act.put, List.setIfInBounds_toArray, List.set_cons_zero, List.set_cons_succ]
                    refine hk_x1 1 (by kernel_rfl) ?_
                    refine hx_load 1 (some 61) rfl rfl rfl HS (List.Sublist.cons _ (List.Sublist.cons _ (List.Sublist.cons _ (List.Sublist.cons_cons _ (List.nil_sublist _))))) 23 _ rfl 4 _ _ _ rfl 1 rfl _ sh23 v2 rfl ?_
                    try simp only [Act.put, List.setIfInBounds_toArray, List.set_cons_zero, List.set_cons_succ]
                    refine hk_x1 7 (by kernel_rfl) ?_
                    refine hg_callT 7 (some 67) rfl rfl rfl 57 _ _ rfl Tryz.func57 (by kernel_rfl) rfl _ (fun v w2 => ∃ l3, St none default w0 w2 (((bn, 29, g.lst) :: (b7, 29, zeroG.lst) :: (b4, 25, [.slice none 0 0, .slice none 0 0]) :: (b3, 29, g.lst) :: (b2, 25, [v1, v2]) :: l1) ++ (l3 ++ [])) ∧ OwnRow 29 4 l3 v (insW hs ws g).length (gL (insW hs ws g))) ((gs_insert default w0 w ((bn, 29, g.lst) :: (b7, 29, zeroG.lst) :: (b4, 25, [.slice none 0 0, .slice none 0 0]) :: (b3, 29, g.lst) :: (b2, 25, [v1, v2]) :: l1) l2 [] v2 ws g bn pl HS.out HR2.out (by simp) HPLE.out (Nat.le_trans HB2.out (by decide))).mono (fun e w1 h => by obtain ⟨v, l3, rfl, h1, h2⟩ := h; exact ⟨_, rfl, l3, h1, by rw [HPL.out] at h2; exact h2⟩)) (fun v w2 h => by obtain ⟨l3, h1, _⟩ := h; exact h1.sub (List.Sublist.cons _ (List.Sublist.cons _ (List.Sublist.cons _ (List.Sublist.cons_cons _ (List.nil_sublist _)))))) rfl ?_
                    clear HS; rintro v3 w ⟨l3, hst3, hr3⟩
                    have HS := Lib.hid hst3
                    have HR3 := Lib.hid hr3
                    clear hst3 hr3
                    try simp only [Act.put, List.setIfInBounds_toArray, List.set_cons_zero, List.set_cons_succ]
                    refine hg_reg 8 (some 68) rfl rfl (by kernel_rfl) (by kernel_rfl) (by kernel_rfl) (fun _ _ _ _ h => h) HS (List.Sublist.cons _ (List.Sublist.cons _ (List.Sublist.cons _ (List.Sublist.cons_cons _ (List.nil_sublist _))))) (.pointer (some ⟨b2, 1, none⟩)) rfl (fun _ => by go_simp) ?_
                    try simp only [Act.put, List.setIfInBounds_toArray, List.set_cons_zero, List.set_cons_succ]
                    refine hk_x1 9 (by kernel_rfl) ?_
                    refine hg_storeM (front := [(bn, 29, g.lst), (b7, 29, zeroG.lst), (b4, 25, [.slice none 0 0, .slice none 0 0]), (b3, 29, g.lst)]) (ll := l1 ++ (l3 ++ [])) 9 rfl rfl HS 23 _ _ rfl rfl 1 rfl v3 rfl sh23 HR3.out.one (by simp) [v1, v3] rfl (List.Sublist.cons _ (List.Sublist.cons _ (List.Sublist.cons _ (List.Sublist.cons_cons _ (List.nil_sublist _))))) ?_
                    clear HS; intro w HS
                    try simp only [Act.put, List.setIfInBounds_toArray, List.set_cons_zero, List.set_cons_succ]
                    refine hk_done (by kernel_rfl) ?_
                    try go_wp2_with fail
                    go_meet
                    exact ⟨v3, l3, HR3, Lib.hid (HS.out.drop 1)⟩
            case rest =>
              clear HS HR2
              obtain ⟨v3, l3, HR2, HS⟩ := hcut
              go_wp2_with (refine sx_loads HS (by rfl) 25 (.tmp 2) rfl 3 _ _ _ rfl 0 rfl 2 sh25 [v1, v3] rfl ⟨rfl, rfl, trivial⟩ ?_)
              replace HS : Hid (St none default w0 wc (l1 ++ (l3 ++ [(b7, 29, zeroG.lst), (b4, 25, [.slice none 0 0, .slice none 0 0]), (b3, 29, g.lst), (b2, 25, [v1, v3])]))) := Lib.hid (HS.out.perm (by simpa using List.perm_append_comm (l₁ := l1 ++ l3) (l₂ := [(b7, 29, zeroG.lst), (b4, 25, [.slice none 0 0, .slice none 0 0]), (b3, 29, g.lst), (b2, 25, [v1, v3])])))
              have HIL : Hid ((insW hs ws g).length = nw + 1) := Lib.hid (by have h1 := HPLE.out; rw [HPL.out] at h1; unfold insW; rw [List.length_append, List.length_cons, List.length_take, List.length_drop, HNW.out]; omega)
              refine (lk_settle default w0 wc l1 l3 [(b7, 29, zeroG.lst), (b4, 25, [.slice none 0 0, .slice none 0 0]), (b3, 29, g.lst), (b2, 25, [v1, v3])] v1 v3 hs (insW hs ws g) HS.out HR1.out HR2.out HSO.out (by rw [HIL.out, ← HNH.out]; omega)).mono ?_
              rintro e w ⟨v4, v5, l4, l5, rfl, hst, hr3, hr4⟩
              clear HS HR1 HR2
              replace HS : Hid (St none default w0 w ((b7, 29, zeroG.lst) :: (b4, 25, [.slice none 0 0, .slice none 0 0]) :: (b3, 29, g.lst) :: (b2, 25, [v1, v3]) :: (l4 ++ (l5 ++ [])))) := Lib.hid (hst.perm (by simpa using List.perm_append_comm (l₁ := [(b7, 29, zeroG.lst), (b4, 25, [.slice none 0 0, .slice none 0 0]), (b3, 29, g.lst), (b2, 25, [v1, v3])]) (l₂ := l4 ++ l5)))
              have HR1 := Lib.hid hr3
              have HR2 := Lib.hid hr4
              clear hst hr3 hr4
              have HSR : Hid (sortedG (settle hs (insW hs ws g)).1) := Lib.hid (settle_srt HSO.out)
              have HLR : Hid ((settle hs (insW hs ws g)).1.length ≤ 1000000) := Lib.hid (by have h1 := settle_len hs (insW hs ws g); rw [HIL.out, ← HNH.out] at h1; omega)
              obtain ⟨R, hR⟩ : ∃ R, R = settle hs (insW hs ws g) := ⟨_, rfl⟩
              rw [← hR] at HR1 HR2 HSR HLR HF
              clear hR
              go_wp2_with (refine sx_store_all HS (by rfl) 25 (.tmp 2) (.tmp 70) rfl rfl 3 _ _ _ rfl rfl [v4, v5] rfl 2 sh25 rfl rfl (by simp [HR1.out.one, HR2.out.one]) ?_; clear HS; intro w HS)
              replace HS : Hid (St none default w0 w ((b7, 29, zeroG.lst) :: (b4, 25, [.slice none 0 0, .slice none 0 0]) :: (b3, 29, g.lst) :: (b2, 25, [v4, v5]) :: (l4 ++ (l5 ++ [])))) := HS
              have hmk2 : modeF R.1 ⟨g.tx, g.page, g.slot, 0⟩ = modeF R.1 g := modeF_key R.1 _ g rfl rfl rfl
              obtain ⟨m2, hm2⟩ : ∃ m, m = modeF R.1 g := ⟨_, rfl⟩
              rw [← hm2] at hmk2 HF
              have HMK2 := Lib.hid hmk2
              clear hmk2 hm2
              refine hg_begin [(b3, 29, g.lst), (b2, 25, [v4, v5])] HS (by kernel_rfl) ?_
              clear HS; intro w HS
              refine hg_loads 0 (some 71) rfl rfl (by kernel_rfl) (by kernel_rfl) (by kernel_rfl) (fun _ _ _ _ h => h) HS (List.Sublist.cons _ (List.Sublist.cons _ (List.Sublist.cons_cons _ (List.Sublist.cons_cons _ (List.nil_sublist _))))) rfl 25 _ rfl 1 _ _ _ rfl 0 rfl 2 sh25 [v4, v5] rfl ⟨rfl, rfl, trivial⟩ ?_
              try simp only [Act.put, List.setIfInBounds_toArray, List.set_cons_zero, List.set_cons_succ]
              refine hg_loads 1 (some 72) rfl rfl (by kernel_rfl) (by kernel_rfl) (by kernel_rfl) (fun _ _ _ _ h => h) HS (List.Sublist.cons _ (List.Sublist.cons _ (List.Sublist.cons_cons _ (List.Sublist.cons_cons _ (List.nil_sublist _))))) rfl 25 _ rfl 1 _ _ _ rfl 0 rfl 2 sh25 [v4, v5] rfl ⟨rfl, rfl, trivial⟩ ?_
              try simp only [Act.put, List.setIfInBounds_toArray, List.set_cons_zero, List.set_cons_succ]
              refine hg_reg 2 (some 73) rfl rfl (by kernel_rfl) (by kernel_rfl) (by kernel_rfl) (fun _ _ _ _ h => h) HS (List.Sublist.cons _ (List.Sublist.cons _ (List.Sublist.cons_cons _ (List.Sublist.cons_cons _ (List.nil_sublist _))))) (.pointer (some ⟨b3, 0, none⟩)) rfl (fun _ => by go_simp) ?_
              try simp only [Act.put, List.setIfInBounds_toArray, List.set_cons_zero, List.set_cons_succ]
              refine hg_load 3 (some 74) rfl rfl (by kernel_rfl) (by kernel_rfl) (by kernel_rfl) (fun _ _ _ _ h => h) HS (List.Sublist.cons _ (List.Sublist.cons _ (List.Sublist.cons_cons _ (List.Sublist.cons_cons _ (List.nil_sublist _))))) rfl 3 _ rfl 0 _ _ _ rfl 0 rfl _ sh3 (.int .i64 g.tx) rfl ?_
              try simp only [Act.put, List.setIfInBounds_toArray, List.set_cons_zero, List.set_cons_succ]
              refine hg_reg 4 (some 75) rfl rfl (by kernel_rfl) (by kernel_rfl) (by kernel_rfl) (fun _ _ _ _ h => h) HS (List.Sublist.cons _ (List.Sublist.cons _ (List.Sublist.cons_cons _ (List.Sublist.cons_cons _ (List.nil_sublist _))))) (.pointer (some ⟨b3, 1, none⟩)) rfl (fun _ => by go_simp) ?_
              try simp only [Act.put, List.setIfInBounds_toArray, List.set_cons_zero, List.set_cons_succ]
              refine hg_loads 5 (some 76) rfl rfl (by kernel_rfl) (by kernel_rfl) (by kernel_rfl) (fun _ _ _ _ h => h) HS (List.Sublist.cons _ (List.Sublist.cons _ (List.Sublist.cons_cons _ (List.Sublist.cons_cons _ (List.nil_sublist _))))) rfl 27 _ rfl 0 _ _ _ rfl 1 rfl 2 sh27 [.int .i64 g.page, .int .i64 g.slot] rfl ⟨rfl, rfl, trivial⟩ ?_
              try simp only [Act.put, List.setIfInBounds_toArray, List.set_cons_zero, List.set_cons_succ]
              refine hg_reg 7 (some 78) rfl rfl (by kernel_rfl) (by kernel_rfl) (by kernel_rfl) (fun _ _ _ _ h => h) HS (List.Sublist.cons _ (List.Sublist.cons _ (List.Sublist.cons_cons _ (List.Sublist.cons_cons _ (List.nil_sublist _))))) (.pointer (some ⟨b3, 3, none⟩)) rfl (fun _ => by go_simp) ?_
              try simp only [Act.put, List.setIfInBounds_toArray, List.set_cons_zero, List.set_cons_succ]
              refine hg_load 8 (some 79) rfl rfl (by kernel_rfl) (by kernel_rfl) (by kernel_rfl) (fun _ _ _ _ h => h) HS (List.Sublist.cons _ (List.Sublist.cons _ (List.Sublist.cons_cons _ (List.Sublist.cons_cons _ (List.nil_sublist _))))) rfl 3 _ rfl 0 _ _ _ rfl 3 rfl _ sh3 (.int .i64 g.mode) rfl ?_
              try simp only [Act.put, List.setIfInBounds_toArray, List.set_cons_zero, List.set_cons_succ]
              refine hk_x1 6 (by kernel_rfl) ?_
              refine hg_call 6 (some 77) rfl rfl rfl HS (List.Sublist.cons _ (List.Sublist.cons _ (List.Sublist.cons_cons _ (List.Sublist.cons_cons _ (List.nil_sublist _))))) 43 _ _ rfl Tryz.func43 (by kernel_rfl) rfl _ (fun v => v = .int .i64 m2) ((lk_mode w _ _ R.1 g.tx g.page g.slot (GsAt.own (lr := l4) HS.out (fun e he => by simp [he]) HR1.out) HLR.out HSR.out HR2.out.one).mono (fun e w1 h => by obtain ⟨rfl, hx⟩ := h; exact ⟨_, rfl, (by rw [HMK2.out]), HS.out.ext hx⟩)) rfl ?_
              clear HS; rintro _ w rfl HS
              try simp only [Act.put, List.setIfInBounds_toArray, List.set_cons_zero, List.set_cons_succ]
              refine hg_reg 9 (some 80) rfl rfl (by kernel_rfl) (by kernel_rfl) (by kernel_rfl) (fun _ _ _ _ h => h) HS (List.Sublist.cons _ (List.Sublist.cons _ (List.Sublist.cons_cons _ (List.Sublist.cons_cons _ (List.nil_sublist _))))) (.bool (decide (g.mode ≤ m2))) rfl (fun _ => by first | rfl | go_simp) ?_
              try simp only [Act.put, List.setIfInBounds_toArray, List.set_cons_zero, List.set_cons_succ]
              refine hk_x1 10 (by kernel_rfl) ?_
              refine hg_store_all 10 rfl rfl HS 25 _ _ rfl rfl 1 b4 25 [.slice none 0 0, .slice none 0 0] rfl rfl [v4, v5] rfl 2 sh25 rfl rfl (by simp [HR1.out.one, HR2.out.one]) (List.Sublist.cons _ (List.Sublist.cons _ (List.Sublist.cons_cons _ (List.Sublist.cons_cons _ (List.nil_sublist _))))) ?_
              clear HS; intro w HS
              try simp only [Act.put, List.setIfInBounds_toArray, List.set_cons_zero, List.set_cons_succ]
              refine hg_reg 11 (some 5) rfl rfl (by kernel_rfl) (by kernel_rfl) (by kernel_rfl) (fun _ _ _ _ h => h) HS (List.Sublist.cons _ (List.Sublist.cons _ (List.Sublist.cons_cons _ (List.Sublist.cons_cons _ (List.nil_sublist _))))) (.bool (decide (g.mode ≤ m2))) rfl (fun _ => by rfl) ?_
              try simp only [Act.put, List.setIfInBounds_toArray, List.set_cons_zero, List.set_cons_succ]
              refine hg_reg 12 (some 6) rfl rfl (by kernel_rfl) (by kernel_rfl) (by kernel_rfl) (fun _ _ _ _ h => h) HS (List.Sublist.cons _ (List.Sublist.cons _ (List.Sublist.cons_cons _ (List.Sublist.cons_cons _ (List.nil_sublist _))))) (.int .i64 0) rfl (fun _ => by rfl) ?_
              try simp only [Act.put, List.setIfInBounds_toArray, List.set_cons_zero, List.set_cons_succ]
              refine hk_done (by kernel_rfl) ?_
              go_wp2_with fail
              have hB : PBox w b4 25 [v4, v5] := HS.out.box (i := 1) rfl
              refine bodyPost_ret (results_ctt rfl rfl (run_load_cells sh25 rfl (fun j u hj => by rw [Nat.zero_add]; exact hB.cell hj)) rfl rfl) rfl ?_
              refine .inr (.inr ⟨R, decide (g.mode ≤ m2), v4, v5, l4, l5, HF.out.1, HF.out.2, rfl, (HS.out.drop 4).sub ?_, HR1.out, HR2.out⟩)
              simp
end Go.Proofs.YtnfkplohpjfocaaGreat
