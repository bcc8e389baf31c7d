/-
  The contract of locks.Valid.
-/
import Derived.Test.YtnfkplohpjfocaaGreatLkW
set_option linter.unusedVariables false
set_option linter.unusedSimpArgs false
namespace Go.Proofs.YtnfkplohpjfocaaGreat
open Go.RowKit
set_option maxHeartbeats 8000000 in
set_option maxRecDepth 100000 in
theorem lk_valid (w0 : World) (vh vw : Value) (hs ws : List G) (h1 : GsAt w0 vh hs) (h2 : GsAt w0 vw ws) (hb1 : hs.length ≤ 1000000) (hb2 : ws.length ≤ 1000000) : Calls Tryz.prog 21 #[.agg #[vh, vw]] w0 fun e w' => e = .returned (.bool (validT hs ws)) ∧ Ext w0 w' := by
  obtain ⟨aoh, cph, rfl, hch1, hch2, hath⟩ := h1.get
  have HGh := Lib.hid h1
  obtain ⟨nh, hnh⟩ : ∃ n, n = hs.length := ⟨_, rfl⟩
  rw [← hnh] at hch1 hath HGh hb1 ⊢
  have HNh := Lib.hid hnh
  have HATh := Lib.hid hath
  clear hnh hath h1
  obtain ⟨aow, cpw, rfl, hcw1, hcw2, hatw⟩ := h2.get
  have HGw := Lib.hid h2
  obtain ⟨nw, hnw⟩ : ∃ n, n = ws.length := ⟨_, rfl⟩
  rw [← hnw] at hcw1 hatw HGw hb2 ⊢
  have HNw := Lib.hid hnw
  have HATw := Lib.hid hatw
  clear hnw hatw h2
  have HS : Hid (St none default w0 w0 []) := St.start w0
  go_enter Tryz.func21, Tryz.ntmps21
  by_cases hsum : nh + nw ≤ 1024
  · skip
    have d0 : decide (1024 < ((nh : Int) + (nw : Int))) = false := by simp; omega
    go_wp2_with (first | (refine sx_box HS rfl _ _ rfl [.slice aoh nh cph, .slice aow nw cpw] rfl ?_; clear HS; intro w b1 HS) | (refine sx_load HS rfl 23 _ rfl 0 _ _ _ rfl 0 rfl _ sh23 (.slice aoh nh cph) rfl ?_) | (refine sx_load HS rfl 23 _ rfl 0 _ _ _ rfl 1 rfl _ sh23 (.slice aow nw cpw) rfl ?_))
    replace HS : Hid (St none default w0 w [(b1, 25, [.slice aoh nh cph, .slice aow nw cpw])]) := HS
    go_loopw [18] (fun s wr => ∃ i : Nat, i ≤ nh ∧ s = .int .i64 i ∧ Hid (∀ j, j < i → heldAt hs j = true) ∧ Hid (St none default w0 wr [(b1, 25, [.slice aoh nh cph, .slice aow nw cpw])])) (fun s _ => nh - (intOf s).toNat)
    case atStart => exact ⟨0, Nat.zero_le _, rfl, (fun j h => absurd h (Nat.not_lt_zero _)), HS⟩
    case round =>
      obtain ⟨i, hi, rfl, HI, HS2⟩ := hrel
      clear HS
      have HS := HS2
      clear HS2
      by_cases hlt : i < nh
      · obtain ⟨x, hx⟩ := list_get_of_lt hs i nh HNh.out.symm hlt
        obtain ⟨g, off, rfl, hcell⟩ := HATh.out (by omega)
        have HCL := Lib.hid hcell
        have HC := Lib.hid (hcell i x hx)
        have HX := Lib.hid hx
        clear hcell hx
        go_wp2_with (first | (refine sx_loadsC rfl 29 _ rfl g (off + i * 4) rfl 4 sh29 x.lst rfl (HC.out _ HS.out.isExt) ?_) | (refine sx_alloc HS rfl 29 rfl _ zr29 ?_; clear HS; intro w b4 HS) | (refine sx_store_all HS rfl 29 _ _ rfl rfl 0 _ _ _ rfl rfl x.lst rfl 4 sh29 rfl rfl rfl ?_; clear HS; intro w HS))
        try simp only [Act.put, List.setIfInBounds_toArray, List.set_cons_zero, List.set_cons_succ]
        replace HS : Hid (St none default w0 w [(b4, 29, [.int .i64 x.tx, .int .i64 x.page, .int .i64 x.slot, .int .i64 x.mode]), (b1, 25, [.slice (some ⟨g, off, none⟩) nh cph, .slice aow nw cpw])]) := HS
        cases hv : validG x with
        | false =>
          refine hg_begin [(b4, 29, [.int .i64 x.tx, .int .i64 x.page, .int .i64 x.slot, .int .i64 x.mode]), (b1, 25, [.slice (some ⟨g, off, none⟩) nh cph, .slice aow nw cpw])] HS (by kernel_rfl) ?_
          clear HS; intro w HS
          refine hg_loads 0 (some 23) rfl rfl (by kernel_rfl) (by kernel_rfl) (by kernel_rfl) (fun _ _ _ _ h => h) HS (by simp) rfl 29 _ rfl 0 _ _ _ rfl 0 rfl 4 sh29 [.int .i64 x.tx, .int .i64 x.page, .int .i64 x.slot, .int .i64 x.mode] rfl ⟨rfl, rfl, rfl, rfl, trivial⟩ ?_
          try simp only [Act.put, List.setIfInBounds_toArray, List.set_cons_zero, List.set_cons_succ]
          refine hk_x1 1 (by kernel_rfl) ?_
          refine hg_call 1 (some 24) rfl rfl rfl HS (by simp) 40 _ _ rfl Tryz.func40 (by kernel_rfl) rfl _ (fun v => v = .bool false) ((lk_validG x _).mono (fun e w1 h => by obtain ⟨rfl, hx⟩ := h; exact ⟨_, rfl, by rw [hv], HS.out.ext hx⟩)) rfl ?_
          clear HS; rintro _ w rfl HS
          try simp only [Act.put, List.setIfInBounds_toArray, List.set_cons_zero, List.set_cons_succ]
          refine hg_reg 2 (some 25) rfl rfl (by kernel_rfl) (by kernel_rfl) (by kernel_rfl) (fun _ _ _ _ h => h) HS (by simp) (.bool true) rfl (fun _ => by go_simp) ?_
          try simp only [Act.put, List.setIfInBounds_toArray, List.set_cons_zero, List.set_cons_succ]
          refine hg_reg 3 (some 26) rfl rfl (by kernel_rfl) (by kernel_rfl) (by kernel_rfl) (fun _ _ _ _ h => h) HS (by simp) (.bool true) rfl (fun _ => by rfl) ?_
          try simp only [Act.put, List.setIfInBounds_toArray, List.set_cons_zero, List.set_cons_succ]
          refine hg_skip 4 (some 27) rfl rfl (by kernel_rfl) (by kernel_rfl) (by kernel_rfl) (fun _ _ _ _ h => h) HS (by simp) rfl ?_
          try simp only [Act.put, List.setIfInBounds_toArray, List.set_cons_zero, List.set_cons_succ]
          refine hg_skip 5 (some 28) rfl rfl (by kernel_rfl) (by kernel_rfl) (by kernel_rfl) (fun _ _ _ _ h => h) HS (by simp) rfl ?_
          try simp only [Act.put, List.setIfInBounds_toArray, List.set_cons_zero, List.set_cons_succ]
          refine hg_skip 6 (some 29) rfl rfl (by kernel_rfl) (by kernel_rfl) (by kernel_rfl) (fun _ _ _ _ h => h) HS (by simp) rfl ?_
          try simp only [Act.put, List.setIfInBounds_toArray, List.set_cons_zero, List.set_cons_succ]
          refine hg_skip 7 (some 30) rfl rfl (by kernel_rfl) (by kernel_rfl) (by kernel_rfl) (fun _ _ _ _ h => h) HS (by simp) rfl ?_
          try simp only [Act.put, List.setIfInBounds_toArray, List.set_cons_zero, List.set_cons_succ]
          refine hg_skip 8 (some 31) rfl rfl (by kernel_rfl) (by kernel_rfl) (by kernel_rfl) (fun _ _ _ _ h => h) HS (by simp) rfl ?_
          try simp only [Act.put, List.setIfInBounds_toArray, List.set_cons_zero, List.set_cons_succ]
          refine hg_skip 9 (some 32) rfl rfl (by kernel_rfl) (by kernel_rfl) (by kernel_rfl) (fun _ _ _ _ h => h) HS (by simp) rfl ?_
          try simp only [Act.put, List.setIfInBounds_toArray, List.set_cons_zero, List.set_cons_succ]
          refine hg_skip 10 (some 33) rfl rfl (by kernel_rfl) (by kernel_rfl) (by kernel_rfl) (fun _ _ _ _ h => h) HS (by simp) rfl ?_
          try simp only [Act.put, List.setIfInBounds_toArray, List.set_cons_zero, List.set_cons_succ]
          refine hg_skip 11 (some 34) rfl rfl (by kernel_rfl) (by kernel_rfl) (by kernel_rfl) (fun _ _ _ _ h => h) HS (by simp) rfl ?_
          try simp only [Act.put, List.setIfInBounds_toArray, List.set_cons_zero, List.set_cons_succ]
          refine hg_skip 12 (some 35) rfl rfl (by kernel_rfl) (by kernel_rfl) (by kernel_rfl) (fun _ _ _ _ h => h) HS (by simp) rfl ?_
          try simp only [Act.put, List.setIfInBounds_toArray, List.set_cons_zero, List.set_cons_succ]
          refine hg_skip 13 (some 36) rfl rfl (by kernel_rfl) (by kernel_rfl) (by kernel_rfl) (fun _ _ _ _ h => h) HS (by simp) rfl ?_
          try simp only [Act.put, List.setIfInBounds_toArray, List.set_cons_zero, List.set_cons_succ]
          refine hg_skip 14 (some 37) rfl rfl (by kernel_rfl) (by kernel_rfl) (by kernel_rfl) (fun _ _ _ _ h => h) HS (by simp) rfl ?_
          try simp only [Act.put, List.setIfInBounds_toArray, List.set_cons_zero, List.set_cons_succ]
          refine hg_skip 15 (some 38) rfl rfl (by kernel_rfl) (by kernel_rfl) (by kernel_rfl) (fun _ _ _ _ h => h) HS (by simp) rfl ?_
          try simp only [Act.put, List.setIfInBounds_toArray, List.set_cons_zero, List.set_cons_succ]
          refine hg_skip 16 (some 39) rfl rfl (by kernel_rfl) (by kernel_rfl) (by kernel_rfl) (fun _ _ _ _ h => h) HS (by simp) rfl ?_
          try simp only [Act.put, List.setIfInBounds_toArray, List.set_cons_zero, List.set_cons_succ]
          refine hg_skip 17 (some 40) rfl rfl (by kernel_rfl) (by kernel_rfl) (by kernel_rfl) (fun _ _ _ _ h => h) HS (by simp) rfl ?_
          try simp only [Act.put, List.setIfInBounds_toArray, List.set_cons_zero, List.set_cons_succ]
          refine hg_skip 18 (some 41) rfl rfl (by kernel_rfl) (by kernel_rfl) (by kernel_rfl) (fun _ _ _ _ h => h) HS (by simp) rfl ?_
          try simp only [Act.put, List.setIfInBounds_toArray, List.set_cons_zero, List.set_cons_succ]
          refine hg_skip 19 (some 42) rfl rfl (by kernel_rfl) (by kernel_rfl) (by kernel_rfl) (fun _ _ _ _ h => h) HS (by simp) rfl ?_
          try simp only [Act.put, List.setIfInBounds_toArray, List.set_cons_zero, List.set_cons_succ]
          refine hg_skip 20 (some 43) rfl rfl (by kernel_rfl) (by kernel_rfl) (by kernel_rfl) (fun _ _ _ _ h => h) HS (by simp) rfl ?_
          try simp only [Act.put, List.setIfInBounds_toArray, List.set_cons_zero, List.set_cons_succ]
          refine hg_skip 21 (some 44) rfl rfl (by kernel_rfl) (by kernel_rfl) (by kernel_rfl) (fun _ _ _ _ h => h) HS (by simp) rfl ?_
          try simp only [Act.put, List.setIfInBounds_toArray, List.set_cons_zero, List.set_cons_succ]
          refine hg_skip 22 (some 45) rfl rfl (by kernel_rfl) (by kernel_rfl) (by kernel_rfl) (fun _ _ _ _ h => h) HS (by simp) rfl ?_
          try simp only [Act.put, List.setIfInBounds_toArray, List.set_cons_zero, List.set_cons_succ]
          refine hg_skip 23 (some 46) rfl rfl (by kernel_rfl) (by kernel_rfl) (by kernel_rfl) (fun _ _ _ _ h => h) HS (by simp) rfl ?_
          try simp only [Act.put, List.setIfInBounds_toArray, List.set_cons_zero, List.set_cons_succ]
          refine hg_skip 24 (some 47) rfl rfl (by kernel_rfl) (by kernel_rfl) (by kernel_rfl) (fun _ _ _ _ h => h) HS (by simp) rfl ?_
          try simp only [Act.put, List.setIfInBounds_toArray, List.set_cons_zero, List.set_cons_succ]
          refine hg_skip 25 (some 48) rfl rfl (by kernel_rfl) (by kernel_rfl) (by kernel_rfl) (fun _ _ _ _ h => h) HS (by simp) rfl ?_
          try simp only [Act.put, List.setIfInBounds_toArray, List.set_cons_zero, List.set_cons_succ]
          refine hg_skip 26 (some 49) rfl rfl (by kernel_rfl) (by kernel_rfl) (by kernel_rfl) (fun _ _ _ _ h => h) HS (by simp) rfl ?_
          try simp only [Act.put, List.setIfInBounds_toArray, List.set_cons_zero, List.set_cons_succ]
          refine hg_reg 27 (some 50) rfl rfl (by kernel_rfl) (by kernel_rfl) (by kernel_rfl) (fun _ _ _ _ h => h) HS (by simp) (.bool true) rfl (fun _ => by rfl) ?_
          try simp only [Act.put, List.setIfInBounds_toArray, List.set_cons_zero, List.set_cons_succ]
          refine hk_done (by kernel_rfl) ?_
          go_wp2_with fail
          go_ret
          have hv2 := validT_no2 (ws := ws) (heldOk_no (by rw [← HNh.out]; exact hlt) (heldAt_bad1 HX.out hv))
          exact ⟨ret_bool hv2.symm, HS.out.isExt⟩
        | true =>
          cases i with
          | zero =>
            refine hg_begin [(b4, 29, [.int .i64 x.tx, .int .i64 x.page, .int .i64 x.slot, .int .i64 x.mode]), (b1, 25, [.slice (some ⟨g, off, none⟩) nh cph, .slice aow nw cpw])] HS (by kernel_rfl) ?_
            clear HS; intro w HS
            refine hg_loads 0 (some 23) rfl rfl (by kernel_rfl) (by kernel_rfl) (by kernel_rfl) (fun _ _ _ _ h => h) HS (by simp) rfl 29 _ rfl 0 _ _ _ rfl 0 rfl 4 sh29 [.int .i64 x.tx, .int .i64 x.page, .int .i64 x.slot, .int .i64 x.mode] rfl ⟨rfl, rfl, rfl, rfl, trivial⟩ ?_
            try simp only [Act.put, List.setIfInBounds_toArray, List.set_cons_zero, List.set_cons_succ]
            refine hk_x1 1 (by kernel_rfl) ?_
            refine hg_call 1 (some 24) rfl rfl rfl HS (by simp) 40 _ _ rfl Tryz.func40 (by kernel_rfl) rfl _ (fun v => v = .bool true) ((lk_validG x _).mono (fun e w1 h => by obtain ⟨rfl, hx⟩ := h; exact ⟨_, rfl, by rw [hv], HS.out.ext hx⟩)) rfl ?_
            clear HS; rintro _ w rfl HS
            try simp only [Act.put, List.setIfInBounds_toArray, List.set_cons_zero, List.set_cons_succ]
            refine hg_reg 2 (some 25) rfl rfl (by kernel_rfl) (by kernel_rfl) (by kernel_rfl) (fun _ _ _ _ h => h) HS (by simp) (.bool false) rfl (fun _ => by go_simp) ?_
            try simp only [Act.put, List.setIfInBounds_toArray, List.set_cons_zero, List.set_cons_succ]
            refine hg_reg 3 (some 26) rfl rfl (by kernel_rfl) (by kernel_rfl) (by kernel_rfl) (fun _ _ _ _ h => h) HS (by simp) (.bool false) rfl (fun _ => by rfl) ?_
            try simp only [Act.put, List.setIfInBounds_toArray, List.set_cons_zero, List.set_cons_succ]
            refine hg_reg 4 (some 27) rfl rfl (by kernel_rfl) (by kernel_rfl) (by kernel_rfl) (fun _ _ _ _ h => h) HS (by simp) (.int .i64 ((0 : Nat) : Int)) rfl (fun _ => by rfl) ?_
            try simp only [Act.put, List.setIfInBounds_toArray, List.set_cons_zero, List.set_cons_succ]
            refine hg_reg 5 (some 28) rfl rfl (by kernel_rfl) (by kernel_rfl) (by kernel_rfl) (fun _ _ _ _ h => h) HS (by simp) (.bool false) rfl (fun _ => by go_simp) ?_
            try simp only [Act.put, List.setIfInBounds_toArray, List.set_cons_zero, List.set_cons_succ]
            refine hg_reg 6 (some 29) rfl rfl (by kernel_rfl) (by kernel_rfl) (by kernel_rfl) (fun _ _ _ _ h => h) HS (by simp) (.bool false) rfl (fun _ => by rfl) ?_
            try simp only [Act.put, List.setIfInBounds_toArray, List.set_cons_zero, List.set_cons_succ]
            refine hg_skip 7 (some 30) rfl rfl (by kernel_rfl) (by kernel_rfl) (by kernel_rfl) (fun _ _ _ _ h => h) HS (by simp) rfl ?_
            try simp only [Act.put, List.setIfInBounds_toArray, List.set_cons_zero, List.set_cons_succ]
            refine hg_skip 8 (some 31) rfl rfl (by kernel_rfl) (by kernel_rfl) (by kernel_rfl) (fun _ _ _ _ h => h) HS (by simp) rfl ?_
            try simp only [Act.put, List.setIfInBounds_toArray, List.set_cons_zero, List.set_cons_succ]
            refine hg_skip 9 (some 32) rfl rfl (by kernel_rfl) (by kernel_rfl) (by kernel_rfl) (fun _ _ _ _ h => h) HS (by simp) rfl ?_
            try simp only [Act.put, List.setIfInBounds_toArray, List.set_cons_zero, List.set_cons_succ]
            refine hg_skip 10 (some 33) rfl rfl (by kernel_rfl) (by kernel_rfl) (by kernel_rfl) (fun _ _ _ _ h => h) HS (by simp) rfl ?_
            try simp only [Act.put, List.setIfInBounds_toArray, List.set_cons_zero, List.set_cons_succ]
            refine hg_skip 11 (some 34) rfl rfl (by kernel_rfl) (by kernel_rfl) (by kernel_rfl) (fun _ _ _ _ h => h) HS (by simp) rfl ?_
            try simp only [Act.put, List.setIfInBounds_toArray, List.set_cons_zero, List.set_cons_succ]
            refine hg_skip 12 (some 35) rfl rfl (by kernel_rfl) (by kernel_rfl) (by kernel_rfl) (fun _ _ _ _ h => h) HS (by simp) rfl ?_
            try simp only [Act.put, List.setIfInBounds_toArray, List.set_cons_zero, List.set_cons_succ]
            refine hg_skip 13 (some 36) rfl rfl (by kernel_rfl) (by kernel_rfl) (by kernel_rfl) (fun _ _ _ _ h => h) HS (by simp) rfl ?_
            try simp only [Act.put, List.setIfInBounds_toArray, List.set_cons_zero, List.set_cons_succ]
            refine hg_skip 14 (some 37) rfl rfl (by kernel_rfl) (by kernel_rfl) (by kernel_rfl) (fun _ _ _ _ h => h) HS (by simp) rfl ?_
            try simp only [Act.put, List.setIfInBounds_toArray, List.set_cons_zero, List.set_cons_succ]
            refine hg_skip 15 (some 38) rfl rfl (by kernel_rfl) (by kernel_rfl) (by kernel_rfl) (fun _ _ _ _ h => h) HS (by simp) rfl ?_
            try simp only [Act.put, List.setIfInBounds_toArray, List.set_cons_zero, List.set_cons_succ]
            refine hg_skip 16 (some 39) rfl rfl (by kernel_rfl) (by kernel_rfl) (by kernel_rfl) (fun _ _ _ _ h => h) HS (by simp) rfl ?_
            try simp only [Act.put, List.setIfInBounds_toArray, List.set_cons_zero, List.set_cons_succ]
            refine hg_skip 17 (some 40) rfl rfl (by kernel_rfl) (by kernel_rfl) (by kernel_rfl) (fun _ _ _ _ h => h) HS (by simp) rfl ?_
            try simp only [Act.put, List.setIfInBounds_toArray, List.set_cons_zero, List.set_cons_succ]
            refine hg_skip 18 (some 41) rfl rfl (by kernel_rfl) (by kernel_rfl) (by kernel_rfl) (fun _ _ _ _ h => h) HS (by simp) rfl ?_
            try simp only [Act.put, List.setIfInBounds_toArray, List.set_cons_zero, List.set_cons_succ]
            refine hg_skip 19 (some 42) rfl rfl (by kernel_rfl) (by kernel_rfl) (by kernel_rfl) (fun _ _ _ _ h => h) HS (by simp) rfl ?_
            try simp only [Act.put, List.setIfInBounds_toArray, List.set_cons_zero, List.set_cons_succ]
            refine hg_skip 20 (some 43) rfl rfl (by kernel_rfl) (by kernel_rfl) (by kernel_rfl) (fun _ _ _ _ h => h) HS (by simp) rfl ?_
            try simp only [Act.put, List.setIfInBounds_toArray, List.set_cons_zero, List.set_cons_succ]
            refine hg_skip 21 (some 44) rfl rfl (by kernel_rfl) (by kernel_rfl) (by kernel_rfl) (fun _ _ _ _ h => h) HS (by simp) rfl ?_
            try simp only [Act.put, List.setIfInBounds_toArray, List.set_cons_zero, List.set_cons_succ]
            refine hg_skip 22 (some 45) rfl rfl (by kernel_rfl) (by kernel_rfl) (by kernel_rfl) (fun _ _ _ _ h => h) HS (by simp) rfl ?_
            try simp only [Act.put, List.setIfInBounds_toArray, List.set_cons_zero, List.set_cons_succ]
            refine hg_skip 23 (some 46) rfl rfl (by kernel_rfl) (by kernel_rfl) (by kernel_rfl) (fun _ _ _ _ h => h) HS (by simp) rfl ?_
            try simp only [Act.put, List.setIfInBounds_toArray, List.set_cons_zero, List.set_cons_succ]
            refine hg_skip 24 (some 47) rfl rfl (by kernel_rfl) (by kernel_rfl) (by kernel_rfl) (fun _ _ _ _ h => h) HS (by simp) rfl ?_
            try simp only [Act.put, List.setIfInBounds_toArray, List.set_cons_zero, List.set_cons_succ]
            refine hg_skip 25 (some 48) rfl rfl (by kernel_rfl) (by kernel_rfl) (by kernel_rfl) (fun _ _ _ _ h => h) HS (by simp) rfl ?_
            try simp only [Act.put, List.setIfInBounds_toArray, List.set_cons_zero, List.set_cons_succ]
            refine hg_reg 26 (some 49) rfl rfl (by kernel_rfl) (by kernel_rfl) (by kernel_rfl) (fun _ _ _ _ h => h) HS (by simp) (.bool false) rfl (fun _ => by rfl) ?_
            try simp only [Act.put, List.setIfInBounds_toArray, List.set_cons_zero, List.set_cons_succ]
            refine hg_reg 27 (some 50) rfl rfl (by kernel_rfl) (by kernel_rfl) (by kernel_rfl) (fun _ _ _ _ h => h) HS (by simp) (.bool false) rfl (fun _ => by rfl) ?_
            try simp only [Act.put, List.setIfInBounds_toArray, List.set_cons_zero, List.set_cons_succ]
            refine hk_done (by kernel_rfl) ?_
            have HI2 := Lib.hid (all_next HI.out (heldAt_zero HX.out hv))
            replace HS := Lib.hid (HS.out.drop 1)
            clear hv
            go_wp2_with fail
            go_roundw
            case rel => exact ⟨1, by omega, by go_num, HI2.out, HS⟩
            case measure => simp [intOf]; omega
          | succ k =>
            obtain ⟨y, hy⟩ := list_get_of_lt hs k nh HNh.out.symm (by omega)
            have HCY := Lib.hid (HCL.out k y hy)
            have HY := Lib.hid hy
            clear hy
            have hkn : k < nh := by omega
            by_cases hord : 0 ≤ ordI y x
            · skip
              refine hg_begin [(b4, 29, [.int .i64 x.tx, .int .i64 x.page, .int .i64 x.slot, .int .i64 x.mode]), (b1, 25, [.slice (some ⟨g, off, none⟩) nh cph, .slice aow nw cpw])] HS (by kernel_rfl) ?_
              clear HS; intro w HS
              refine hg_loads 0 (some 23) rfl rfl (by kernel_rfl) (by kernel_rfl) (by kernel_rfl) (fun _ _ _ _ h => h) HS (by simp) rfl 29 _ rfl 0 _ _ _ rfl 0 rfl 4 sh29 [.int .i64 x.tx, .int .i64 x.page, .int .i64 x.slot, .int .i64 x.mode] rfl ⟨rfl, rfl, rfl, rfl, trivial⟩ ?_
              try simp only [Act.put, List.setIfInBounds_toArray, List.set_cons_zero, List.set_cons_succ]
              refine hk_x1 1 (by kernel_rfl) ?_
              refine hg_call 1 (some 24) rfl rfl rfl HS (by simp) 40 _ _ rfl Tryz.func40 (by kernel_rfl) rfl _ (fun v => v = .bool true) ((lk_validG x _).mono (fun e w1 h => by obtain ⟨rfl, hx⟩ := h; exact ⟨_, rfl, by rw [hv], HS.out.ext hx⟩)) rfl ?_
              clear HS; rintro _ w rfl HS
              try simp only [Act.put, List.setIfInBounds_toArray, List.set_cons_zero, List.set_cons_succ]
              refine hg_reg 2 (some 25) rfl rfl (by kernel_rfl) (by kernel_rfl) (by kernel_rfl) (fun _ _ _ _ h => h) HS (by simp) (.bool false) rfl (fun _ => by go_simp) ?_
              try simp only [Act.put, List.setIfInBounds_toArray, List.set_cons_zero, List.set_cons_succ]
              refine hg_reg 3 (some 26) rfl rfl (by kernel_rfl) (by kernel_rfl) (by kernel_rfl) (fun _ _ _ _ h => h) HS (by simp) (.bool false) rfl (fun _ => by rfl) ?_
              try simp only [Act.put, List.setIfInBounds_toArray, List.set_cons_zero, List.set_cons_succ]
              refine hg_reg 4 (some 27) rfl rfl (by kernel_rfl) (by kernel_rfl) (by kernel_rfl) (fun _ _ _ _ h => h) HS (by simp) (.int .i64 ((k : Int) + 1)) rfl (fun _ => by rfl) ?_
              try simp only [Act.put, List.setIfInBounds_toArray, List.set_cons_zero, List.set_cons_succ]
              refine hg_reg 5 (some 28) rfl rfl (by kernel_rfl) (by kernel_rfl) (by kernel_rfl) (fun _ _ _ _ h => h) HS (by simp) (.bool true) rfl (fun _ => by go_simp <;> first | assumption | omega | exact IntWalk.i64_in _ (by omega)) ?_
              try simp only [Act.put, List.setIfInBounds_toArray, List.set_cons_zero, List.set_cons_succ]
              refine hg_reg 6 (some 29) rfl rfl (by kernel_rfl) (by kernel_rfl) (by kernel_rfl) (fun _ _ _ _ h => h) HS (by simp) (.bool true) rfl (fun _ => by rfl) ?_
              try simp only [Act.put, List.setIfInBounds_toArray, List.set_cons_zero, List.set_cons_succ]
              refine hg_reg 7 (some 30) rfl rfl (by kernel_rfl) (by kernel_rfl) (by kernel_rfl) (fun _ _ _ _ h => h) HS (by simp) (.pointer (some ⟨b1, 0, none⟩)) rfl (fun _ => by go_simp) ?_
              try simp only [Act.put, List.setIfInBounds_toArray, List.set_cons_zero, List.set_cons_succ]
              refine hg_load 8 (some 31) rfl rfl (by kernel_rfl) (by kernel_rfl) (by kernel_rfl) (fun _ _ _ _ h => h) HS (by simp) rfl 23 _ rfl 1 _ _ _ rfl 0 rfl _ sh23 (.slice (some ⟨g, off, none⟩) nh cph) rfl ?_
              try simp only [Act.put, List.setIfInBounds_toArray, List.set_cons_zero, List.set_cons_succ]
              refine hg_reg 9 (some 32) rfl rfl (by kernel_rfl) (by kernel_rfl) (by kernel_rfl) (fun _ _ _ _ h => h) HS (by simp) (.int .i64 ((k : Int) + 1)) rfl (fun _ => by rfl) ?_
              try simp only [Act.put, List.setIfInBounds_toArray, List.set_cons_zero, List.set_cons_succ]
              refine hg_reg 10 (some 33) rfl rfl (by kernel_rfl) (by kernel_rfl) (by kernel_rfl) (fun _ _ _ _ h => h) HS (by simp) (.int .i64 (k : Int)) rfl (fun _ => by go_simp <;> first | assumption | omega | exact IntWalk.i64_in _ (by omega)) ?_
              try simp only [Act.put, List.setIfInBounds_toArray, List.set_cons_zero, List.set_cons_succ]
              refine hg_reg 11 (some 34) rfl rfl (by kernel_rfl) (by kernel_rfl) (by kernel_rfl) (fun _ _ _ _ h => h) HS (by simp) (.pointer (some ⟨g, off + k * 4, none⟩)) rfl (fun _ => by go_simp) ?_
              try simp only [Act.put, List.setIfInBounds_toArray, List.set_cons_zero, List.set_cons_succ]
              refine hg_loadsC 12 (some 35) rfl rfl (by kernel_rfl) (by kernel_rfl) (by kernel_rfl) (fun _ _ _ _ h => h) HS (by simp) rfl 29 _ rfl g (off + k * 4) rfl 4 sh29 (y.lst) rfl (fun w2 h2 => HCY.out w2 h2.isExt) ?_
              try simp only [Act.put, List.setIfInBounds_toArray, List.set_cons_zero, List.set_cons_succ]
              refine hg_loads 13 (some 36) rfl rfl (by kernel_rfl) (by kernel_rfl) (by kernel_rfl) (fun _ _ _ _ h => h) HS (by simp) rfl 29 _ rfl 0 _ _ _ rfl 0 rfl 4 sh29 [.int .i64 x.tx, .int .i64 x.page, .int .i64 x.slot, .int .i64 x.mode] rfl ⟨rfl, rfl, rfl, rfl, trivial⟩ ?_
              try simp only [Act.put, List.setIfInBounds_toArray, List.set_cons_zero, List.set_cons_succ]
              refine hk_x1 14 (by kernel_rfl) ?_
              refine hg_call 14 (some 37) rfl rfl rfl HS (by simp) 41 _ _ rfl Tryz.func41 (by kernel_rfl) rfl _ (fun v => v = .int .i64 (ordI y x)) ((order_any y x _).mono (fun e w1 h => by obtain ⟨rfl, hx⟩ := h; exact ⟨_, rfl, rfl, HS.out.ext hx⟩)) rfl ?_
              clear HS; rintro _ w rfl HS
              try simp only [Act.put, List.setIfInBounds_toArray, List.set_cons_zero, List.set_cons_succ]
              refine hg_reg 15 (some 38) rfl rfl (by kernel_rfl) (by kernel_rfl) (by kernel_rfl) (fun _ _ _ _ h => h) HS (by simp) (.bool true) rfl (fun _ => by go_simp <;> first | assumption | omega | exact IntWalk.i64_in _ (by omega)) ?_
              try simp only [Act.put, List.setIfInBounds_toArray, List.set_cons_zero, List.set_cons_succ]
              refine hg_reg 16 (some 39) rfl rfl (by kernel_rfl) (by kernel_rfl) (by kernel_rfl) (fun _ _ _ _ h => h) HS (by simp) (.bool true) rfl (fun _ => by rfl) ?_
              try simp only [Act.put, List.setIfInBounds_toArray, List.set_cons_zero, List.set_cons_succ]
              refine hg_skip 17 (some 40) rfl rfl (by kernel_rfl) (by kernel_rfl) (by kernel_rfl) (fun _ _ _ _ h => h) HS (by simp) rfl ?_
              try simp only [Act.put, List.setIfInBounds_toArray, List.set_cons_zero, List.set_cons_succ]
              refine hg_skip 18 (some 41) rfl rfl (by kernel_rfl) (by kernel_rfl) (by kernel_rfl) (fun _ _ _ _ h => h) HS (by simp) rfl ?_
              try simp only [Act.put, List.setIfInBounds_toArray, List.set_cons_zero, List.set_cons_succ]
              refine hg_skip 19 (some 42) rfl rfl (by kernel_rfl) (by kernel_rfl) (by kernel_rfl) (fun _ _ _ _ h => h) HS (by simp) rfl ?_
              try simp only [Act.put, List.setIfInBounds_toArray, List.set_cons_zero, List.set_cons_succ]
              refine hg_skip 20 (some 43) rfl rfl (by kernel_rfl) (by kernel_rfl) (by kernel_rfl) (fun _ _ _ _ h => h) HS (by simp) rfl ?_
              try simp only [Act.put, List.setIfInBounds_toArray, List.set_cons_zero, List.set_cons_succ]
              refine hg_skip 21 (some 44) rfl rfl (by kernel_rfl) (by kernel_rfl) (by kernel_rfl) (fun _ _ _ _ h => h) HS (by simp) rfl ?_
              try simp only [Act.put, List.setIfInBounds_toArray, List.set_cons_zero, List.set_cons_succ]
              refine hg_skip 22 (some 45) rfl rfl (by kernel_rfl) (by kernel_rfl) (by kernel_rfl) (fun _ _ _ _ h => h) HS (by simp) rfl ?_
              try simp only [Act.put, List.setIfInBounds_toArray, List.set_cons_zero, List.set_cons_succ]
              refine hg_skip 23 (some 46) rfl rfl (by kernel_rfl) (by kernel_rfl) (by kernel_rfl) (fun _ _ _ _ h => h) HS (by simp) rfl ?_
              try simp only [Act.put, List.setIfInBounds_toArray, List.set_cons_zero, List.set_cons_succ]
              refine hg_skip 24 (some 47) rfl rfl (by kernel_rfl) (by kernel_rfl) (by kernel_rfl) (fun _ _ _ _ h => h) HS (by simp) rfl ?_
              try simp only [Act.put, List.setIfInBounds_toArray, List.set_cons_zero, List.set_cons_succ]
              refine hg_reg 25 (some 48) rfl rfl (by kernel_rfl) (by kernel_rfl) (by kernel_rfl) (fun _ _ _ _ h => h) HS (by simp) (.bool true) rfl (fun _ => by rfl) ?_
              try simp only [Act.put, List.setIfInBounds_toArray, List.set_cons_zero, List.set_cons_succ]
              refine hg_reg 26 (some 49) rfl rfl (by kernel_rfl) (by kernel_rfl) (by kernel_rfl) (fun _ _ _ _ h => h) HS (by simp) (.bool true) rfl (fun _ => by rfl) ?_
              try simp only [Act.put, List.setIfInBounds_toArray, List.set_cons_zero, List.set_cons_succ]
              refine hg_reg 27 (some 50) rfl rfl (by kernel_rfl) (by kernel_rfl) (by kernel_rfl) (fun _ _ _ _ h => h) HS (by simp) (.bool true) rfl (fun _ => by rfl) ?_
              try simp only [Act.put, List.setIfInBounds_toArray, List.set_cons_zero, List.set_cons_succ]
              refine hk_done (by kernel_rfl) ?_
              go_wp2_with fail
              go_ret
              have hv2 := validT_no2 (ws := ws) (heldOk_no (by rw [← HNh.out]; exact hlt) (heldAt_bad2 HX.out HY.out hord))
              exact ⟨ret_bool hv2.symm, HS.out.isExt⟩
            · have hord2 : ordI y x < 0 := by omega
              cases hcf : conflictB y x with
              | true =>
                refine hg_begin [(b4, 29, [.int .i64 x.tx, .int .i64 x.page, .int .i64 x.slot, .int .i64 x.mode]), (b1, 25, [.slice (some ⟨g, off, none⟩) nh cph, .slice aow nw cpw])] HS (by kernel_rfl) ?_
                clear HS; intro w HS
                refine hg_loads 0 (some 23) rfl rfl (by kernel_rfl) (by kernel_rfl) (by kernel_rfl) (fun _ _ _ _ h => h) HS (by simp) rfl 29 _ rfl 0 _ _ _ rfl 0 rfl 4 sh29 [.int .i64 x.tx, .int .i64 x.page, .int .i64 x.slot, .int .i64 x.mode] rfl ⟨rfl, rfl, rfl, rfl, trivial⟩ ?_
                try simp only [Act.put, List.setIfInBounds_toArray, List.set_cons_zero, List.set_cons_succ]
                refine hk_x1 1 (by kernel_rfl) ?_
                refine hg_call 1 (some 24) rfl rfl rfl HS (by simp) 40 _ _ rfl Tryz.func40 (by kernel_rfl) rfl _ (fun v => v = .bool true) ((lk_validG x _).mono (fun e w1 h => by obtain ⟨rfl, hx⟩ := h; exact ⟨_, rfl, by rw [hv], HS.out.ext hx⟩)) rfl ?_
                clear HS; rintro _ w rfl HS
                try simp only [Act.put, List.setIfInBounds_toArray, List.set_cons_zero, List.set_cons_succ]
                refine hg_reg 2 (some 25) rfl rfl (by kernel_rfl) (by kernel_rfl) (by kernel_rfl) (fun _ _ _ _ h => h) HS (by simp) (.bool false) rfl (fun _ => by go_simp) ?_
                try simp only [Act.put, List.setIfInBounds_toArray, List.set_cons_zero, List.set_cons_succ]
                refine hg_reg 3 (some 26) rfl rfl (by kernel_rfl) (by kernel_rfl) (by kernel_rfl) (fun _ _ _ _ h => h) HS (by simp) (.bool false) rfl (fun _ => by rfl) ?_
                try simp only [Act.put, List.setIfInBounds_toArray, List.set_cons_zero, List.set_cons_succ]
                refine hg_reg 4 (some 27) rfl rfl (by kernel_rfl) (by kernel_rfl) (by kernel_rfl) (fun _ _ _ _ h => h) HS (by simp) (.int .i64 ((k : Int) + 1)) rfl (fun _ => by rfl) ?_
                try simp only [Act.put, List.setIfInBounds_toArray, List.set_cons_zero, List.set_cons_succ]
                refine hg_reg 5 (some 28) rfl rfl (by kernel_rfl) (by kernel_rfl) (by kernel_rfl) (fun _ _ _ _ h => h) HS (by simp) (.bool true) rfl (fun _ => by go_simp <;> first | assumption | omega | exact IntWalk.i64_in _ (by omega)) ?_
                try simp only [Act.put, List.setIfInBounds_toArray, List.set_cons_zero, List.set_cons_succ]
                refine hg_reg 6 (some 29) rfl rfl (by kernel_rfl) (by kernel_rfl) (by kernel_rfl) (fun _ _ _ _ h => h) HS (by simp) (.bool true) rfl (fun _ => by rfl) ?_
                try simp only [Act.put, List.setIfInBounds_toArray, List.set_cons_zero, List.set_cons_succ]
                refine hg_reg 7 (some 30) rfl rfl (by kernel_rfl) (by kernel_rfl) (by kernel_rfl) (fun _ _ _ _ h => h) HS (by simp) (.pointer (some ⟨b1, 0, none⟩)) rfl (fun _ => by go_simp) ?_
                try simp only [Act.put, List.setIfInBounds_toArray, List.set_cons_zero, List.set_cons_succ]
                refine hg_load 8 (some 31) rfl rfl (by kernel_rfl) (by kernel_rfl) (by kernel_rfl) (fun _ _ _ _ h => h) HS (by simp) rfl 23 _ rfl 1 _ _ _ rfl 0 rfl _ sh23 (.slice (some ⟨g, off, none⟩) nh cph) rfl ?_
                try simp only [Act.put, List.setIfInBounds_toArray, List.set_cons_zero, List.set_cons_succ]
                refine hg_reg 9 (some 32) rfl rfl (by kernel_rfl) (by kernel_rfl) (by kernel_rfl) (fun _ _ _ _ h => h) HS (by simp) (.int .i64 ((k : Int) + 1)) rfl (fun _ => by rfl) ?_
                try simp only [Act.put, List.setIfInBounds_toArray, List.set_cons_zero, List.set_cons_succ]
                refine hg_reg 10 (some 33) rfl rfl (by kernel_rfl) (by kernel_rfl) (by kernel_rfl) (fun _ _ _ _ h => h) HS (by simp) (.int .i64 (k : Int)) rfl (fun _ => by go_simp <;> first | assumption | omega | exact IntWalk.i64_in _ (by omega)) ?_
                try simp only [Act.put, List.setIfInBounds_toArray, List.set_cons_zero, List.set_cons_succ]
                refine hg_reg 11 (some 34) rfl rfl (by kernel_rfl) (by kernel_rfl) (by kernel_rfl) (fun _ _ _ _ h => h) HS (by simp) (.pointer (some ⟨g, off + k * 4, none⟩)) rfl (fun _ => by go_simp) ?_
                try simp only [Act.put, List.setIfInBounds_toArray, List.set_cons_zero, List.set_cons_succ]
                refine hg_loadsC 12 (some 35) rfl rfl (by kernel_rfl) (by kernel_rfl) (by kernel_rfl) (fun _ _ _ _ h => h) HS (by simp) rfl 29 _ rfl g (off + k * 4) rfl 4 sh29 (y.lst) rfl (fun w2 h2 => HCY.out w2 h2.isExt) ?_
                try simp only [Act.put, List.setIfInBounds_toArray, List.set_cons_zero, List.set_cons_succ]
                refine hg_loads 13 (some 36) rfl rfl (by kernel_rfl) (by kernel_rfl) (by kernel_rfl) (fun _ _ _ _ h => h) HS (by simp) rfl 29 _ rfl 0 _ _ _ rfl 0 rfl 4 sh29 [.int .i64 x.tx, .int .i64 x.page, .int .i64 x.slot, .int .i64 x.mode] rfl ⟨rfl, rfl, rfl, rfl, trivial⟩ ?_
                try simp only [Act.put, List.setIfInBounds_toArray, List.set_cons_zero, List.set_cons_succ]
                refine hk_x1 14 (by kernel_rfl) ?_
                refine hg_call 14 (some 37) rfl rfl rfl HS (by simp) 41 _ _ rfl Tryz.func41 (by kernel_rfl) rfl _ (fun v => v = .int .i64 (ordI y x)) ((order_any y x _).mono (fun e w1 h => by obtain ⟨rfl, hx⟩ := h; exact ⟨_, rfl, rfl, HS.out.ext hx⟩)) rfl ?_
                clear HS; rintro _ w rfl HS
                try simp only [Act.put, List.setIfInBounds_toArray, List.set_cons_zero, List.set_cons_succ]
                refine hg_reg 15 (some 38) rfl rfl (by kernel_rfl) (by kernel_rfl) (by kernel_rfl) (fun _ _ _ _ h => h) HS (by simp) (.bool false) rfl (fun _ => by go_simp <;> first | assumption | omega | exact IntWalk.i64_in _ (by omega)) ?_
                try simp only [Act.put, List.setIfInBounds_toArray, List.set_cons_zero, List.set_cons_succ]
                refine hg_reg 16 (some 39) rfl rfl (by kernel_rfl) (by kernel_rfl) (by kernel_rfl) (fun _ _ _ _ h => h) HS (by simp) (.bool false) rfl (fun _ => by rfl) ?_
                try simp only [Act.put, List.setIfInBounds_toArray, List.set_cons_zero, List.set_cons_succ]
                refine hg_reg 17 (some 40) rfl rfl (by kernel_rfl) (by kernel_rfl) (by kernel_rfl) (fun _ _ _ _ h => h) HS (by simp) (.pointer (some ⟨b1, 0, none⟩)) rfl (fun _ => by go_simp) ?_
                try simp only [Act.put, List.setIfInBounds_toArray, List.set_cons_zero, List.set_cons_succ]
                refine hg_load 18 (some 41) rfl rfl (by kernel_rfl) (by kernel_rfl) (by kernel_rfl) (fun _ _ _ _ h => h) HS (by simp) rfl 23 _ rfl 1 _ _ _ rfl 0 rfl _ sh23 (.slice (some ⟨g, off, none⟩) nh cph) rfl ?_
                try simp only [Act.put, List.setIfInBounds_toArray, List.set_cons_zero, List.set_cons_succ]
                refine hg_reg 19 (some 42) rfl rfl (by kernel_rfl) (by kernel_rfl) (by kernel_rfl) (fun _ _ _ _ h => h) HS (by simp) (.int .i64 ((k : Int) + 1)) rfl (fun _ => by rfl) ?_
                try simp only [Act.put, List.setIfInBounds_toArray, List.set_cons_zero, List.set_cons_succ]
                refine hg_reg 20 (some 43) rfl rfl (by kernel_rfl) (by kernel_rfl) (by kernel_rfl) (fun _ _ _ _ h => h) HS (by simp) (.int .i64 (k : Int)) rfl (fun _ => by go_simp <;> first | assumption | omega | exact IntWalk.i64_in _ (by omega)) ?_
                try simp only [Act.put, List.setIfInBounds_toArray, List.set_cons_zero, List.set_cons_succ]
                refine hg_reg 21 (some 44) rfl rfl (by kernel_rfl) (by kernel_rfl) (by kernel_rfl) (fun _ _ _ _ h => h) HS (by simp) (.pointer (some ⟨g, off + k * 4, none⟩)) rfl (fun _ => by go_simp) ?_
                try simp only [Act.put, List.setIfInBounds_toArray, List.set_cons_zero, List.set_cons_succ]
                refine hg_loadsC 22 (some 45) rfl rfl (by kernel_rfl) (by kernel_rfl) (by kernel_rfl) (fun _ _ _ _ h => h) HS (by simp) rfl 29 _ rfl g (off + k * 4) rfl 4 sh29 (y.lst) rfl (fun w2 h2 => HCY.out w2 h2.isExt) ?_
                try simp only [Act.put, List.setIfInBounds_toArray, List.set_cons_zero, List.set_cons_succ]
                refine hg_loads 23 (some 46) rfl rfl (by kernel_rfl) (by kernel_rfl) (by kernel_rfl) (fun _ _ _ _ h => h) HS (by simp) rfl 29 _ rfl 0 _ _ _ rfl 0 rfl 4 sh29 [.int .i64 x.tx, .int .i64 x.page, .int .i64 x.slot, .int .i64 x.mode] rfl ⟨rfl, rfl, rfl, rfl, trivial⟩ ?_
                try simp only [Act.put, List.setIfInBounds_toArray, List.set_cons_zero, List.set_cons_succ]
                refine hk_x1 24 (by kernel_rfl) ?_
                refine hg_call 24 (some 47) rfl rfl rfl HS (by simp) 42 _ _ rfl Tryz.func42 (by kernel_rfl) rfl _ (fun v => v = .bool true) ((lk_conflict y x _).mono (fun e w1 h => by obtain ⟨rfl, hx⟩ := h; exact ⟨_, rfl, by rw [hcf], HS.out.ext hx⟩)) rfl ?_
                clear HS; rintro _ w rfl HS
                try simp only [Act.put, List.setIfInBounds_toArray, List.set_cons_zero, List.set_cons_succ]
                refine hg_reg 25 (some 48) rfl rfl (by kernel_rfl) (by kernel_rfl) (by kernel_rfl) (fun _ _ _ _ h => h) HS (by simp) (.bool true) rfl (fun _ => by rfl) ?_
                try simp only [Act.put, List.setIfInBounds_toArray, List.set_cons_zero, List.set_cons_succ]
                refine hg_reg 26 (some 49) rfl rfl (by kernel_rfl) (by kernel_rfl) (by kernel_rfl) (fun _ _ _ _ h => h) HS (by simp) (.bool true) rfl (fun _ => by rfl) ?_
                try simp only [Act.put, List.setIfInBounds_toArray, List.set_cons_zero, List.set_cons_succ]
                refine hg_reg 27 (some 50) rfl rfl (by kernel_rfl) (by kernel_rfl) (by kernel_rfl) (fun _ _ _ _ h => h) HS (by simp) (.bool true) rfl (fun _ => by rfl) ?_
                try simp only [Act.put, List.setIfInBounds_toArray, List.set_cons_zero, List.set_cons_succ]
                refine hk_done (by kernel_rfl) ?_
                go_wp2_with fail
                go_ret
                have hv2 := validT_no2 (ws := ws) (heldOk_no (by rw [← HNh.out]; exact hlt) (heldAt_bad3 HX.out HY.out hcf))
                exact ⟨ret_bool hv2.symm, HS.out.isExt⟩
              | false =>
                refine hg_begin [(b4, 29, [.int .i64 x.tx, .int .i64 x.page, .int .i64 x.slot, .int .i64 x.mode]), (b1, 25, [.slice (some ⟨g, off, none⟩) nh cph, .slice aow nw cpw])] HS (by kernel_rfl) ?_
                clear HS; intro w HS
                refine hg_loads 0 (some 23) rfl rfl (by kernel_rfl) (by kernel_rfl) (by kernel_rfl) (fun _ _ _ _ h => h) HS (by simp) rfl 29 _ rfl 0 _ _ _ rfl 0 rfl 4 sh29 [.int .i64 x.tx, .int .i64 x.page, .int .i64 x.slot, .int .i64 x.mode] rfl ⟨rfl, rfl, rfl, rfl, trivial⟩ ?_
                try simp only [Act.put, List.setIfInBounds_toArray, List.set_cons_zero, List.set_cons_succ]
                refine hk_x1 1 (by kernel_rfl) ?_
                refine hg_call 1 (some 24) rfl rfl rfl HS (by simp) 40 _ _ rfl Tryz.func40 (by kernel_rfl) rfl _ (fun v => v = .bool true) ((lk_validG x _).mono (fun e w1 h => by obtain ⟨rfl, hx⟩ := h; exact ⟨_, rfl, by rw [hv], HS.out.ext hx⟩)) rfl ?_
                clear HS; rintro _ w rfl HS
                try simp only [Act.put, List.setIfInBounds_toArray, List.set_cons_zero, List.set_cons_succ]
                refine hg_reg 2 (some 25) rfl rfl (by kernel_rfl) (by kernel_rfl) (by kernel_rfl) (fun _ _ _ _ h => h) HS (by simp) (.bool false) rfl (fun _ => by go_simp) ?_
                try simp only [Act.put, List.setIfInBounds_toArray, List.set_cons_zero, List.set_cons_succ]
                refine hg_reg 3 (some 26) rfl rfl (by kernel_rfl) (by kernel_rfl) (by kernel_rfl) (fun _ _ _ _ h => h) HS (by simp) (.bool false) rfl (fun _ => by rfl) ?_
                try simp only [Act.put, List.setIfInBounds_toArray, List.set_cons_zero, List.set_cons_succ]
                refine hg_reg 4 (some 27) rfl rfl (by kernel_rfl) (by kernel_rfl) (by kernel_rfl) (fun _ _ _ _ h => h) HS (by simp) (.int .i64 ((k : Int) + 1)) rfl (fun _ => by rfl) ?_
                try simp only [Act.put, List.setIfInBounds_toArray, List.set_cons_zero, List.set_cons_succ]
                refine hg_reg 5 (some 28) rfl rfl (by kernel_rfl) (by kernel_rfl) (by kernel_rfl) (fun _ _ _ _ h => h) HS (by simp) (.bool true) rfl (fun _ => by go_simp <;> first | assumption | omega | exact IntWalk.i64_in _ (by omega)) ?_
                try simp only [Act.put, List.setIfInBounds_toArray, List.set_cons_zero, List.set_cons_succ]
                refine hg_reg 6 (some 29) rfl rfl (by kernel_rfl) (by kernel_rfl) (by kernel_rfl) (fun _ _ _ _ h => h) HS (by simp) (.bool true) rfl (fun _ => by rfl) ?_
                try simp only [Act.put, List.setIfInBounds_toArray, List.set_cons_zero, List.set_cons_succ]
                refine hg_reg 7 (some 30) rfl rfl (by kernel_rfl) (by kernel_rfl) (by kernel_rfl) (fun _ _ _ _ h => h) HS (by simp) (.pointer (some ⟨b1, 0, none⟩)) rfl (fun _ => by go_simp) ?_
                try simp only [Act.put, List.setIfInBounds_toArray, List.set_cons_zero, List.set_cons_succ]
                refine hg_load 8 (some 31) rfl rfl (by kernel_rfl) (by kernel_rfl) (by kernel_rfl) (fun _ _ _ _ h => h) HS (by simp) rfl 23 _ rfl 1 _ _ _ rfl 0 rfl _ sh23 (.slice (some ⟨g, off, none⟩) nh cph) rfl ?_
                try simp only [Act.put, List.setIfInBounds_toArray, List.set_cons_zero, List.set_cons_succ]
                refine hg_reg 9 (some 32) rfl rfl (by kernel_rfl) (by kernel_rfl) (by kernel_rfl) (fun _ _ _ _ h => h) HS (by simp) (.int .i64 ((k : Int) + 1)) rfl (fun _ => by rfl) ?_
                try simp only [Act.put, List.setIfInBounds_toArray, List.set_cons_zero, List.set_cons_succ]
                refine hg_reg 10 (some 33) rfl rfl (by kernel_rfl) (by kernel_rfl) (by kernel_rfl) (fun _ _ _ _ h => h) HS (by simp) (.int .i64 (k : Int)) rfl (fun _ => by go_simp <;> first | assumption | omega | exact IntWalk.i64_in _ (by omega)) ?_
                try simp only [Act.put, List.setIfInBounds_toArray, List.set_cons_zero, List.set_cons_succ]
                refine hg_reg 11 (some 34) rfl rfl (by kernel_rfl) (by kernel_rfl) (by kernel_rfl) (fun _ _ _ _ h => h) HS (by simp) (.pointer (some ⟨g, off + k * 4, none⟩)) rfl (fun _ => by go_simp) ?_
                try simp only [Act.put, List.setIfInBounds_toArray, List.set_cons_zero, List.set_cons_succ]
                refine hg_loadsC 12 (some 35) rfl rfl (by kernel_rfl) (by kernel_rfl) (by kernel_rfl) (fun _ _ _ _ h => h) HS (by simp) rfl 29 _ rfl g (off + k * 4) rfl 4 sh29 (y.lst) rfl (fun w2 h2 => HCY.out w2 h2.isExt) ?_
                try simp only [Act.put, List.setIfInBounds_toArray, List.set_cons_zero, List.set_cons_succ]
                refine hg_loads 13 (some 36) rfl rfl (by kernel_rfl) (by kernel_rfl) (by kernel_rfl) (fun _ _ _ _ h => h) HS (by simp) rfl 29 _ rfl 0 _ _ _ rfl 0 rfl 4 sh29 [.int .i64 x.tx, .int .i64 x.page, .int .i64 x.slot, .int .i64 x.mode] rfl ⟨rfl, rfl, rfl, rfl, trivial⟩ ?_
                try simp only [Act.put, List.setIfInBounds_toArray, List.set_cons_zero, List.set_cons_succ]
                refine hk_x1 14 (by kernel_rfl) ?_
                refine hg_call 14 (some 37) rfl rfl rfl HS (by simp) 41 _ _ rfl Tryz.func41 (by kernel_rfl) rfl _ (fun v => v = .int .i64 (ordI y x)) ((order_any y x _).mono (fun e w1 h => by obtain ⟨rfl, hx⟩ := h; exact ⟨_, rfl, rfl, HS.out.ext hx⟩)) rfl ?_
                clear HS; rintro _ w rfl HS
                try simp only [Act.put, List.setIfInBounds_toArray, List.set_cons_zero, List.set_cons_succ]
                refine hg_reg 15 (some 38) rfl rfl (by kernel_rfl) (by kernel_rfl) (by kernel_rfl) (fun _ _ _ _ h => h) HS (by simp) (.bool false) rfl (fun _ => by go_simp <;> first | assumption | omega | exact IntWalk.i64_in _ (by omega)) ?_
                try simp only [Act.put, List.setIfInBounds_toArray, List.set_cons_zero, List.set_cons_succ]
                refine hg_reg 16 (some 39) rfl rfl (by kernel_rfl) (by kernel_rfl) (by kernel_rfl) (fun _ _ _ _ h => h) HS (by simp) (.bool false) rfl (fun _ => by rfl) ?_
                try simp only [Act.put, List.setIfInBounds_toArray, List.set_cons_zero, List.set_cons_succ]
                refine hg_reg 17 (some 40) rfl rfl (by kernel_rfl) (by kernel_rfl) (by kernel_rfl) (fun _ _ _ _ h => h) HS (by simp) (.pointer (some ⟨b1, 0, none⟩)) rfl (fun _ => by go_simp) ?_
                try simp only [Act.put, List.setIfInBounds_toArray, List.set_cons_zero, List.set_cons_succ]
                refine hg_load 18 (some 41) rfl rfl (by kernel_rfl) (by kernel_rfl) (by kernel_rfl) (fun _ _ _ _ h => h) HS (by simp) rfl 23 _ rfl 1 _ _ _ rfl 0 rfl _ sh23 (.slice (some ⟨g, off, none⟩) nh cph) rfl ?_
                try simp only [Act.put, List.setIfInBounds_toArray, List.set_cons_zero, List.set_cons_succ]
                refine hg_reg 19 (some 42) rfl rfl (by kernel_rfl) (by kernel_rfl) (by kernel_rfl) (fun _ _ _ _ h => h) HS (by simp) (.int .i64 ((k : Int) + 1)) rfl (fun _ => by rfl) ?_
                try simp only [Act.put, List.setIfInBounds_toArray, List.set_cons_zero, List.set_cons_succ]
                refine hg_reg 20 (some 43) rfl rfl (by kernel_rfl) (by kernel_rfl) (by kernel_rfl) (fun _ _ _ _ h => h) HS (by simp) (.int .i64 (k : Int)) rfl (fun _ => by go_simp <;> first | assumption | omega | exact IntWalk.i64_in _ (by omega)) ?_
                try simp only [Act.put, List.setIfInBounds_toArray, List.set_cons_zero, List.set_cons_succ]
                refine hg_reg 21 (some 44) rfl rfl (by kernel_rfl) (by kernel_rfl) (by kernel_rfl) (fun _ _ _ _ h => h) HS (by simp) (.pointer (some ⟨g, off + k * 4, none⟩)) rfl (fun _ => by go_simp) ?_
                try simp only [Act.put, List.setIfInBounds_toArray, List.set_cons_zero, List.set_cons_succ]
                refine hg_loadsC 22 (some 45) rfl rfl (by kernel_rfl) (by kernel_rfl) (by kernel_rfl) (fun _ _ _ _ h => h) HS (by simp) rfl 29 _ rfl g (off + k * 4) rfl 4 sh29 (y.lst) rfl (fun w2 h2 => HCY.out w2 h2.isExt) ?_
                try simp only [Act.put, List.setIfInBounds_toArray, List.set_cons_zero, List.set_cons_succ]
                refine hg_loads 23 (some 46) rfl rfl (by kernel_rfl) (by kernel_rfl) (by kernel_rfl) (fun _ _ _ _ h => h) HS (by simp) rfl 29 _ rfl 0 _ _ _ rfl 0 rfl 4 sh29 [.int .i64 x.tx, .int .i64 x.page, .int .i64 x.slot, .int .i64 x.mode] rfl ⟨rfl, rfl, rfl, rfl, trivial⟩ ?_
                try simp only [Act.put, List.setIfInBounds_toArray, List.set_cons_zero, List.set_cons_succ]
                refine hk_x1 24 (by kernel_rfl) ?_
                refine hg_call 24 (some 47) rfl rfl rfl HS (by simp) 42 _ _ rfl Tryz.func42 (by kernel_rfl) rfl _ (fun v => v = .bool false) ((lk_conflict y x _).mono (fun e w1 h => by obtain ⟨rfl, hx⟩ := h; exact ⟨_, rfl, by rw [hcf], HS.out.ext hx⟩)) rfl ?_
                clear HS; rintro _ w rfl HS
                try simp only [Act.put, List.setIfInBounds_toArray, List.set_cons_zero, List.set_cons_succ]
                refine hg_reg 25 (some 48) rfl rfl (by kernel_rfl) (by kernel_rfl) (by kernel_rfl) (fun _ _ _ _ h => h) HS (by simp) (.bool false) rfl (fun _ => by rfl) ?_
                try simp only [Act.put, List.setIfInBounds_toArray, List.set_cons_zero, List.set_cons_succ]
                refine hg_reg 26 (some 49) rfl rfl (by kernel_rfl) (by kernel_rfl) (by kernel_rfl) (fun _ _ _ _ h => h) HS (by simp) (.bool false) rfl (fun _ => by rfl) ?_
                try simp only [Act.put, List.setIfInBounds_toArray, List.set_cons_zero, List.set_cons_succ]
                refine hg_reg 27 (some 50) rfl rfl (by kernel_rfl) (by kernel_rfl) (by kernel_rfl) (fun _ _ _ _ h => h) HS (by simp) (.bool false) rfl (fun _ => by rfl) ?_
                try simp only [Act.put, List.setIfInBounds_toArray, List.set_cons_zero, List.set_cons_succ]
                refine hk_done (by kernel_rfl) ?_
                have HI2 := Lib.hid (all_next HI.out (heldAt_good HX.out HY.out hv hord2 hcf))
                replace HS := Lib.hid (HS.out.drop 1)
                clear hv hcf
                go_wp2_with fail
                go_roundw
                case rel => exact ⟨k + 1 + 1, by omega, by go_num, HI2.out, HS⟩
                case measure => simp [intOf]; omega
      · have hin : i = nh := by omega
        subst hin
        clear hlt hi
        have HALL : Hid (∀ j, j < hs.length → heldAt hs j = true) := Lib.hid (by have h := HI.out; rwa [HNh.out] at h)
        have HSO : Hid (sortedG hs) := heldAt_sorted HALL.out
        have HOK : Hid (heldOk hs = true) := heldOk_of HALL.out
        clear HI
        go_wp2_with (first | (refine sx_load HS rfl 23 _ rfl 0 _ _ _ rfl 0 rfl _ sh23 (.slice aoh i cph) rfl ?_) | (refine sx_load HS rfl 23 _ rfl 0 _ _ _ rfl 1 rfl _ sh23 (.slice aow nw cpw) rfl ?_))
        obtain ⟨wo, hwo⟩ : ∃ wo : World, wo = wr := ⟨_, rfl⟩
        subst hwo
        go_loopw [55] (fun s wr => ∃ j : Nat, j ≤ nw ∧ s = .int .i64 j ∧ Hid (∀ k, k < j → waitAt hs ws k = true) ∧ Hid (St none default w0 wr [(b1, 25, [.slice aoh i cph, .slice aow nw cpw])])) (fun s _ => nw - (intOf s).toNat)
        case atStart => exact ⟨0, Nat.zero_le _, rfl, (fun j h => absurd h (Nat.not_lt_zero _)), HS⟩
        case round =>
          obtain ⟨j, hj, rfl, HJ, HS2⟩ := hrel
          clear HS
          have HS := HS2
          clear HS2
          by_cases hlt : j < nw
          · obtain ⟨x, hx⟩ := list_get_of_lt ws j nw HNw.out.symm hlt
            obtain ⟨g, off, rfl, hcell⟩ := HATw.out (by omega)
            have HC := Lib.hid (hcell j x hx)
            have HX := Lib.hid hx
            clear hcell hx
            go_wp2_with (first | (refine sx_loadsC rfl 29 _ rfl g (off + j * 4) rfl 4 sh29 x.lst rfl (HC.out _ HS.out.isExt) ?_) | (refine sx_alloc HS rfl 29 rfl _ zr29 ?_; clear HS; intro w b6 HS) | (refine sx_store_all HS rfl 29 _ _ rfl rfl 0 _ _ _ rfl rfl x.lst rfl 4 sh29 rfl rfl rfl ?_; clear HS; intro w HS))
            try simp only [Act.put, List.setIfInBounds_toArray, List.set_cons_zero, List.set_cons_succ]
            replace HS : Hid (St none default w0 w [(b6, 29, [.int .i64 x.tx, .int .i64 x.page, .int .i64 x.slot, .int .i64 x.mode]), (b1, 25, [.slice aoh i cph, .slice (some ⟨g, off, none⟩) nw cpw])]) := HS
            have hmk : modeF hs ⟨x.tx, x.page, x.slot, 0⟩ = modeF hs x := modeF_key hs _ _ rfl rfl rfl
            have HMK := Lib.hid hmk
            clear hmk
            cases hv : validG x with
            | false =>
              refine hg_begin [(b6, 29, [.int .i64 x.tx, .int .i64 x.page, .int .i64 x.slot, .int .i64 x.mode]), (b1, 25, [.slice aoh i cph, .slice (some ⟨g, off, none⟩) nw cpw])] HS (by kernel_rfl) ?_
              clear HS; intro w HS
              refine hg_loads 0 (some 60) rfl rfl (by kernel_rfl) (by kernel_rfl) (by kernel_rfl) (fun _ _ _ _ h => h) HS (by simp) rfl 29 _ rfl 0 _ _ _ rfl 0 rfl 4 sh29 [.int .i64 x.tx, .int .i64 x.page, .int .i64 x.slot, .int .i64 x.mode] rfl ⟨rfl, rfl, rfl, rfl, trivial⟩ ?_
              try simp only [Act.put, List.setIfInBounds_toArray, List.set_cons_zero, List.set_cons_succ]
              refine hk_x1 1 (by kernel_rfl) ?_
              refine hg_call 1 (some 61) rfl rfl rfl HS (by simp) 40 _ _ rfl Tryz.func40 (by kernel_rfl) rfl _ (fun v => v = .bool false) ((lk_validG x _).mono (fun e w1 h => by obtain ⟨rfl, hx⟩ := h; exact ⟨_, rfl, by rw [hv], HS.out.ext hx⟩)) rfl ?_
              clear HS; rintro _ w rfl HS
              try simp only [Act.put, List.setIfInBounds_toArray, List.set_cons_zero, List.set_cons_succ]
              refine hg_reg 2 (some 62) rfl rfl (by kernel_rfl) (by kernel_rfl) (by kernel_rfl) (fun _ _ _ _ h => h) HS (by simp) (.bool true) rfl (fun _ => by go_simp) ?_
              try simp only [Act.put, List.setIfInBounds_toArray, List.set_cons_zero, List.set_cons_succ]
              refine hg_reg 3 (some 63) rfl rfl (by kernel_rfl) (by kernel_rfl) (by kernel_rfl) (fun _ _ _ _ h => h) HS (by simp) (.bool true) rfl (fun _ => by rfl) ?_
              try simp only [Act.put, List.setIfInBounds_toArray, List.set_cons_zero, List.set_cons_succ]
              refine hg_skip 4 (some 64) rfl rfl (by kernel_rfl) (by kernel_rfl) (by kernel_rfl) (fun _ _ _ _ h => h) HS (by simp) rfl ?_
              try simp only [Act.put, List.setIfInBounds_toArray, List.set_cons_zero, List.set_cons_succ]
              refine hg_skip 5 (some 65) rfl rfl (by kernel_rfl) (by kernel_rfl) (by kernel_rfl) (fun _ _ _ _ h => h) HS (by simp) rfl ?_
              try simp only [Act.put, List.setIfInBounds_toArray, List.set_cons_zero, List.set_cons_succ]
              refine hg_skip 6 (some 66) rfl rfl (by kernel_rfl) (by kernel_rfl) (by kernel_rfl) (fun _ _ _ _ h => h) HS (by simp) rfl ?_
              try simp only [Act.put, List.setIfInBounds_toArray, List.set_cons_zero, List.set_cons_succ]
              refine hg_skip 7 (some 67) rfl rfl (by kernel_rfl) (by kernel_rfl) (by kernel_rfl) (fun _ _ _ _ h => h) HS (by simp) rfl ?_
              try simp only [Act.put, List.setIfInBounds_toArray, List.set_cons_zero, List.set_cons_succ]
              refine hg_skip 8 (some 68) rfl rfl (by kernel_rfl) (by kernel_rfl) (by kernel_rfl) (fun _ _ _ _ h => h) HS (by simp) rfl ?_
              try simp only [Act.put, List.setIfInBounds_toArray, List.set_cons_zero, List.set_cons_succ]
              refine hg_skip 9 (some 69) rfl rfl (by kernel_rfl) (by kernel_rfl) (by kernel_rfl) (fun _ _ _ _ h => h) HS (by simp) rfl ?_
              try simp only [Act.put, List.setIfInBounds_toArray, List.set_cons_zero, List.set_cons_succ]
              refine hg_skip 10 (some 70) rfl rfl (by kernel_rfl) (by kernel_rfl) (by kernel_rfl) (fun _ _ _ _ h => h) HS (by simp) rfl ?_
              try simp only [Act.put, List.setIfInBounds_toArray, List.set_cons_zero, List.set_cons_succ]
              refine hg_skip 11 (some 71) rfl rfl (by kernel_rfl) (by kernel_rfl) (by kernel_rfl) (fun _ _ _ _ h => h) HS (by simp) rfl ?_
              try simp only [Act.put, List.setIfInBounds_toArray, List.set_cons_zero, List.set_cons_succ]
              refine hg_skip 12 (some 72) rfl rfl (by kernel_rfl) (by kernel_rfl) (by kernel_rfl) (fun _ _ _ _ h => h) HS (by simp) rfl ?_
              try simp only [Act.put, List.setIfInBounds_toArray, List.set_cons_zero, List.set_cons_succ]
              refine hg_reg 13 (some 73) rfl rfl (by kernel_rfl) (by kernel_rfl) (by kernel_rfl) (fun _ _ _ _ h => h) HS (by simp) (.bool true) rfl (fun _ => by rfl) ?_
              try simp only [Act.put, List.setIfInBounds_toArray, List.set_cons_zero, List.set_cons_succ]
              refine hg_reg 14 (some 74) rfl rfl (by kernel_rfl) (by kernel_rfl) (by kernel_rfl) (fun _ _ _ _ h => h) HS (by simp) (.bool true) rfl (fun _ => by rfl) ?_
              try simp only [Act.put, List.setIfInBounds_toArray, List.set_cons_zero, List.set_cons_succ]
              refine hg_skip 15 (some 75) rfl rfl (by kernel_rfl) (by kernel_rfl) (by kernel_rfl) (fun _ _ _ _ h => h) HS (by simp) rfl ?_
              try simp only [Act.put, List.setIfInBounds_toArray, List.set_cons_zero, List.set_cons_succ]
              refine hg_skip 16 (some 76) rfl rfl (by kernel_rfl) (by kernel_rfl) (by kernel_rfl) (fun _ _ _ _ h => h) HS (by simp) rfl ?_
              try simp only [Act.put, List.setIfInBounds_toArray, List.set_cons_zero, List.set_cons_succ]
              refine hg_skip 17 (some 77) rfl rfl (by kernel_rfl) (by kernel_rfl) (by kernel_rfl) (fun _ _ _ _ h => h) HS (by simp) rfl ?_
              try simp only [Act.put, List.setIfInBounds_toArray, List.set_cons_zero, List.set_cons_succ]
              refine hg_skip 18 (some 78) rfl rfl (by kernel_rfl) (by kernel_rfl) (by kernel_rfl) (fun _ _ _ _ h => h) HS (by simp) rfl ?_
              try simp only [Act.put, List.setIfInBounds_toArray, List.set_cons_zero, List.set_cons_succ]
              refine hg_skip 19 (some 79) rfl rfl (by kernel_rfl) (by kernel_rfl) (by kernel_rfl) (fun _ _ _ _ h => h) HS (by simp) rfl ?_
              try simp only [Act.put, List.setIfInBounds_toArray, List.set_cons_zero, List.set_cons_succ]
              refine hg_skip 20 (some 80) rfl rfl (by kernel_rfl) (by kernel_rfl) (by kernel_rfl) (fun _ _ _ _ h => h) HS (by simp) rfl ?_
              try simp only [Act.put, List.setIfInBounds_toArray, List.set_cons_zero, List.set_cons_succ]
              refine hg_reg 21 (some 81) rfl rfl (by kernel_rfl) (by kernel_rfl) (by kernel_rfl) (fun _ _ _ _ h => h) HS (by simp) (.bool true) rfl (fun _ => by rfl) ?_
              try simp only [Act.put, List.setIfInBounds_toArray, List.set_cons_zero, List.set_cons_succ]
              refine hk_done (by kernel_rfl) ?_
              go_wp2_with fail
              go_ret
              have hv2 := validT_no3 (hs := hs) (waitOk_no (by rw [← HNw.out]; exact hlt) (waitAt_bad1 HX.out hv))
              exact ⟨ret_bool hv2.symm, HS.out.isExt⟩
            | true =>
              by_cases hmd : x.mode ≤ modeF hs ⟨x.tx, x.page, x.slot, 0⟩
              · skip
                refine hg_begin [(b6, 29, [.int .i64 x.tx, .int .i64 x.page, .int .i64 x.slot, .int .i64 x.mode]), (b1, 25, [.slice aoh i cph, .slice (some ⟨g, off, none⟩) nw cpw])] HS (by kernel_rfl) ?_
                clear HS; intro w HS
                refine hg_loads 0 (some 60) rfl rfl (by kernel_rfl) (by kernel_rfl) (by kernel_rfl) (fun _ _ _ _ h => h) HS (by simp) rfl 29 _ rfl 0 _ _ _ rfl 0 rfl 4 sh29 [.int .i64 x.tx, .int .i64 x.page, .int .i64 x.slot, .int .i64 x.mode] rfl ⟨rfl, rfl, rfl, rfl, trivial⟩ ?_
                try simp only [Act.put, List.setIfInBounds_toArray, List.set_cons_zero, List.set_cons_succ]
                refine hk_x1 1 (by kernel_rfl) ?_
                refine hg_call 1 (some 61) rfl rfl rfl HS (by simp) 40 _ _ rfl Tryz.func40 (by kernel_rfl) rfl _ (fun v => v = .bool true) ((lk_validG x _).mono (fun e w1 h => by obtain ⟨rfl, hx⟩ := h; exact ⟨_, rfl, by rw [hv], HS.out.ext hx⟩)) rfl ?_
                clear HS; rintro _ w rfl HS
                try simp only [Act.put, List.setIfInBounds_toArray, List.set_cons_zero, List.set_cons_succ]
                refine hg_reg 2 (some 62) rfl rfl (by kernel_rfl) (by kernel_rfl) (by kernel_rfl) (fun _ _ _ _ h => h) HS (by simp) (.bool false) rfl (fun _ => by go_simp) ?_
                try simp only [Act.put, List.setIfInBounds_toArray, List.set_cons_zero, List.set_cons_succ]
                refine hg_reg 3 (some 63) rfl rfl (by kernel_rfl) (by kernel_rfl) (by kernel_rfl) (fun _ _ _ _ h => h) HS (by simp) (.bool false) rfl (fun _ => by rfl) ?_
                try simp only [Act.put, List.setIfInBounds_toArray, List.set_cons_zero, List.set_cons_succ]
                refine hg_loads 4 (some 64) rfl rfl (by kernel_rfl) (by kernel_rfl) (by kernel_rfl) (fun _ _ _ _ h => h) HS (by simp) rfl 25 _ rfl 1 _ _ _ rfl 0 rfl 2 sh25 [.slice aoh i cph, .slice (some ⟨g, off, none⟩) nw cpw] rfl ⟨rfl, rfl, trivial⟩ ?_
                try simp only [Act.put, List.setIfInBounds_toArray, List.set_cons_zero, List.set_cons_succ]
                refine hg_reg 5 (some 65) rfl rfl (by kernel_rfl) (by kernel_rfl) (by kernel_rfl) (fun _ _ _ _ h => h) HS (by simp) (.pointer (some ⟨b6, 0, none⟩)) rfl (fun _ => by go_simp) ?_
                try simp only [Act.put, List.setIfInBounds_toArray, List.set_cons_zero, List.set_cons_succ]
                refine hg_load 6 (some 66) rfl rfl (by kernel_rfl) (by kernel_rfl) (by kernel_rfl) (fun _ _ _ _ h => h) HS (by simp) rfl 3 _ rfl 0 _ _ _ rfl 0 rfl _ sh3 (.int .i64 x.tx) rfl ?_
                try simp only [Act.put, List.setIfInBounds_toArray, List.set_cons_zero, List.set_cons_succ]
                refine hg_reg 7 (some 67) rfl rfl (by kernel_rfl) (by kernel_rfl) (by kernel_rfl) (fun _ _ _ _ h => h) HS (by simp) (.pointer (some ⟨b6, 1, none⟩)) rfl (fun _ => by go_simp) ?_
                try simp only [Act.put, List.setIfInBounds_toArray, List.set_cons_zero, List.set_cons_succ]
                refine hg_loads 8 (some 68) rfl rfl (by kernel_rfl) (by kernel_rfl) (by kernel_rfl) (fun _ _ _ _ h => h) HS (by simp) rfl 27 _ rfl 0 _ _ _ rfl 1 rfl 2 sh27 [.int .i64 x.page, .int .i64 x.slot] rfl ⟨rfl, rfl, trivial⟩ ?_
                try simp only [Act.put, List.setIfInBounds_toArray, List.set_cons_zero, List.set_cons_succ]
                refine hg_reg 10 (some 70) rfl rfl (by kernel_rfl) (by kernel_rfl) (by kernel_rfl) (fun _ _ _ _ h => h) HS (by simp) (.pointer (some ⟨b6, 3, none⟩)) rfl (fun _ => by go_simp) ?_
                try simp only [Act.put, List.setIfInBounds_toArray, List.set_cons_zero, List.set_cons_succ]
                refine hg_load 11 (some 71) rfl rfl (by kernel_rfl) (by kernel_rfl) (by kernel_rfl) (fun _ _ _ _ h => h) HS (by simp) rfl 3 _ rfl 0 _ _ _ rfl 3 rfl _ sh3 (.int .i64 x.mode) rfl ?_
                try simp only [Act.put, List.setIfInBounds_toArray, List.set_cons_zero, List.set_cons_succ]
                refine hk_x1 9 (by kernel_rfl) ?_
                refine hg_call 9 (some 69) rfl rfl rfl HS (by simp) 43 _ _ rfl Tryz.func43 (by kernel_rfl) rfl _ (fun v => v = .int .i64 (modeF hs ⟨x.tx, x.page, x.slot, 0⟩)) ((lk_mode _ _ _ hs x.tx x.page x.slot (HGh.out.ext HS.out.isExt) (by rw [← HNh.out]; exact hb1) HSO.out rfl).mono (fun e w1 h => by obtain ⟨rfl, hx⟩ := h; exact ⟨_, rfl, rfl, HS.out.ext hx⟩)) rfl ?_
                clear HS; rintro _ w rfl HS
                try simp only [Act.put, List.setIfInBounds_toArray, List.set_cons_zero, List.set_cons_succ]
                refine hg_reg 12 (some 72) rfl rfl (by kernel_rfl) (by kernel_rfl) (by kernel_rfl) (fun _ _ _ _ h => h) HS (by simp) (.bool true) rfl (fun _ => by go_simp <;> first | assumption | omega | exact IntWalk.i64_in _ (by omega)) ?_
                try simp only [Act.put, List.setIfInBounds_toArray, List.set_cons_zero, List.set_cons_succ]
                refine hg_reg 13 (some 73) rfl rfl (by kernel_rfl) (by kernel_rfl) (by kernel_rfl) (fun _ _ _ _ h => h) HS (by simp) (.bool true) rfl (fun _ => by rfl) ?_
                try simp only [Act.put, List.setIfInBounds_toArray, List.set_cons_zero, List.set_cons_succ]
                refine hg_reg 14 (some 74) rfl rfl (by kernel_rfl) (by kernel_rfl) (by kernel_rfl) (fun _ _ _ _ h => h) HS (by simp) (.bool true) rfl (fun _ => by rfl) ?_
                try simp only [Act.put, List.setIfInBounds_toArray, List.set_cons_zero, List.set_cons_succ]
                refine hg_skip 15 (some 75) rfl rfl (by kernel_rfl) (by kernel_rfl) (by kernel_rfl) (fun _ _ _ _ h => h) HS (by simp) rfl ?_
                try simp only [Act.put, List.setIfInBounds_toArray, List.set_cons_zero, List.set_cons_succ]
                refine hg_skip 16 (some 76) rfl rfl (by kernel_rfl) (by kernel_rfl) (by kernel_rfl) (fun _ _ _ _ h => h) HS (by simp) rfl ?_
                try simp only [Act.put, List.setIfInBounds_toArray, List.set_cons_zero, List.set_cons_succ]
                refine hg_skip 17 (some 77) rfl rfl (by kernel_rfl) (by kernel_rfl) (by kernel_rfl) (fun _ _ _ _ h => h) HS (by simp) rfl ?_
                try simp only [Act.put, List.setIfInBounds_toArray, List.set_cons_zero, List.set_cons_succ]
                refine hg_skip 18 (some 78) rfl rfl (by kernel_rfl) (by kernel_rfl) (by kernel_rfl) (fun _ _ _ _ h => h) HS (by simp) rfl ?_
                try simp only [Act.put, List.setIfInBounds_toArray, List.set_cons_zero, List.set_cons_succ]
                refine hg_skip 19 (some 79) rfl rfl (by kernel_rfl) (by kernel_rfl) (by kernel_rfl) (fun _ _ _ _ h => h) HS (by simp) rfl ?_
                try simp only [Act.put, List.setIfInBounds_toArray, List.set_cons_zero, List.set_cons_succ]
                refine hg_skip 20 (some 80) rfl rfl (by kernel_rfl) (by kernel_rfl) (by kernel_rfl) (fun _ _ _ _ h => h) HS (by simp) rfl ?_
                try simp only [Act.put, List.setIfInBounds_toArray, List.set_cons_zero, List.set_cons_succ]
                refine hg_reg 21 (some 81) rfl rfl (by kernel_rfl) (by kernel_rfl) (by kernel_rfl) (fun _ _ _ _ h => h) HS (by simp) (.bool true) rfl (fun _ => by rfl) ?_
                try simp only [Act.put, List.setIfInBounds_toArray, List.set_cons_zero, List.set_cons_succ]
                refine hk_done (by kernel_rfl) ?_
                go_wp2_with fail
                go_ret
                have hv2 := validT_no3 (hs := hs) (waitOk_no (by rw [← HNw.out]; exact hlt) (waitAt_bad2 HX.out (by rw [← HMK.out]; exact hmd)))
                exact ⟨ret_bool hv2.symm, HS.out.isExt⟩
              · have hmd2 : modeF hs ⟨x.tx, x.page, x.slot, 0⟩ < x.mode := by omega
                obtain ⟨sv, hsv⟩ : ∃ sv, sv = sliced (some ⟨g, off, none⟩) 0 j cpw 4 := ⟨_, rfl⟩
                have HSV : Hid (GsAt w0 sv (ws.take j)) := by rw [hsv]; exact HGw.out.take (by omega)
                have HV := Lib.hid hsv
                clear hsv
                cases han : ((ws.take j).any fun z => z.tx == x.tx) with
                | true =>
                  refine hg_begin [(b6, 29, [.int .i64 x.tx, .int .i64 x.page, .int .i64 x.slot, .int .i64 x.mode]), (b1, 25, [.slice aoh i cph, .slice (some ⟨g, off, none⟩) nw cpw])] HS (by kernel_rfl) ?_
                  clear HS; intro w HS
                  refine hg_loads 0 (some 60) rfl rfl (by kernel_rfl) (by kernel_rfl) (by kernel_rfl) (fun _ _ _ _ h => h) HS (by simp) rfl 29 _ rfl 0 _ _ _ rfl 0 rfl 4 sh29 [.int .i64 x.tx, .int .i64 x.page, .int .i64 x.slot, .int .i64 x.mode] rfl ⟨rfl, rfl, rfl, rfl, trivial⟩ ?_
                  try simp only [Act.put, List.setIfInBounds_toArray, List.set_cons_zero, List.set_cons_succ]
                  refine hk_x1 1 (by kernel_rfl) ?_
                  refine hg_call 1 (some 61) rfl rfl rfl HS (by simp) 40 _ _ rfl Tryz.func40 (by kernel_rfl) rfl _ (fun v => v = .bool true) ((lk_validG x _).mono (fun e w1 h => by obtain ⟨rfl, hx⟩ := h; exact ⟨_, rfl, by rw [hv], HS.out.ext hx⟩)) rfl ?_
                  clear HS; rintro _ w rfl HS
                  try simp only [Act.put, List.setIfInBounds_toArray, List.set_cons_zero, List.set_cons_succ]
                  refine hg_reg 2 (some 62) rfl rfl (by kernel_rfl) (by kernel_rfl) (by kernel_rfl) (fun _ _ _ _ h => h) HS (by simp) (.bool false) rfl (fun _ => by go_simp) ?_
                  try simp only [Act.put, List.setIfInBounds_toArray, List.set_cons_zero, List.set_cons_succ]
                  refine hg_reg 3 (some 63) rfl rfl (by kernel_rfl) (by kernel_rfl) (by kernel_rfl) (fun _ _ _ _ h => h) HS (by simp) (.bool false) rfl (fun _ => by rfl) ?_
                  try simp only [Act.put, List.setIfInBounds_toArray, List.set_cons_zero, List.set_cons_succ]
                  refine hg_loads 4 (some 64) rfl rfl (by kernel_rfl) (by kernel_rfl) (by kernel_rfl) (fun _ _ _ _ h => h) HS (by simp) rfl 25 _ rfl 1 _ _ _ rfl 0 rfl 2 sh25 [.slice aoh i cph, .slice (some ⟨g, off, none⟩) nw cpw] rfl ⟨rfl, rfl, trivial⟩ ?_
                  try simp only [Act.put, List.setIfInBounds_toArray, List.set_cons_zero, List.set_cons_succ]
                  refine hg_reg 5 (some 65) rfl rfl (by kernel_rfl) (by kernel_rfl) (by kernel_rfl) (fun _ _ _ _ h => h) HS (by simp) (.pointer (some ⟨b6, 0, none⟩)) rfl (fun _ => by go_simp) ?_
                  try simp only [Act.put, List.setIfInBounds_toArray, List.set_cons_zero, List.set_cons_succ]
                  refine hg_load 6 (some 66) rfl rfl (by kernel_rfl) (by kernel_rfl) (by kernel_rfl) (fun _ _ _ _ h => h) HS (by simp) rfl 3 _ rfl 0 _ _ _ rfl 0 rfl _ sh3 (.int .i64 x.tx) rfl ?_
                  try simp only [Act.put, List.setIfInBounds_toArray, List.set_cons_zero, List.set_cons_succ]
                  refine hg_reg 7 (some 67) rfl rfl (by kernel_rfl) (by kernel_rfl) (by kernel_rfl) (fun _ _ _ _ h => h) HS (by simp) (.pointer (some ⟨b6, 1, none⟩)) rfl (fun _ => by go_simp) ?_
                  try simp only [Act.put, List.setIfInBounds_toArray, List.set_cons_zero, List.set_cons_succ]
                  refine hg_loads 8 (some 68) rfl rfl (by kernel_rfl) (by kernel_rfl) (by kernel_rfl) (fun _ _ _ _ h => h) HS (by simp) rfl 27 _ rfl 0 _ _ _ rfl 1 rfl 2 sh27 [.int .i64 x.page, .int .i64 x.slot] rfl ⟨rfl, rfl, trivial⟩ ?_
                  try simp only [Act.put, List.setIfInBounds_toArray, List.set_cons_zero, List.set_cons_succ]
                  refine hg_reg 10 (some 70) rfl rfl (by kernel_rfl) (by kernel_rfl) (by kernel_rfl) (fun _ _ _ _ h => h) HS (by simp) (.pointer (some ⟨b6, 3, none⟩)) rfl (fun _ => by go_simp) ?_
                  try simp only [Act.put, List.setIfInBounds_toArray, List.set_cons_zero, List.set_cons_succ]
                  refine hg_load 11 (some 71) rfl rfl (by kernel_rfl) (by kernel_rfl) (by kernel_rfl) (fun _ _ _ _ h => h) HS (by simp) rfl 3 _ rfl 0 _ _ _ rfl 3 rfl _ sh3 (.int .i64 x.mode) rfl ?_
                  try simp only [Act.put, List.setIfInBounds_toArray, List.set_cons_zero, List.set_cons_succ]
                  refine hk_x1 9 (by kernel_rfl) ?_
                  refine hg_call 9 (some 69) rfl rfl rfl HS (by simp) 43 _ _ rfl Tryz.func43 (by kernel_rfl) rfl _ (fun v => v = .int .i64 (modeF hs ⟨x.tx, x.page, x.slot, 0⟩)) ((lk_mode _ _ _ hs x.tx x.page x.slot (HGh.out.ext HS.out.isExt) (by rw [← HNh.out]; exact hb1) HSO.out rfl).mono (fun e w1 h => by obtain ⟨rfl, hx⟩ := h; exact ⟨_, rfl, rfl, HS.out.ext hx⟩)) rfl ?_
                  clear HS; rintro _ w rfl HS
                  try simp only [Act.put, List.setIfInBounds_toArray, List.set_cons_zero, List.set_cons_succ]
                  refine hg_reg 12 (some 72) rfl rfl (by kernel_rfl) (by kernel_rfl) (by kernel_rfl) (fun _ _ _ _ h => h) HS (by simp) (.bool false) rfl (fun _ => by go_simp <;> first | assumption | omega | exact IntWalk.i64_in _ (by omega)) ?_
                  try simp only [Act.put, List.setIfInBounds_toArray, List.set_cons_zero, List.set_cons_succ]
                  refine hg_reg 13 (some 73) rfl rfl (by kernel_rfl) (by kernel_rfl) (by kernel_rfl) (fun _ _ _ _ h => h) HS (by simp) (.bool false) rfl (fun _ => by rfl) ?_
                  try simp only [Act.put, List.setIfInBounds_toArray, List.set_cons_zero, List.set_cons_succ]
                  refine hg_reg 14 (some 74) rfl rfl (by kernel_rfl) (by kernel_rfl) (by kernel_rfl) (fun _ _ _ _ h => h) HS (by simp) (.bool false) rfl (fun _ => by rfl) ?_
                  try simp only [Act.put, List.setIfInBounds_toArray, List.set_cons_zero, List.set_cons_succ]
                  refine hg_reg 15 (some 75) rfl rfl (by kernel_rfl) (by kernel_rfl) (by kernel_rfl) (fun _ _ _ _ h => h) HS (by simp) (.pointer (some ⟨b1, 1, none⟩)) rfl (fun _ => by go_simp) ?_
                  try simp only [Act.put, List.setIfInBounds_toArray, List.set_cons_zero, List.set_cons_succ]
                  refine hg_load 16 (some 76) rfl rfl (by kernel_rfl) (by kernel_rfl) (by kernel_rfl) (fun _ _ _ _ h => h) HS (by simp) rfl 23 _ rfl 1 _ _ _ rfl 1 rfl _ sh23 (.slice (some ⟨g, off, none⟩) nw cpw) rfl ?_
                  try simp only [Act.put, List.setIfInBounds_toArray, List.set_cons_zero, List.set_cons_succ]
                  refine hg_reg 17 (some 77) rfl rfl (by kernel_rfl) (by kernel_rfl) (by kernel_rfl) (fun _ _ _ _ h => h) HS (by simp) (.int .i64 (j : Int)) rfl (fun _ => by rfl) ?_
                  try simp only [Act.put, List.setIfInBounds_toArray, List.set_cons_zero, List.set_cons_succ]
                  refine hg_reg 18 (some 78) rfl rfl (by kernel_rfl) (by kernel_rfl) (by kernel_rfl) (fun _ _ _ _ h => h) HS (by simp) (sv) rfl (fun _ => run_sl_hi (n := nw) rfl Tryz.underlying23 (by kernel_rfl) rfl rfl (by omega) HV.out) ?_
                  try simp only [Act.put, List.setIfInBounds_toArray, List.set_cons_zero, List.set_cons_succ]
                  refine hg_reg 19 (some 79) rfl rfl (by kernel_rfl) (by kernel_rfl) (by kernel_rfl) (fun _ _ _ _ h => h) HS (by simp) (.func (.func 45) #[] #[.pointer (some ⟨b6, 0, none⟩)]) rfl (fun _ => by go_simp) ?_
                  try simp only [Act.put, List.setIfInBounds_toArray, List.set_cons_zero, List.set_cons_succ]
                  refine hk_x1 20 (by kernel_rfl) ?_
                  refine hg_call 20 (some 80) rfl rfl rfl HS (by simp) 44 _ _ rfl Tryz.func44 (by kernel_rfl) rfl _ (fun v => v = .bool true) ((containsFunc_any _ sv (ws.take j) ((HSV.out).ext HS.out.isExt) 45 [.pointer (some ⟨b6, 0, none⟩)] (fun z => z.tx == x.tx) ⟨⟨_, Tryz.func45, (by kernel_rfl), (by kernel_rfl)⟩, fun z _ w2 k2 => lk_valid1 z x b6 w2 (k2.pbox (HS.out.box (i := 0) rfl))⟩).mono (fun e w1 h => by obtain ⟨rfl, hx⟩ := h; exact ⟨_, rfl, by rw [han], HS.out.ext hx⟩)) rfl ?_
                  clear HS; rintro _ w rfl HS
                  try simp only [Act.put, List.setIfInBounds_toArray, List.set_cons_zero, List.set_cons_succ]
                  refine hg_reg 21 (some 81) rfl rfl (by kernel_rfl) (by kernel_rfl) (by kernel_rfl) (fun _ _ _ _ h => h) HS (by simp) (.bool true) rfl (fun _ => by rfl) ?_
                  try simp only [Act.put, List.setIfInBounds_toArray, List.set_cons_zero, List.set_cons_succ]
                  refine hk_done (by kernel_rfl) ?_
                  go_wp2_with fail
                  go_ret
                  have hv2 := validT_no3 (hs := hs) (waitOk_no (by rw [← HNw.out]; exact hlt) (waitAt_bad3 HX.out han))
                  exact ⟨ret_bool hv2.symm, HS.out.isExt⟩
                | false =>
                  refine hg_begin [(b6, 29, [.int .i64 x.tx, .int .i64 x.page, .int .i64 x.slot, .int .i64 x.mode]), (b1, 25, [.slice aoh i cph, .slice (some ⟨g, off, none⟩) nw cpw])] HS (by kernel_rfl) ?_
                  clear HS; intro w HS
                  refine hg_loads 0 (some 60) rfl rfl (by kernel_rfl) (by kernel_rfl) (by kernel_rfl) (fun _ _ _ _ h => h) HS (by simp) rfl 29 _ rfl 0 _ _ _ rfl 0 rfl 4 sh29 [.int .i64 x.tx, .int .i64 x.page, .int .i64 x.slot, .int .i64 x.mode] rfl ⟨rfl, rfl, rfl, rfl, trivial⟩ ?_
                  try simp only [Act.put, List.setIfInBounds_toArray, List.set_cons_zero, List.set_cons_succ]
                  refine hk_x1 1 (by kernel_rfl) ?_
                  refine hg_call 1 (some 61) rfl rfl rfl HS (by simp) 40 _ _ rfl Tryz.func40 (by kernel_rfl) rfl _ (fun v => v = .bool true) ((lk_validG x _).mono (fun e w1 h => by obtain ⟨rfl, hx⟩ := h; exact ⟨_, rfl, by rw [hv], HS.out.ext hx⟩)) rfl ?_
                  clear HS; rintro _ w rfl HS
                  try simp only [Act.put, List.setIfInBounds_toArray, List.set_cons_zero, List.set_cons_succ]
                  refine hg_reg 2 (some 62) rfl rfl (by kernel_rfl) (by kernel_rfl) (by kernel_rfl) (fun _ _ _ _ h => h) HS (by simp) (.bool false) rfl (fun _ => by go_simp) ?_
                  try simp only [Act.put, List.setIfInBounds_toArray, List.set_cons_zero, List.set_cons_succ]
                  refine hg_reg 3 (some 63) rfl rfl (by kernel_rfl) (by kernel_rfl) (by kernel_rfl) (fun _ _ _ _ h => h) HS (by simp) (.bool false) rfl (fun _ => by rfl) ?_
                  try simp only [Act.put, List.setIfInBounds_toArray, List.set_cons_zero, List.set_cons_succ]
                  refine hg_loads 4 (some 64) rfl rfl (by kernel_rfl) (by kernel_rfl) (by kernel_rfl) (fun _ _ _ _ h => h) HS (by simp) rfl 25 _ rfl 1 _ _ _ rfl 0 rfl 2 sh25 [.slice aoh i cph, .slice (some ⟨g, off, none⟩) nw cpw] rfl ⟨rfl, rfl, trivial⟩ ?_
                  try simp only [Act.put, List.setIfInBounds_toArray, List.set_cons_zero, List.set_cons_succ]
                  refine hg_reg 5 (some 65) rfl rfl (by kernel_rfl) (by kernel_rfl) (by kernel_rfl) (fun _ _ _ _ h => h) HS (by simp) (.pointer (some ⟨b6, 0, none⟩)) rfl (fun _ => by go_simp) ?_
                  try simp only [Act.put, List.setIfInBounds_toArray, List.set_cons_zero, List.set_cons_succ]
                  refine hg_load 6 (some 66) rfl rfl (by kernel_rfl) (by kernel_rfl) (by kernel_rfl) (fun _ _ _ _ h => h) HS (by simp) rfl 3 _ rfl 0 _ _ _ rfl 0 rfl _ sh3 (.int .i64 x.tx) rfl ?_
                  try simp only [Act.put, List.setIfInBounds_toArray, List.set_cons_zero, List.set_cons_succ]
                  refine hg_reg 7 (some 67) rfl rfl (by kernel_rfl) (by kernel_rfl) (by kernel_rfl) (fun _ _ _ _ h => h) HS (by simp) (.pointer (some ⟨b6, 1, none⟩)) rfl (fun _ => by go_simp) ?_
                  try simp only [Act.put, List.setIfInBounds_toArray, List.set_cons_zero, List.set_cons_succ]
                  refine hg_loads 8 (some 68) rfl rfl (by kernel_rfl) (by kernel_rfl) (by kernel_rfl) (fun _ _ _ _ h => h) HS (by simp) rfl 27 _ rfl 0 _ _ _ rfl 1 rfl 2 sh27 [.int .i64 x.page, .int .i64 x.slot] rfl ⟨rfl, rfl, trivial⟩ ?_
                  try simp only [Act.put, List.setIfInBounds_toArray, List.set_cons_zero, List.set_cons_succ]
                  refine hg_reg 10 (some 70) rfl rfl (by kernel_rfl) (by kernel_rfl) (by kernel_rfl) (fun _ _ _ _ h => h) HS (by simp) (.pointer (some ⟨b6, 3, none⟩)) rfl (fun _ => by go_simp) ?_
                  try simp only [Act.put, List.setIfInBounds_toArray, List.set_cons_zero, List.set_cons_succ]
                  refine hg_load 11 (some 71) rfl rfl (by kernel_rfl) (by kernel_rfl) (by kernel_rfl) (fun _ _ _ _ h => h) HS (by simp) rfl 3 _ rfl 0 _ _ _ rfl 3 rfl _ sh3 (.int .i64 x.mode) rfl ?_
                  try simp only [Act.put, List.setIfInBounds_toArray, List.set_cons_zero, List.set_cons_succ]
                  refine hk_x1 9 (by kernel_rfl) ?_
                  refine hg_call 9 (some 69) rfl rfl rfl HS (by simp) 43 _ _ rfl Tryz.func43 (by kernel_rfl) rfl _ (fun v => v = .int .i64 (modeF hs ⟨x.tx, x.page, x.slot, 0⟩)) ((lk_mode _ _ _ hs x.tx x.page x.slot (HGh.out.ext HS.out.isExt) (by rw [← HNh.out]; exact hb1) HSO.out rfl).mono (fun e w1 h => by obtain ⟨rfl, hx⟩ := h; exact ⟨_, rfl, rfl, HS.out.ext hx⟩)) rfl ?_
                  clear HS; rintro _ w rfl HS
                  try simp only [Act.put, List.setIfInBounds_toArray, List.set_cons_zero, List.set_cons_succ]
                  refine hg_reg 12 (some 72) rfl rfl (by kernel_rfl) (by kernel_rfl) (by kernel_rfl) (fun _ _ _ _ h => h) HS (by simp) (.bool false) rfl (fun _ => by go_simp <;> first | assumption | omega | exact IntWalk.i64_in _ (by omega)) ?_
                  try simp only [Act.put, List.setIfInBounds_toArray, List.set_cons_zero, List.set_cons_succ]
                  refine hg_reg 13 (some 73) rfl rfl (by kernel_rfl) (by kernel_rfl) (by kernel_rfl) (fun _ _ _ _ h => h) HS (by simp) (.bool false) rfl (fun _ => by rfl) ?_
                  try simp only [Act.put, List.setIfInBounds_toArray, List.set_cons_zero, List.set_cons_succ]
                  refine hg_reg 14 (some 74) rfl rfl (by kernel_rfl) (by kernel_rfl) (by kernel_rfl) (fun _ _ _ _ h => h) HS (by simp) (.bool false) rfl (fun _ => by rfl) ?_
                  try simp only [Act.put, List.setIfInBounds_toArray, List.set_cons_zero, List.set_cons_succ]
                  refine hg_reg 15 (some 75) rfl rfl (by kernel_rfl) (by kernel_rfl) (by kernel_rfl) (fun _ _ _ _ h => h) HS (by simp) (.pointer (some ⟨b1, 1, none⟩)) rfl (fun _ => by go_simp) ?_
                  try simp only [Act.put, List.setIfInBounds_toArray, List.set_cons_zero, List.set_cons_succ]
                  refine hg_load 16 (some 76) rfl rfl (by kernel_rfl) (by kernel_rfl) (by kernel_rfl) (fun _ _ _ _ h => h) HS (by simp) rfl 23 _ rfl 1 _ _ _ rfl 1 rfl _ sh23 (.slice (some ⟨g, off, none⟩) nw cpw) rfl ?_
                  try simp only [Act.put, List.setIfInBounds_toArray, List.set_cons_zero, List.set_cons_succ]
                  refine hg_reg 17 (some 77) rfl rfl (by kernel_rfl) (by kernel_rfl) (by kernel_rfl) (fun _ _ _ _ h => h) HS (by simp) (.int .i64 (j : Int)) rfl (fun _ => by rfl) ?_
                  try simp only [Act.put, List.setIfInBounds_toArray, List.set_cons_zero, List.set_cons_succ]
                  refine hg_reg 18 (some 78) rfl rfl (by kernel_rfl) (by kernel_rfl) (by kernel_rfl) (fun _ _ _ _ h => h) HS (by simp) (sv) rfl (fun _ => run_sl_hi (n := nw) rfl Tryz.underlying23 (by kernel_rfl) rfl rfl (by omega) HV.out) ?_
                  try simp only [Act.put, List.setIfInBounds_toArray, List.set_cons_zero, List.set_cons_succ]
                  refine hg_reg 19 (some 79) rfl rfl (by kernel_rfl) (by kernel_rfl) (by kernel_rfl) (fun _ _ _ _ h => h) HS (by simp) (.func (.func 45) #[] #[.pointer (some ⟨b6, 0, none⟩)]) rfl (fun _ => by go_simp) ?_
                  try simp only [Act.put, List.setIfInBounds_toArray, List.set_cons_zero, List.set_cons_succ]
                  refine hk_x1 20 (by kernel_rfl) ?_
                  refine hg_call 20 (some 80) rfl rfl rfl HS (by simp) 44 _ _ rfl Tryz.func44 (by kernel_rfl) rfl _ (fun v => v = .bool false) ((containsFunc_any _ sv (ws.take j) ((HSV.out).ext HS.out.isExt) 45 [.pointer (some ⟨b6, 0, none⟩)] (fun z => z.tx == x.tx) ⟨⟨_, Tryz.func45, (by kernel_rfl), (by kernel_rfl)⟩, fun z _ w2 k2 => lk_valid1 z x b6 w2 (k2.pbox (HS.out.box (i := 0) rfl))⟩).mono (fun e w1 h => by obtain ⟨rfl, hx⟩ := h; exact ⟨_, rfl, by rw [han], HS.out.ext hx⟩)) rfl ?_
                  clear HS; rintro _ w rfl HS
                  try simp only [Act.put, List.setIfInBounds_toArray, List.set_cons_zero, List.set_cons_succ]
                  refine hg_reg 21 (some 81) rfl rfl (by kernel_rfl) (by kernel_rfl) (by kernel_rfl) (fun _ _ _ _ h => h) HS (by simp) (.bool false) rfl (fun _ => by rfl) ?_
                  try simp only [Act.put, List.setIfInBounds_toArray, List.set_cons_zero, List.set_cons_succ]
                  refine hk_done (by kernel_rfl) ?_
                  have HJ2 := Lib.hid (all_next HJ.out (waitAt_good HX.out hv (by rw [← HMK.out]; exact hmd2) han))
                  replace HS := Lib.hid (HS.out.drop 1)
                  clear hv han
                  go_wp2_with fail
                  go_roundw
                  case rel => exact ⟨j + 1, by omega, by go_num, HJ2.out, HS⟩
                  case measure => simp [intOf]; omega
          · have hjn : j = nw := by omega
            subst hjn
            go_wp2_with fail
            go_ret
            exact ⟨ret_bool (validT_yes (by rw [← HNh.out, ← HNw.out]; exact hsum) HOK.out (waitOk_of (by have h := HJ.out; rwa [HNw.out] at h))).symm, HS.out.isExt⟩
  · have d0 : decide (1024 < ((nh : Int) + (nw : Int))) = true := by simp; omega
    go_wp2_with (first | (refine sx_box HS rfl _ _ rfl [.slice aoh nh cph, .slice aow nw cpw] rfl ?_; clear HS; intro w b1 HS) | (refine sx_load HS rfl 23 _ rfl 0 _ _ _ rfl 0 rfl _ sh23 (.slice aoh nh cph) rfl ?_) | (refine sx_load HS rfl 23 _ rfl 0 _ _ _ rfl 1 rfl _ sh23 (.slice aow nw cpw) rfl ?_))
    go_ret
    exact ⟨ret_bool (validT_no1 (by rw [← HNh.out, ← HNw.out]; exact hsum)).symm, HS.out.isExt⟩
end Go.Proofs.YtnfkplohpjfocaaGreat
