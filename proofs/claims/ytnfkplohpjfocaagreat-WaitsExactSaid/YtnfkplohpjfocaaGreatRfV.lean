/-
  The contract of pagemendref08.Valid.
-/
import Derived.Test.YtnfkplohpjfocaaGreatRfA
set_option linter.unusedVariables false
set_option linter.unusedSimpArgs false
namespace Go.Proofs.YtnfkplohpjfocaaGreat
open Go.RowKit
section
variable {hs ws : List G} {i : Nat} {x y : G}
theorem refValid_no1 (h : ¬ hs.length + ws.length ≤ 1024) : refValid hs ws = false := by simp [refValid, h]
theorem refValid_no2 (hi : i < hs.length) (h : refHeldAt hs i = false) : refValid hs ws = false := by
  have : (List.range hs.length).all (refHeldAt hs) = false := by rw [List.all_eq_false]; exact ⟨i, by simpa using hi, by simp [h]⟩
  simp [refValid, this]
theorem refValid_no3 (h : waitOk hs ws = false) : refValid hs ws = false := by simp [refValid, h]
theorem refValid_yes (h1 : hs.length + ws.length ≤ 1024) (h2 : ∀ j, j < hs.length → refHeldAt hs j = true) (h3 : waitOk hs ws = true) : refValid hs ws = true := by
  have : (List.range hs.length).all (refHeldAt hs) = true := by rw [List.all_eq_true]; intro j hj; exact h2 j (by simpa using hj)
  simp [refValid, h1, this, h3]
theorem refHeldAt_bad1 (hx : hs[i]? = some x) (h : validG x = false) : refHeldAt hs i = false := by unfold refHeldAt; rw [hx]; simp [h]
theorem refHeldAt_bad2 (hx : hs[i + 1]? = some x) (hy : hs[i]? = some y) (h : ltB y x = false) : refHeldAt hs (i + 1) = false := by unfold refHeldAt; rw [hx]; simp [hy, h]
theorem refHeldAt_bad3 (hx : hs[i]? = some x) (h : backF hs x i = false) : refHeldAt hs i = false := by unfold refHeldAt; rw [hx]; simp [h]
theorem refHeldAt_zero (hx : hs[0]? = some x) (h : validG x = true) : refHeldAt hs 0 = true := by unfold refHeldAt; rw [hx]; simp [h, backF]
theorem refHeldAt_good (hx : hs[i + 1]? = some x) (hy : hs[i]? = some y) (h0 : validG x = true) (h1 : ltB y x = true) (h : backF hs x (i + 1) = true) : refHeldAt hs (i + 1) = true := by unfold refHeldAt; rw [hx]; simp [hy, h, h0, h1]
theorem back_other {k : Nat} (hy : hs[k]? = some y) (h : sameLock y x = false) : backF hs x (k + 1) = true := by unfold backF; rw [hy]; simp [h]
theorem back_bad {k : Nat} (hy : hs[k]? = some y) (h : sameLock y x = true) (hc : conflictB y x = true) : backF hs x (k + 1) = false := by unfold backF; rw [hy]; simp [h, hc]
theorem back_on {k : Nat} (hy : hs[k]? = some y) (h : sameLock y x = true) (hc : conflictB y x = false) : backF hs x (k + 1) = backF hs x k := by conv => lhs; unfold backF; rw [hy]; simp [h, hc]
theorem any_none {k : Nat} {tx : Int} (h : ∀ (m : Nat) (z : G), m < k → ws[m]? = some z → (z.tx == tx) = false) : ((ws.take k).any fun z => z.tx == tx) = false := by
  rw [List.any_eq_false]
  intro z hz
  obtain ⟨m, hm⟩ := List.mem_iff_getElem?.1 hz
  have hlt := (List.getElem?_eq_some_iff.1 hm).1
  rw [List.length_take] at hlt
  rw [List.getElem?_take, if_pos (by omega)] at hm
  simp [h m z (by omega) hm]
theorem any_some {k m : Nat} {tx : Int} {z : G} (hm : m < k) (hz : ws[m]? = some z) (h : (z.tx == tx) = true) : ((ws.take k).any fun z => z.tx == tx) = true := by
  rw [List.any_eq_true]
  exact ⟨z, List.mem_iff_getElem?.2 ⟨m, by rw [List.getElem?_take, if_pos hm]; exact hz⟩, h⟩
end
set_option maxHeartbeats 8000000 in
set_option maxRecDepth 100000 in
theorem rf_valid (w0 : World) (vh vw : Value) (hs ws : List G) (h1 : GsAt w0 vh hs) (h2 : GsAt w0 vw ws) (hb1 : hs.length ≤ 1000000) (hb2 : ws.length ≤ 1000000) : Calls Tryz.prog 34 #[.agg #[vh, vw]] w0 fun e w' => e = .returned (.bool (refValid hs ws)) ∧ Ext w0 w' := by
  obtain ⟨aoh, cph, rfl, hch1, hch2, hath⟩ := h1.get
  have HGh := Lib.hid h1
  obtain ⟨nh, hnh⟩ : ∃ n, n = hs.length := ⟨_, rfl⟩
  rw [← hnh] at hch1 hath HGh hb1 ⊢
  have HNh := Lib.hid hnh
  have HATh := Lib.hid hath
  clear hnh hath h1
  obtain ⟨aow, cpw, rfl, hcw1, hcw2, hatw⟩ := h2.get
  have HGw := Lib.hid h2
  obtain ⟨nw, hnw⟩ : ∃ n, n = ws.length := ⟨_, rfl⟩
  rw [← hnw] at hcw1 hatw HGw hb2 ⊢
  have HNw := Lib.hid hnw
  have HATw := Lib.hid hatw
  clear hnw hatw h2
  have HS : Hid (St none default w0 w0 []) := St.start w0
  go_enter Tryz.func34, Tryz.ntmps34
  by_cases hsum : nh + nw ≤ 1024
  · skip
    have d0 : decide (1024 < ((nh : Int) + (nw : Int))) = false := by simp; omega
    go_wp2_with (first | (refine sx_box HS rfl 25 (.tmp 0) rfl [.slice aoh nh cph, .slice aow nw cpw] rfl ?_; clear HS; intro w b1 HS) | (refine sx_load HS (by rfl) 23 (.tmp 8) rfl 0 _ _ _ rfl 0 rfl _ sh23 (.slice aoh nh cph) rfl ?_) | (refine sx_load HS (by rfl) 23 (.tmp 11) rfl 0 _ _ _ rfl 1 rfl _ sh23 (.slice aow nw cpw) rfl ?_))
    replace HS : Hid (St none default w0 w [(b1, 25, [.slice aoh nh cph, .slice aow nw cpw])]) := HS
    go_loopw [3] (fun s wr => ∃ i : Nat, i ≤ nh ∧ s = .int .i64 i ∧ Hid (∀ j, j < i → refHeldAt hs j = true) ∧ Hid (St none default w0 wr [(b1, 25, [.slice aoh nh cph, .slice aow nw cpw])])) (fun s _ => nh - (intOf s).toNat)
    case atStart => exact ⟨0, Nat.zero_le _, rfl, (fun j h => absurd h (Nat.not_lt_zero _)), HS⟩
    case round =>
      obtain ⟨i, hi, rfl, HI, HS2⟩ := hrel
      clear HS
      have HS := HS2
      clear HS2
      by_cases hlt : i < nh
      · obtain ⟨x, hx⟩ := list_get_of_lt hs i nh HNh.out.symm hlt
        obtain ⟨g, off, rfl, hcell⟩ := HATh.out (by omega)
        have HCL := Lib.hid hcell
        have HC := Lib.hid (hcell i x hx)
        have HX := Lib.hid hx
        clear hcell hx
        replace HS : Hid (St none default w0 wr [(b1, 25, [.slice (some ⟨g, off, none⟩) nh cph, .slice aow nw cpw])]) := HS
        go_wp2_with (refine sx_load HS (by rfl) 23 (.tmp 17) rfl 0 _ _ _ rfl 0 rfl _ sh23 (.slice (some ⟨g, off, none⟩) nh cph) rfl ?_)
        cases hv : validG x with
        | false =>
          refine hg_begin [(b1, 25, [.slice (some ⟨g, off, none⟩) nh cph, .slice aow nw cpw])] HS (by kernel_rfl) ?_
          clear HS; intro w HS
          refine hg_reg 0 (some 23) rfl rfl (by kernel_rfl) (by kernel_rfl) (by kernel_rfl) (fun _ _ _ _ h => h) HS (by simp) (.pointer (some ⟨b1, 0, none⟩)) rfl (fun _ => by go_simp) ?_
          try simp only [Act.put, List.setIfInBounds_toArray, List.set_cons_zero, List.set_cons_succ]
          refine hg_load 1 (some 24) rfl rfl (by kernel_rfl) (by kernel_rfl) (by kernel_rfl) (fun _ _ _ _ h => h) HS (by simp) rfl 23 _ rfl 0 _ _ _ rfl 0 rfl _ sh23 (.slice (some ⟨g, off, none⟩) nh cph) rfl ?_
          try simp only [Act.put, List.setIfInBounds_toArray, List.set_cons_zero, List.set_cons_succ]
          refine hg_reg 2 (some 25) rfl rfl (by kernel_rfl) (by kernel_rfl) (by kernel_rfl) (fun _ _ _ _ h => h) HS (by simp) (.int .i64 (i : Int)) rfl (fun _ => by rfl) ?_
          try simp only [Act.put, List.setIfInBounds_toArray, List.set_cons_zero, List.set_cons_succ]
          refine hg_reg 3 (some 26) rfl rfl (by kernel_rfl) (by kernel_rfl) (by kernel_rfl) (fun _ _ _ _ h => h) HS (by simp) (.pointer (some ⟨g, off + i * 4, none⟩)) rfl (fun _ => by go_simp <;> (intro h; exact absurd (h (by omega)) (by omega))) ?_
          try simp only [Act.put, List.setIfInBounds_toArray, List.set_cons_zero, List.set_cons_succ]
          refine hg_loadsC 4 (some 27) rfl rfl (by kernel_rfl) (by kernel_rfl) (by kernel_rfl) (fun _ _ _ _ h => h) HS (by simp) rfl 29 _ rfl g (off + i * 4) rfl 4 sh29 (x.lst) rfl (fun w2 h2 => HC.out w2 h2.isExt) ?_
          try simp only [Act.put, List.setIfInBounds_toArray, List.set_cons_zero, List.set_cons_succ]
          refine hk_x1 5 (by kernel_rfl) ?_
          refine hg_call 5 (some 28) rfl rfl rfl HS (by simp) 37 _ _ rfl Tryz.func37 (by kernel_rfl) rfl _ (fun v => v = .bool false) ((rf_grant x _).mono (fun e w1 h => by obtain ⟨rfl, hx⟩ := h; exact ⟨_, rfl, by rw [hv], HS.out.ext hx⟩)) rfl ?_
          clear HS; rintro _ w rfl HS
          try simp only [Act.put, List.setIfInBounds_toArray, List.set_cons_zero, List.set_cons_succ]
          refine hg_reg 6 (some 29) rfl rfl (by kernel_rfl) (by kernel_rfl) (by kernel_rfl) (fun _ _ _ _ h => h) HS (by simp) (.bool true) rfl (fun _ => by go_simp) ?_
          try simp only [Act.put, List.setIfInBounds_toArray, List.set_cons_zero, List.set_cons_succ]
          refine hg_reg 7 (some 30) rfl rfl (by kernel_rfl) (by kernel_rfl) (by kernel_rfl) (fun _ _ _ _ h => h) HS (by simp) (.bool true) rfl (fun _ => by rfl) ?_
          try simp only [Act.put, List.setIfInBounds_toArray, List.set_cons_zero, List.set_cons_succ]
          refine hg_skip 8 (some 31) rfl rfl (by kernel_rfl) (by kernel_rfl) (by kernel_rfl) (fun _ _ _ _ h => h) HS (by simp) rfl ?_
          try simp only [Act.put, List.setIfInBounds_toArray, List.set_cons_zero, List.set_cons_succ]
          refine hg_skip 9 (some 32) rfl rfl (by kernel_rfl) (by kernel_rfl) (by kernel_rfl) (fun _ _ _ _ h => h) HS (by simp) rfl ?_
          try simp only [Act.put, List.setIfInBounds_toArray, List.set_cons_zero, List.set_cons_succ]
          refine hg_skip 10 (some 33) rfl rfl (by kernel_rfl) (by kernel_rfl) (by kernel_rfl) (fun _ _ _ _ h => h) HS (by simp) rfl ?_
          try simp only [Act.put, List.setIfInBounds_toArray, List.set_cons_zero, List.set_cons_succ]
          refine hg_skip 11 (some 34) rfl rfl (by kernel_rfl) (by kernel_rfl) (by kernel_rfl) (fun _ _ _ _ h => h) HS (by simp) rfl ?_
          try simp only [Act.put, List.setIfInBounds_toArray, List.set_cons_zero, List.set_cons_succ]
          refine hg_skip 12 (some 35) rfl rfl (by kernel_rfl) (by kernel_rfl) (by kernel_rfl) (fun _ _ _ _ h => h) HS (by simp) rfl ?_
          try simp only [Act.put, List.setIfInBounds_toArray, List.set_cons_zero, List.set_cons_succ]
          refine hg_skip 13 (some 36) rfl rfl (by kernel_rfl) (by kernel_rfl) (by kernel_rfl) (fun _ _ _ _ h => h) HS (by simp) rfl ?_
          try simp only [Act.put, List.setIfInBounds_toArray, List.set_cons_zero, List.set_cons_succ]
          refine hg_skip 14 (some 37) rfl rfl (by kernel_rfl) (by kernel_rfl) (by kernel_rfl) (fun _ _ _ _ h => h) HS (by simp) rfl ?_
          try simp only [Act.put, List.setIfInBounds_toArray, List.set_cons_zero, List.set_cons_succ]
          refine hg_skip 15 (some 38) rfl rfl (by kernel_rfl) (by kernel_rfl) (by kernel_rfl) (fun _ _ _ _ h => h) HS (by simp) rfl ?_
          try simp only [Act.put, List.setIfInBounds_toArray, List.set_cons_zero, List.set_cons_succ]
          refine hg_skip 16 (some 39) rfl rfl (by kernel_rfl) (by kernel_rfl) (by kernel_rfl) (fun _ _ _ _ h => h) HS (by simp) rfl ?_
          try simp only [Act.put, List.setIfInBounds_toArray, List.set_cons_zero, List.set_cons_succ]
          refine hg_skip 17 (some 40) rfl rfl (by kernel_rfl) (by kernel_rfl) (by kernel_rfl) (fun _ _ _ _ h => h) HS (by simp) rfl ?_
          try simp only [Act.put, List.setIfInBounds_toArray, List.set_cons_zero, List.set_cons_succ]
          refine hg_skip 18 (some 41) rfl rfl (by kernel_rfl) (by kernel_rfl) (by kernel_rfl) (fun _ _ _ _ h => h) HS (by simp) rfl ?_
          try simp only [Act.put, List.setIfInBounds_toArray, List.set_cons_zero, List.set_cons_succ]
          refine hg_skip 19 (some 42) rfl rfl (by kernel_rfl) (by kernel_rfl) (by kernel_rfl) (fun _ _ _ _ h => h) HS (by simp) rfl ?_
          try simp only [Act.put, List.setIfInBounds_toArray, List.set_cons_zero, List.set_cons_succ]
          refine hg_skip 20 (some 43) rfl rfl (by kernel_rfl) (by kernel_rfl) (by kernel_rfl) (fun _ _ _ _ h => h) HS (by simp) rfl ?_
          try simp only [Act.put, List.setIfInBounds_toArray, List.set_cons_zero, List.set_cons_succ]
          refine hg_skip 21 (some 44) rfl rfl (by kernel_rfl) (by kernel_rfl) (by kernel_rfl) (fun _ _ _ _ h => h) HS (by simp) rfl ?_
          try simp only [Act.put, List.setIfInBounds_toArray, List.set_cons_zero, List.set_cons_succ]
          refine hg_skip 22 (some 45) rfl rfl (by kernel_rfl) (by kernel_rfl) (by kernel_rfl) (fun _ _ _ _ h => h) HS (by simp) rfl ?_
          try simp only [Act.put, List.setIfInBounds_toArray, List.set_cons_zero, List.set_cons_succ]
          refine hg_skip 23 (some 46) rfl rfl (by kernel_rfl) (by kernel_rfl) (by kernel_rfl) (fun _ _ _ _ h => h) HS (by simp) rfl ?_
          try simp only [Act.put, List.setIfInBounds_toArray, List.set_cons_zero, List.set_cons_succ]
          refine hg_skip 24 (some 47) rfl rfl (by kernel_rfl) (by kernel_rfl) (by kernel_rfl) (fun _ _ _ _ h => h) HS (by simp) rfl ?_
          try simp only [Act.put, List.setIfInBounds_toArray, List.set_cons_zero, List.set_cons_succ]
          refine hg_reg 25 (some 48) rfl rfl (by kernel_rfl) (by kernel_rfl) (by kernel_rfl) (fun _ _ _ _ h => h) HS (by simp) (.bool true) rfl (fun _ => by rfl) ?_
          try simp only [Act.put, List.setIfInBounds_toArray, List.set_cons_zero, List.set_cons_succ]
          refine hk_done (by kernel_rfl) ?_
          go_wp2_with fail
          go_ret
          have hv2 := refValid_no2 (ws := ws) (by rw [← HNh.out]; exact hlt) (refHeldAt_bad1 HX.out hv)
          exact ⟨ret_bool hv2.symm, HS.out.isExt⟩
        | true =>
          cases i with
          | zero =>
            refine hg_begin [(b1, 25, [.slice (some ⟨g, off, none⟩) nh cph, .slice aow nw cpw])] HS (by kernel_rfl) ?_
            clear HS; intro w HS
            refine hg_reg 0 (some 23) rfl rfl (by kernel_rfl) (by kernel_rfl) (by kernel_rfl) (fun _ _ _ _ h => h) HS (by simp) (.pointer (some ⟨b1, 0, none⟩)) rfl (fun _ => by go_simp) ?_
            try simp only [Act.put, List.setIfInBounds_toArray, List.set_cons_zero, List.set_cons_succ]
            refine hg_load 1 (some 24) rfl rfl (by kernel_rfl) (by kernel_rfl) (by kernel_rfl) (fun _ _ _ _ h => h) HS (by simp) rfl 23 _ rfl 0 _ _ _ rfl 0 rfl _ sh23 (.slice (some ⟨g, off, none⟩) nh cph) rfl ?_
            try simp only [Act.put, List.setIfInBounds_toArray, List.set_cons_zero, List.set_cons_succ]
            refine hg_reg 2 (some 25) rfl rfl (by kernel_rfl) (by kernel_rfl) (by kernel_rfl) (fun _ _ _ _ h => h) HS (by simp) (.int .i64 ((0 : Nat) : Int)) rfl (fun _ => by rfl) ?_
            try simp only [Act.put, List.setIfInBounds_toArray, List.set_cons_zero, List.set_cons_succ]
            refine hg_reg 3 (some 26) rfl rfl (by kernel_rfl) (by kernel_rfl) (by kernel_rfl) (fun _ _ _ _ h => h) HS (by simp) (.pointer (some ⟨g, off + 0 * 4, none⟩)) rfl (fun _ => by go_simp <;> (intro h; exact absurd (h (by omega)) (by omega))) ?_
            try simp only [Act.put, List.setIfInBounds_toArray, List.set_cons_zero, List.set_cons_succ]
            refine hg_loadsC 4 (some 27) rfl rfl (by kernel_rfl) (by kernel_rfl) (by kernel_rfl) (fun _ _ _ _ h => h) HS (by simp) rfl 29 _ rfl g (off + 0 * 4) rfl 4 sh29 (x.lst) rfl (fun w2 h2 => HC.out w2 h2.isExt) ?_
            try simp only [Act.put, List.setIfInBounds_toArray, List.set_cons_zero, List.set_cons_succ]
            refine hk_x1 5 (by kernel_rfl) ?_
            refine hg_call 5 (some 28) rfl rfl rfl HS (by simp) 37 _ _ rfl Tryz.func37 (by kernel_rfl) rfl _ (fun v => v = .bool true) ((rf_grant x _).mono (fun e w1 h => by obtain ⟨rfl, hx⟩ := h; exact ⟨_, rfl, by rw [hv], HS.out.ext hx⟩)) rfl ?_
            clear HS; rintro _ w rfl HS
            try simp only [Act.put, List.setIfInBounds_toArray, List.set_cons_zero, List.set_cons_succ]
            refine hg_reg 6 (some 29) rfl rfl (by kernel_rfl) (by kernel_rfl) (by kernel_rfl) (fun _ _ _ _ h => h) HS (by simp) (.bool false) rfl (fun _ => by go_simp) ?_
            try simp only [Act.put, List.setIfInBounds_toArray, List.set_cons_zero, List.set_cons_succ]
            refine hg_reg 7 (some 30) rfl rfl (by kernel_rfl) (by kernel_rfl) (by kernel_rfl) (fun _ _ _ _ h => h) HS (by simp) (.bool false) rfl (fun _ => by rfl) ?_
            try simp only [Act.put, List.setIfInBounds_toArray, List.set_cons_zero, List.set_cons_succ]
            refine hg_reg 8 (some 31) rfl rfl (by kernel_rfl) (by kernel_rfl) (by kernel_rfl) (fun _ _ _ _ h => h) HS (by simp) (.int .i64 ((0 : Nat) : Int)) rfl (fun _ => by rfl) ?_
            try simp only [Act.put, List.setIfInBounds_toArray, List.set_cons_zero, List.set_cons_succ]
            refine hg_reg 9 (some 32) rfl rfl (by kernel_rfl) (by kernel_rfl) (by kernel_rfl) (fun _ _ _ _ h => h) HS (by simp) (.bool false) rfl (fun _ => by go_simp) ?_
            try simp only [Act.put, List.setIfInBounds_toArray, List.set_cons_zero, List.set_cons_succ]
            refine hg_reg 10 (some 33) rfl rfl (by kernel_rfl) (by kernel_rfl) (by kernel_rfl) (fun _ _ _ _ h => h) HS (by simp) (.bool false) rfl (fun _ => by rfl) ?_
            try simp only [Act.put, List.setIfInBounds_toArray, List.set_cons_zero, List.set_cons_succ]
            refine hg_skip 11 (some 34) rfl rfl (by kernel_rfl) (by kernel_rfl) (by kernel_rfl) (fun _ _ _ _ h => h) HS (by simp) rfl ?_
            try simp only [Act.put, List.setIfInBounds_toArray, List.set_cons_zero, List.set_cons_succ]
            refine hg_skip 12 (some 35) rfl rfl (by kernel_rfl) (by kernel_rfl) (by kernel_rfl) (fun _ _ _ _ h => h) HS (by simp) rfl ?_
            try simp only [Act.put, List.setIfInBounds_toArray, List.set_cons_zero, List.set_cons_succ]
            refine hg_skip 13 (some 36) rfl rfl (by kernel_rfl) (by kernel_rfl) (by kernel_rfl) (fun _ _ _ _ h => h) HS (by simp) rfl ?_
            try simp only [Act.put, List.setIfInBounds_toArray, List.set_cons_zero, List.set_cons_succ]
            refine hg_skip 14 (some 37) rfl rfl (by kernel_rfl) (by kernel_rfl) (by kernel_rfl) (fun _ _ _ _ h => h) HS (by simp) rfl ?_
            try simp only [Act.put, List.setIfInBounds_toArray, List.set_cons_zero, List.set_cons_succ]
            refine hg_skip 15 (some 38) rfl rfl (by kernel_rfl) (by kernel_rfl) (by kernel_rfl) (fun _ _ _ _ h => h) HS (by simp) rfl ?_
            try simp only [Act.put, List.setIfInBounds_toArray, List.set_cons_zero, List.set_cons_succ]
            refine hg_skip 16 (some 39) rfl rfl (by kernel_rfl) (by kernel_rfl) (by kernel_rfl) (fun _ _ _ _ h => h) HS (by simp) rfl ?_
            try simp only [Act.put, List.setIfInBounds_toArray, List.set_cons_zero, List.set_cons_succ]
            refine hg_skip 17 (some 40) rfl rfl (by kernel_rfl) (by kernel_rfl) (by kernel_rfl) (fun _ _ _ _ h => h) HS (by simp) rfl ?_
            try simp only [Act.put, List.setIfInBounds_toArray, List.set_cons_zero, List.set_cons_succ]
            refine hg_skip 18 (some 41) rfl rfl (by kernel_rfl) (by kernel_rfl) (by kernel_rfl) (fun _ _ _ _ h => h) HS (by simp) rfl ?_
            try simp only [Act.put, List.setIfInBounds_toArray, List.set_cons_zero, List.set_cons_succ]
            refine hg_skip 19 (some 42) rfl rfl (by kernel_rfl) (by kernel_rfl) (by kernel_rfl) (fun _ _ _ _ h => h) HS (by simp) rfl ?_
            try simp only [Act.put, List.setIfInBounds_toArray, List.set_cons_zero, List.set_cons_succ]
            refine hg_skip 20 (some 43) rfl rfl (by kernel_rfl) (by kernel_rfl) (by kernel_rfl) (fun _ _ _ _ h => h) HS (by simp) rfl ?_
            try simp only [Act.put, List.setIfInBounds_toArray, List.set_cons_zero, List.set_cons_succ]
            refine hg_skip 21 (some 44) rfl rfl (by kernel_rfl) (by kernel_rfl) (by kernel_rfl) (fun _ _ _ _ h => h) HS (by simp) rfl ?_
            try simp only [Act.put, List.setIfInBounds_toArray, List.set_cons_zero, List.set_cons_succ]
            refine hg_skip 22 (some 45) rfl rfl (by kernel_rfl) (by kernel_rfl) (by kernel_rfl) (fun _ _ _ _ h => h) HS (by simp) rfl ?_
            try simp only [Act.put, List.setIfInBounds_toArray, List.set_cons_zero, List.set_cons_succ]
            refine hg_skip 23 (some 46) rfl rfl (by kernel_rfl) (by kernel_rfl) (by kernel_rfl) (fun _ _ _ _ h => h) HS (by simp) rfl ?_
            try simp only [Act.put, List.setIfInBounds_toArray, List.set_cons_zero, List.set_cons_succ]
            refine hg_reg 24 (some 47) rfl rfl (by kernel_rfl) (by kernel_rfl) (by kernel_rfl) (fun _ _ _ _ h => h) HS (by simp) (.bool false) rfl (fun _ => by rfl) ?_
            try simp only [Act.put, List.setIfInBounds_toArray, List.set_cons_zero, List.set_cons_succ]
            refine hg_reg 25 (some 48) rfl rfl (by kernel_rfl) (by kernel_rfl) (by kernel_rfl) (fun _ _ _ _ h => h) HS (by simp) (.bool false) rfl (fun _ => by rfl) ?_
            try simp only [Act.put, List.setIfInBounds_toArray, List.set_cons_zero, List.set_cons_succ]
            refine hk_done (by kernel_rfl) ?_
            have HI2 := Lib.hid (all_next HI.out (refHeldAt_zero HX.out hv))
            clear hv
            go_wp2_with fail
            obtain ⟨wo, hwo⟩ : ∃ wo : World, wo = w := ⟨_, rfl⟩
            subst hwo
            go_loopw [4] (fun s wr => s = .int .i64 (-1) ∧ Hid (St none default w0 wr [(b1, 25, [.slice (some ⟨g, off, none⟩) nh cph, .slice aow nw cpw])])) (fun s _ => 0)
            case atStart => exact ⟨by go_num, HS⟩
            case round =>
              clear HS
              obtain ⟨rfl, HS⟩ := hrel
              go_wp2_with fail
              go_quiet (fail)
              replace HS := Lib.hid (HS.out.drewN nq)
              go_wp2_with fail
              go_roundw
              case rel => exact ⟨1, by omega, by go_num, HI2.out, HS⟩
              case measure => simp [intOf]; omega
          | succ k =>
            obtain ⟨y, hy⟩ := list_get_of_lt hs k nh HNh.out.symm (by omega)
            have HCY := Lib.hid (HCL.out k y hy)
            have HY := Lib.hid hy
            clear hy
            have hkn : k < nh := by omega
            cases hlt2 : ltB y x with
            | false =>
              refine hg_begin [(b1, 25, [.slice (some ⟨g, off, none⟩) nh cph, .slice aow nw cpw])] HS (by kernel_rfl) ?_
              clear HS; intro w HS
              refine hg_reg 0 (some 23) rfl rfl (by kernel_rfl) (by kernel_rfl) (by kernel_rfl) (fun _ _ _ _ h => h) HS (by simp) (.pointer (some ⟨b1, 0, none⟩)) rfl (fun _ => by go_simp) ?_
              try simp only [Act.put, List.setIfInBounds_toArray, List.set_cons_zero, List.set_cons_succ]
              refine hg_load 1 (some 24) rfl rfl (by kernel_rfl) (by kernel_rfl) (by kernel_rfl) (fun _ _ _ _ h => h) HS (by simp) rfl 23 _ rfl 0 _ _ _ rfl 0 rfl _ sh23 (.slice (some ⟨g, off, none⟩) nh cph) rfl ?_
              try simp only [Act.put, List.setIfInBounds_toArray, List.set_cons_zero, List.set_cons_succ]
              refine hg_reg 2 (some 25) rfl rfl (by kernel_rfl) (by kernel_rfl) (by kernel_rfl) (fun _ _ _ _ h => h) HS (by simp) (.int .i64 ((k : Int) + 1)) rfl (fun _ => by rfl) ?_
              try simp only [Act.put, List.setIfInBounds_toArray, List.set_cons_zero, List.set_cons_succ]
              refine hg_reg 3 (some 26) rfl rfl (by kernel_rfl) (by kernel_rfl) (by kernel_rfl) (fun _ _ _ _ h => h) HS (by simp) (.pointer (some ⟨g, off + (k + 1) * 4, none⟩)) rfl (fun _ => by go_simp <;> (intro h; exact absurd (h (by omega)) (by omega))) ?_
              try simp only [Act.put, List.setIfInBounds_toArray, List.set_cons_zero, List.set_cons_succ]
              refine hg_loadsC 4 (some 27) rfl rfl (by kernel_rfl) (by kernel_rfl) (by kernel_rfl) (fun _ _ _ _ h => h) HS (by simp) rfl 29 _ rfl g (off + (k + 1) * 4) rfl 4 sh29 (x.lst) rfl (fun w2 h2 => HC.out w2 h2.isExt) ?_
              try simp only [Act.put, List.setIfInBounds_toArray, List.set_cons_zero, List.set_cons_succ]
              refine hk_x1 5 (by kernel_rfl) ?_
              refine hg_call 5 (some 28) rfl rfl rfl HS (by simp) 37 _ _ rfl Tryz.func37 (by kernel_rfl) rfl _ (fun v => v = .bool true) ((rf_grant x _).mono (fun e w1 h => by obtain ⟨rfl, hx⟩ := h; exact ⟨_, rfl, by rw [hv], HS.out.ext hx⟩)) rfl ?_
              clear HS; rintro _ w rfl HS
              try simp only [Act.put, List.setIfInBounds_toArray, List.set_cons_zero, List.set_cons_succ]
              refine hg_reg 6 (some 29) rfl rfl (by kernel_rfl) (by kernel_rfl) (by kernel_rfl) (fun _ _ _ _ h => h) HS (by simp) (.bool false) rfl (fun _ => by go_simp) ?_
              try simp only [Act.put, List.setIfInBounds_toArray, List.set_cons_zero, List.set_cons_succ]
              refine hg_reg 7 (some 30) rfl rfl (by kernel_rfl) (by kernel_rfl) (by kernel_rfl) (fun _ _ _ _ h => h) HS (by simp) (.bool false) rfl (fun _ => by rfl) ?_
              try simp only [Act.put, List.setIfInBounds_toArray, List.set_cons_zero, List.set_cons_succ]
              refine hg_reg 8 (some 31) rfl rfl (by kernel_rfl) (by kernel_rfl) (by kernel_rfl) (fun _ _ _ _ h => h) HS (by simp) (.int .i64 ((k : Int) + 1)) rfl (fun _ => by rfl) ?_
              try simp only [Act.put, List.setIfInBounds_toArray, List.set_cons_zero, List.set_cons_succ]
              refine hg_reg 9 (some 32) rfl rfl (by kernel_rfl) (by kernel_rfl) (by kernel_rfl) (fun _ _ _ _ h => h) HS (by simp) (.bool true) rfl (fun _ => by go_simp <;> first | assumption | omega | exact IntWalk.i64_in _ (by omega)) ?_
              try simp only [Act.put, List.setIfInBounds_toArray, List.set_cons_zero, List.set_cons_succ]
              refine hg_reg 10 (some 33) rfl rfl (by kernel_rfl) (by kernel_rfl) (by kernel_rfl) (fun _ _ _ _ h => h) HS (by simp) (.bool true) rfl (fun _ => by rfl) ?_
              try simp only [Act.put, List.setIfInBounds_toArray, List.set_cons_zero, List.set_cons_succ]
              refine hg_reg 11 (some 34) rfl rfl (by kernel_rfl) (by kernel_rfl) (by kernel_rfl) (fun _ _ _ _ h => h) HS (by simp) (.pointer (some ⟨b1, 0, none⟩)) rfl (fun _ => by go_simp) ?_
              try simp only [Act.put, List.setIfInBounds_toArray, List.set_cons_zero, List.set_cons_succ]
              refine hg_load 12 (some 35) rfl rfl (by kernel_rfl) (by kernel_rfl) (by kernel_rfl) (fun _ _ _ _ h => h) HS (by simp) rfl 23 _ rfl 0 _ _ _ rfl 0 rfl _ sh23 (.slice (some ⟨g, off, none⟩) nh cph) rfl ?_
              try simp only [Act.put, List.setIfInBounds_toArray, List.set_cons_zero, List.set_cons_succ]
              refine hg_reg 13 (some 36) rfl rfl (by kernel_rfl) (by kernel_rfl) (by kernel_rfl) (fun _ _ _ _ h => h) HS (by simp) (.int .i64 ((k : Int) + 1)) rfl (fun _ => by rfl) ?_
              try simp only [Act.put, List.setIfInBounds_toArray, List.set_cons_zero, List.set_cons_succ]
              refine hg_reg 14 (some 37) rfl rfl (by kernel_rfl) (by kernel_rfl) (by kernel_rfl) (fun _ _ _ _ h => h) HS (by simp) (.int .i64 (k : Int)) rfl (fun _ => by go_simp <;> first | assumption | omega | exact IntWalk.i64_in _ (by omega)) ?_
              try simp only [Act.put, List.setIfInBounds_toArray, List.set_cons_zero, List.set_cons_succ]
              refine hg_reg 15 (some 38) rfl rfl (by kernel_rfl) (by kernel_rfl) (by kernel_rfl) (fun _ _ _ _ h => h) HS (by simp) (.pointer (some ⟨g, off + k * 4, none⟩)) rfl (fun _ => by go_simp) ?_
              try simp only [Act.put, List.setIfInBounds_toArray, List.set_cons_zero, List.set_cons_succ]
              refine hg_loadsC 16 (some 39) rfl rfl (by kernel_rfl) (by kernel_rfl) (by kernel_rfl) (fun _ _ _ _ h => h) HS (by simp) rfl 29 _ rfl g (off + k * 4) rfl 4 sh29 (y.lst) rfl (fun w2 h2 => HCY.out w2 h2.isExt) ?_
              try simp only [Act.put, List.setIfInBounds_toArray, List.set_cons_zero, List.set_cons_succ]
              refine hg_reg 17 (some 40) rfl rfl (by kernel_rfl) (by kernel_rfl) (by kernel_rfl) (fun _ _ _ _ h => h) HS (by simp) (.pointer (some ⟨b1, 0, none⟩)) rfl (fun _ => by go_simp) ?_
              try simp only [Act.put, List.setIfInBounds_toArray, List.set_cons_zero, List.set_cons_succ]
              refine hg_load 18 (some 41) rfl rfl (by kernel_rfl) (by kernel_rfl) (by kernel_rfl) (fun _ _ _ _ h => h) HS (by simp) rfl 23 _ rfl 0 _ _ _ rfl 0 rfl _ sh23 (.slice (some ⟨g, off, none⟩) nh cph) rfl ?_
              try simp only [Act.put, List.setIfInBounds_toArray, List.set_cons_zero, List.set_cons_succ]
              refine hg_reg 19 (some 42) rfl rfl (by kernel_rfl) (by kernel_rfl) (by kernel_rfl) (fun _ _ _ _ h => h) HS (by simp) (.int .i64 ((k : Int) + 1)) rfl (fun _ => by rfl) ?_
              try simp only [Act.put, List.setIfInBounds_toArray, List.set_cons_zero, List.set_cons_succ]
              refine hg_reg 20 (some 43) rfl rfl (by kernel_rfl) (by kernel_rfl) (by kernel_rfl) (fun _ _ _ _ h => h) HS (by simp) (.pointer (some ⟨g, off + (k + 1) * 4, none⟩)) rfl (fun _ => by go_simp <;> (intro h; exact absurd (h (by omega)) (by omega))) ?_
              try simp only [Act.put, List.setIfInBounds_toArray, List.set_cons_zero, List.set_cons_succ]
              refine hg_loadsC 21 (some 44) rfl rfl (by kernel_rfl) (by kernel_rfl) (by kernel_rfl) (fun _ _ _ _ h => h) HS (by simp) rfl 29 _ rfl g (off + (k + 1) * 4) rfl 4 sh29 (x.lst) rfl (fun w2 h2 => HC.out w2 h2.isExt) ?_
              try simp only [Act.put, List.setIfInBounds_toArray, List.set_cons_zero, List.set_cons_succ]
              refine hk_x1 22 (by kernel_rfl) ?_
              refine hg_call 22 (some 45) rfl rfl rfl HS (by simp) 60 _ _ rfl Tryz.func60 (by kernel_rfl) rfl _ (fun v => v = .bool false) ((rf_less y x _).mono (fun e w1 h => by obtain ⟨rfl, hx⟩ := h; exact ⟨_, rfl, by rw [hlt2], HS.out.ext hx⟩)) rfl ?_
              clear HS; rintro _ w rfl HS
              try simp only [Act.put, List.setIfInBounds_toArray, List.set_cons_zero, List.set_cons_succ]
              refine hg_reg 23 (some 46) rfl rfl (by kernel_rfl) (by kernel_rfl) (by kernel_rfl) (fun _ _ _ _ h => h) HS (by simp) (.bool true) rfl (fun _ => by go_simp) ?_
              try simp only [Act.put, List.setIfInBounds_toArray, List.set_cons_zero, List.set_cons_succ]
              refine hg_reg 24 (some 47) rfl rfl (by kernel_rfl) (by kernel_rfl) (by kernel_rfl) (fun _ _ _ _ h => h) HS (by simp) (.bool true) rfl (fun _ => by rfl) ?_
              try simp only [Act.put, List.setIfInBounds_toArray, List.set_cons_zero, List.set_cons_succ]
              refine hg_reg 25 (some 48) rfl rfl (by kernel_rfl) (by kernel_rfl) (by kernel_rfl) (fun _ _ _ _ h => h) HS (by simp) (.bool true) rfl (fun _ => by rfl) ?_
              try simp only [Act.put, List.setIfInBounds_toArray, List.set_cons_zero, List.set_cons_succ]
              refine hk_done (by kernel_rfl) ?_
              go_wp2_with fail
              go_ret
              have hv2 := refValid_no2 (ws := ws) (by rw [← HNh.out]; exact hlt) (refHeldAt_bad2 HX.out HY.out hlt2)
              exact ⟨ret_bool hv2.symm, HS.out.isExt⟩
            | true =>
              refine hg_begin [(b1, 25, [.slice (some ⟨g, off, none⟩) nh cph, .slice aow nw cpw])] HS (by kernel_rfl) ?_
              clear HS; intro w HS
              refine hg_reg 0 (some 23) rfl rfl (by kernel_rfl) (by kernel_rfl) (by kernel_rfl) (fun _ _ _ _ h => h) HS (by simp) (.pointer (some ⟨b1, 0, none⟩)) rfl (fun _ => by go_simp) ?_
              try simp only [Act.put, List.setIfInBounds_toArray, List.set_cons_zero, List.set_cons_succ]
              refine hg_load 1 (some 24) rfl rfl (by kernel_rfl) (by kernel_rfl) (by kernel_rfl) (fun _ _ _ _ h => h) HS (by simp) rfl 23 _ rfl 0 _ _ _ rfl 0 rfl _ sh23 (.slice (some ⟨g, off, none⟩) nh cph) rfl ?_
              try simp only [Act.put, List.setIfInBounds_toArray, List.set_cons_zero, List.set_cons_succ]
              refine hg_reg 2 (some 25) rfl rfl (by kernel_rfl) (by kernel_rfl) (by kernel_rfl) (fun _ _ _ _ h => h) HS (by simp) (.int .i64 ((k : Int) + 1)) rfl (fun _ => by rfl) ?_
              try simp only [Act.put, List.setIfInBounds_toArray, List.set_cons_zero, List.set_cons_succ]
              refine hg_reg 3 (some 26) rfl rfl (by kernel_rfl) (by kernel_rfl) (by kernel_rfl) (fun _ _ _ _ h => h) HS (by simp) (.pointer (some ⟨g, off + (k + 1) * 4, none⟩)) rfl (fun _ => by go_simp <;> (intro h; exact absurd (h (by omega)) (by omega))) ?_
              try simp only [Act.put, List.setIfInBounds_toArray, List.set_cons_zero, List.set_cons_succ]
              refine hg_loadsC 4 (some 27) rfl rfl (by kernel_rfl) (by kernel_rfl) (by kernel_rfl) (fun _ _ _ _ h => h) HS (by simp) rfl 29 _ rfl g (off + (k + 1) * 4) rfl 4 sh29 (x.lst) rfl (fun w2 h2 => HC.out w2 h2.isExt) ?_
              try simp only [Act.put, List.setIfInBounds_toArray, List.set_cons_zero, List.set_cons_succ]
              refine hk_x1 5 (by kernel_rfl) ?_
              refine hg_call 5 (some 28) rfl rfl rfl HS (by simp) 37 _ _ rfl Tryz.func37 (by kernel_rfl) rfl _ (fun v => v = .bool true) ((rf_grant x _).mono (fun e w1 h => by obtain ⟨rfl, hx⟩ := h; exact ⟨_, rfl, by rw [hv], HS.out.ext hx⟩)) rfl ?_
              clear HS; rintro _ w rfl HS
              try simp only [Act.put, List.setIfInBounds_toArray, List.set_cons_zero, List.set_cons_succ]
              refine hg_reg 6 (some 29) rfl rfl (by kernel_rfl) (by kernel_rfl) (by kernel_rfl) (fun _ _ _ _ h => h) HS (by simp) (.bool false) rfl (fun _ => by go_simp) ?_
              try simp only [Act.put, List.setIfInBounds_toArray, List.set_cons_zero, List.set_cons_succ]
              refine hg_reg 7 (some 30) rfl rfl (by kernel_rfl) (by kernel_rfl) (by kernel_rfl) (fun _ _ _ _ h => h) HS (by simp) (.bool false) rfl (fun _ => by rfl) ?_
              try simp only [Act.put, List.setIfInBounds_toArray, List.set_cons_zero, List.set_cons_succ]
              refine hg_reg 8 (some 31) rfl rfl (by kernel_rfl) (by kernel_rfl) (by kernel_rfl) (fun _ _ _ _ h => h) HS (by simp) (.int .i64 ((k : Int) + 1)) rfl (fun _ => by rfl) ?_
              try simp only [Act.put, List.setIfInBounds_toArray, List.set_cons_zero, List.set_cons_succ]
              refine hg_reg 9 (some 32) rfl rfl (by kernel_rfl) (by kernel_rfl) (by kernel_rfl) (fun _ _ _ _ h => h) HS (by simp) (.bool true) rfl (fun _ => by go_simp <;> first | assumption | omega | exact IntWalk.i64_in _ (by omega)) ?_
              try simp only [Act.put, List.setIfInBounds_toArray, List.set_cons_zero, List.set_cons_succ]
              refine hg_reg 10 (some 33) rfl rfl (by kernel_rfl) (by kernel_rfl) (by kernel_rfl) (fun _ _ _ _ h => h) HS (by simp) (.bool true) rfl (fun _ => by rfl) ?_
              try simp only [Act.put, List.setIfInBounds_toArray, List.set_cons_zero, List.set_cons_succ]
              refine hg_reg 11 (some 34) rfl rfl (by kernel_rfl) (by kernel_rfl) (by kernel_rfl) (fun _ _ _ _ h => h) HS (by simp) (.pointer (some ⟨b1, 0, none⟩)) rfl (fun _ => by go_simp) ?_
              try simp only [Act.put, List.setIfInBounds_toArray, List.set_cons_zero, List.set_cons_succ]
              refine hg_load 12 (some 35) rfl rfl (by kernel_rfl) (by kernel_rfl) (by kernel_rfl) (fun _ _ _ _ h => h) HS (by simp) rfl 23 _ rfl 0 _ _ _ rfl 0 rfl _ sh23 (.slice (some ⟨g, off, none⟩) nh cph) rfl ?_
              try simp only [Act.put, List.setIfInBounds_toArray, List.set_cons_zero, List.set_cons_succ]
              refine hg_reg 13 (some 36) rfl rfl (by kernel_rfl) (by kernel_rfl) (by kernel_rfl) (fun _ _ _ _ h => h) HS (by simp) (.int .i64 ((k : Int) + 1)) rfl (fun _ => by rfl) ?_
              try simp only [Act.put, List.setIfInBounds_toArray, List.set_cons_zero, List.set_cons_succ]
              refine hg_reg 14 (some 37) rfl rfl (by kernel_rfl) (by kernel_rfl) (by kernel_rfl) (fun _ _ _ _ h => h) HS (by simp) (.int .i64 (k : Int)) rfl (fun _ => by go_simp <;> first | assumption | omega | exact IntWalk.i64_in _ (by omega)) ?_
              try simp only [Act.put, List.setIfInBounds_toArray, List.set_cons_zero, List.set_cons_succ]
              refine hg_reg 15 (some 38) rfl rfl (by kernel_rfl) (by kernel_rfl) (by kernel_rfl) (fun _ _ _ _ h => h) HS (by simp) (.pointer (some ⟨g, off + k * 4, none⟩)) rfl (fun _ => by go_simp) ?_
              try simp only [Act.put, List.setIfInBounds_toArray, List.set_cons_zero, List.set_cons_succ]
              refine hg_loadsC 16 (some 39) rfl rfl (by kernel_rfl) (by kernel_rfl) (by kernel_rfl) (fun _ _ _ _ h => h) HS (by simp) rfl 29 _ rfl g (off + k * 4) rfl 4 sh29 (y.lst) rfl (fun w2 h2 => HCY.out w2 h2.isExt) ?_
              try simp only [Act.put, List.setIfInBounds_toArray, List.set_cons_zero, List.set_cons_succ]
              refine hg_reg 17 (some 40) rfl rfl (by kernel_rfl) (by kernel_rfl) (by kernel_rfl) (fun _ _ _ _ h => h) HS (by simp) (.pointer (some ⟨b1, 0, none⟩)) rfl (fun _ => by go_simp) ?_
              try simp only [Act.put, List.setIfInBounds_toArray, List.set_cons_zero, List.set_cons_succ]
              refine hg_load 18 (some 41) rfl rfl (by kernel_rfl) (by kernel_rfl) (by kernel_rfl) (fun _ _ _ _ h => h) HS (by simp) rfl 23 _ rfl 0 _ _ _ rfl 0 rfl _ sh23 (.slice (some ⟨g, off, none⟩) nh cph) rfl ?_
              try simp only [Act.put, List.setIfInBounds_toArray, List.set_cons_zero, List.set_cons_succ]
              refine hg_reg 19 (some 42) rfl rfl (by kernel_rfl) (by kernel_rfl) (by kernel_rfl) (fun _ _ _ _ h => h) HS (by simp) (.int .i64 ((k : Int) + 1)) rfl (fun _ => by rfl) ?_
              try simp only [Act.put, List.setIfInBounds_toArray, List.set_cons_zero, List.set_cons_succ]
              refine hg_reg 20 (some 43) rfl rfl (by kernel_rfl) (by kernel_rfl) (by kernel_rfl) (fun _ _ _ _ h => h) HS (by simp) (.pointer (some ⟨g, off + (k + 1) * 4, none⟩)) rfl (fun _ => by go_simp <;> (intro h; exact absurd (h (by omega)) (by omega))) ?_
              try simp only [Act.put, List.setIfInBounds_toArray, List.set_cons_zero, List.set_cons_succ]
              refine hg_loadsC 21 (some 44) rfl rfl (by kernel_rfl) (by kernel_rfl) (by kernel_rfl) (fun _ _ _ _ h => h) HS (by simp) rfl 29 _ rfl g (off + (k + 1) * 4) rfl 4 sh29 (x.lst) rfl (fun w2 h2 => HC.out w2 h2.isExt) ?_
              try simp only [Act.put, List.setIfInBounds_toArray, List.set_cons_zero, List.set_cons_succ]
              refine hk_x1 22 (by kernel_rfl) ?_
              refine hg_call 22 (some 45) rfl rfl rfl HS (by simp) 60 _ _ rfl Tryz.func60 (by kernel_rfl) rfl _ (fun v => v = .bool true) ((rf_less y x _).mono (fun e w1 h => by obtain ⟨rfl, hx⟩ := h; exact ⟨_, rfl, by rw [hlt2], HS.out.ext hx⟩)) rfl ?_
              clear HS; rintro _ w rfl HS
              try simp only [Act.put, List.setIfInBounds_toArray, List.set_cons_zero, List.set_cons_succ]
              refine hg_reg 23 (some 46) rfl rfl (by kernel_rfl) (by kernel_rfl) (by kernel_rfl) (fun _ _ _ _ h => h) HS (by simp) (.bool false) rfl (fun _ => by go_simp) ?_
              try simp only [Act.put, List.setIfInBounds_toArray, List.set_cons_zero, List.set_cons_succ]
              refine hg_reg 24 (some 47) rfl rfl (by kernel_rfl) (by kernel_rfl) (by kernel_rfl) (fun _ _ _ _ h => h) HS (by simp) (.bool false) rfl (fun _ => by rfl) ?_
              try simp only [Act.put, List.setIfInBounds_toArray, List.set_cons_zero, List.set_cons_succ]
              refine hg_reg 25 (some 48) rfl rfl (by kernel_rfl) (by kernel_rfl) (by kernel_rfl) (fun _ _ _ _ h => h) HS (by simp) (.bool false) rfl (fun _ => by rfl) ?_
              try simp only [Act.put, List.setIfInBounds_toArray, List.set_cons_zero, List.set_cons_succ]
              refine hk_done (by kernel_rfl) ?_
              have HV := Lib.hid hv
              have HLT := Lib.hid hlt2
              clear hv hlt2
              go_wp2_with fail
              obtain ⟨wo, hwo⟩ : ∃ wo : World, wo = w := ⟨_, rfl⟩
              subst hwo
              go_loopw [4] (fun s wr => ∃ m : Nat, m ≤ k + 1 ∧ s = .int .i64 ((m : Int) - 1) ∧ Hid (backF hs x (k + 1) = backF hs x m) ∧ Hid (St none default w0 wr [(b1, 25, [.slice (some ⟨g, off, none⟩) nh cph, .slice aow nw cpw])])) (fun s _ => (intOf s + 1).toNat)
              case atStart => exact ⟨k + 1, Nat.le_refl _, by go_num, rfl, HS⟩
              case round =>
                clear HS
                obtain ⟨m, hm, rfl, HBK, HS⟩ := hrel
                cases m with
                | zero =>
                  have HI2 := Lib.hid (all_next HI.out (refHeldAt_good HX.out HY.out HV.out HLT.out (HBK.out)))
                  have e0 : (((0 : Nat) : Int) - 1) = -1 := by omega
                  rw [e0]
                  clear e0
                  go_wp2_with fail
                  go_quiet (fail)
                  replace HS := Lib.hid (HS.out.drewN nq)
                  go_wp2_with fail
                  go_roundw
                  case rel => exact ⟨k + 1 + 1, by omega, by go_num, HI2.out, HS⟩
                  case measure => simp [intOf]; omega
                | succ m =>
                  have e0 : (((m + 1 : Nat) : Int) - 1) = (m : Int) := by omega
                  rw [e0]
                  clear e0
                  obtain ⟨z, hz⟩ := list_get_of_lt hs m nh HNh.out.symm (by omega)
                  have HCZ := Lib.hid (HCL.out m z hz)
                  have HZ := Lib.hid hz
                  have hmn : m < nh := by omega
                  clear hz
                  go_wp2_with fail
                  have hq := eql_lock z.page z.slot x.page x.slot
                  have c1 : wr.cell? ⟨g, off + m * 4 + 1, none⟩ = some (.int .i64 z.page) := HCZ.out wr HS.out.isExt 1 _ rfl
                  have c2 : wr.cell? ⟨g, off + m * 4 + 2, none⟩ = some (.int .i64 z.slot) := HCZ.out wr HS.out.isExt 2 _ rfl
                  have d1 : wr.cell? ⟨g, off + (k + 1) * 4 + 1, none⟩ = some (.int .i64 x.page) := HC.out wr HS.out.isExt 1 _ rfl
                  have d2 : wr.cell? ⟨g, off + (k + 1) * 4 + 2, none⟩ = some (.int .i64 x.slot) := HC.out wr HS.out.isExt 2 _ rfl
                  have b0 := (HS.out.box (i := 0) rfl).cell (o := 0) (v := .slice (some ⟨g, off, none⟩) nh cph) rfl
                  cases h2 : ((z.page == x.page) && (z.slot == x.slot)) with
                  | false =>
                    rw [h2] at hq
                    have HI2 := Lib.hid (all_next HI.out (refHeldAt_good HX.out HY.out HV.out HLT.out (by rw [HBK.out]; exact back_other HZ.out h2)))
                    go_quiet (fail)
                    replace HS := Lib.hid (HS.out.drewN nq)
                    clear c1 c2 d1 d2 b0 hq
                    go_wp2_with fail
                    go_roundw
                    case rel => exact ⟨k + 1 + 1, by omega, by go_num, HI2.out, HS⟩
                    case measure => simp [intOf]; omega
                  | true =>
                    rw [h2] at hq
                    go_quiet (fail)
                    replace HS := Lib.hid (HS.out.drewN nq)
                    clear c1 c2 d1 d2 b0 hq
                    have HSL : Hid (sameLock z x = true) := Lib.hid h2
                    clear h2
                    go_wp2_with fail
                    cases hcf : conflictB z x with
                    | true =>
                      refine hg_begin [(b1, 25, [.slice (some ⟨g, off, none⟩) nh cph, .slice aow nw cpw])] HS (by kernel_rfl) ?_
                      clear HS; intro w HS
                      refine hg_reg 0 (some 70) rfl rfl (by kernel_rfl) (by kernel_rfl) (by kernel_rfl) (fun _ _ _ _ h => h) HS (by simp) (.pointer (some ⟨b1, 0, none⟩)) rfl (fun _ => by go_simp) ?_
                      try simp only [Act.put, List.setIfInBounds_toArray, List.set_cons_zero, List.set_cons_succ]
                      refine hg_load 1 (some 71) rfl rfl (by kernel_rfl) (by kernel_rfl) (by kernel_rfl) (fun _ _ _ _ h => h) HS (by simp) rfl 23 _ rfl 0 _ _ _ rfl 0 rfl _ sh23 (.slice (some ⟨g, off, none⟩) nh cph) rfl ?_
                      try simp only [Act.put, List.setIfInBounds_toArray, List.set_cons_zero, List.set_cons_succ]
                      refine hg_reg 2 (some 72) rfl rfl (by kernel_rfl) (by kernel_rfl) (by kernel_rfl) (fun _ _ _ _ h => h) HS (by simp) (.int .i64 (m : Int)) rfl (fun _ => by rfl) ?_
                      try simp only [Act.put, List.setIfInBounds_toArray, List.set_cons_zero, List.set_cons_succ]
                      refine hg_reg 3 (some 73) rfl rfl (by kernel_rfl) (by kernel_rfl) (by kernel_rfl) (fun _ _ _ _ h => h) HS (by simp) (.pointer (some ⟨g, off + m * 4, none⟩)) rfl (fun _ => by go_simp) ?_
                      try simp only [Act.put, List.setIfInBounds_toArray, List.set_cons_zero, List.set_cons_succ]
                      refine hg_loadsC 4 (some 74) rfl rfl (by kernel_rfl) (by kernel_rfl) (by kernel_rfl) (fun _ _ _ _ h => h) HS (by simp) rfl 29 _ rfl g (off + m * 4) rfl 4 sh29 (z.lst) rfl (fun w2 h2 => HCZ.out w2 h2.isExt) ?_
                      try simp only [Act.put, List.setIfInBounds_toArray, List.set_cons_zero, List.set_cons_succ]
                      refine hg_reg 5 (some 75) rfl rfl (by kernel_rfl) (by kernel_rfl) (by kernel_rfl) (fun _ _ _ _ h => h) HS (by simp) (.pointer (some ⟨b1, 0, none⟩)) rfl (fun _ => by go_simp) ?_
                      try simp only [Act.put, List.setIfInBounds_toArray, List.set_cons_zero, List.set_cons_succ]
                      refine hg_load 6 (some 76) rfl rfl (by kernel_rfl) (by kernel_rfl) (by kernel_rfl) (fun _ _ _ _ h => h) HS (by simp) rfl 23 _ rfl 0 _ _ _ rfl 0 rfl _ sh23 (.slice (some ⟨g, off, none⟩) nh cph) rfl ?_
                      try simp only [Act.put, List.setIfInBounds_toArray, List.set_cons_zero, List.set_cons_succ]
                      refine hg_reg 7 (some 77) rfl rfl (by kernel_rfl) (by kernel_rfl) (by kernel_rfl) (fun _ _ _ _ h => h) HS (by simp) (.int .i64 ((k : Int) + 1)) rfl (fun _ => by rfl) ?_
                      try simp only [Act.put, List.setIfInBounds_toArray, List.set_cons_zero, List.set_cons_succ]
                      refine hg_reg 8 (some 78) rfl rfl (by kernel_rfl) (by kernel_rfl) (by kernel_rfl) (fun _ _ _ _ h => h) HS (by simp) (.pointer (some ⟨g, off + (k + 1) * 4, none⟩)) rfl (fun _ => by go_simp <;> (intro h; exact absurd (h (by omega)) (by omega))) ?_
                      try simp only [Act.put, List.setIfInBounds_toArray, List.set_cons_zero, List.set_cons_succ]
                      refine hg_loadsC 9 (some 79) rfl rfl (by kernel_rfl) (by kernel_rfl) (by kernel_rfl) (fun _ _ _ _ h => h) HS (by simp) rfl 29 _ rfl g (off + (k + 1) * 4) rfl 4 sh29 (x.lst) rfl (fun w2 h2 => HC.out w2 h2.isExt) ?_
                      try simp only [Act.put, List.setIfInBounds_toArray, List.set_cons_zero, List.set_cons_succ]
                      refine hk_x1 10 (by kernel_rfl) ?_
                      refine hg_call 10 (some 80) rfl rfl rfl HS (by simp) 28 _ _ rfl Tryz.func28 (by kernel_rfl) rfl _ (fun v => v = .bool true) ((rf_conflict z x _).mono (fun e w1 h => by obtain ⟨rfl, hx⟩ := h; exact ⟨_, rfl, by rw [hcf], HS.out.ext hx⟩)) rfl ?_
                      clear HS; rintro _ w rfl HS
                      try simp only [Act.put, List.setIfInBounds_toArray, List.set_cons_zero, List.set_cons_succ]
                      refine hk_done (by kernel_rfl) ?_
                      go_wp2_with fail
                      go_ret
                      have hv2 := refValid_no2 (ws := ws) (by rw [← HNh.out]; exact hlt) (refHeldAt_bad3 HX.out (by rw [HBK.out]; exact back_bad HZ.out HSL.out hcf))
                      exact ⟨ret_bool hv2.symm, HS.out.isExt⟩
                    | false =>
                      refine hg_begin [(b1, 25, [.slice (some ⟨g, off, none⟩) nh cph, .slice aow nw cpw])] HS (by kernel_rfl) ?_
                      clear HS; intro w HS
                      refine hg_reg 0 (some 70) rfl rfl (by kernel_rfl) (by kernel_rfl) (by kernel_rfl) (fun _ _ _ _ h => h) HS (by simp) (.pointer (some ⟨b1, 0, none⟩)) rfl (fun _ => by go_simp) ?_
                      try simp only [Act.put, List.setIfInBounds_toArray, List.set_cons_zero, List.set_cons_succ]
                      refine hg_load 1 (some 71) rfl rfl (by kernel_rfl) (by kernel_rfl) (by kernel_rfl) (fun _ _ _ _ h => h) HS (by simp) rfl 23 _ rfl 0 _ _ _ rfl 0 rfl _ sh23 (.slice (some ⟨g, off, none⟩) nh cph) rfl ?_
                      try simp only [Act.put, List.setIfInBounds_toArray, List.set_cons_zero, List.set_cons_succ]
                      refine hg_reg 2 (some 72) rfl rfl (by kernel_rfl) (by kernel_rfl) (by kernel_rfl) (fun _ _ _ _ h => h) HS (by simp) (.int .i64 (m : Int)) rfl (fun _ => by rfl) ?_
                      try simp only [Act.put, List.setIfInBounds_toArray, List.set_cons_zero, List.set_cons_succ]
                      refine hg_reg 3 (some 73) rfl rfl (by kernel_rfl) (by kernel_rfl) (by kernel_rfl) (fun _ _ _ _ h => h) HS (by simp) (.pointer (some ⟨g, off + m * 4, none⟩)) rfl (fun _ => by go_simp) ?_
                      try simp only [Act.put, List.setIfInBounds_toArray, List.set_cons_zero, List.set_cons_succ]
                      refine hg_loadsC 4 (some 74) rfl rfl (by kernel_rfl) (by kernel_rfl) (by kernel_rfl) (fun _ _ _ _ h => h) HS (by simp) rfl 29 _ rfl g (off + m * 4) rfl 4 sh29 (z.lst) rfl (fun w2 h2 => HCZ.out w2 h2.isExt) ?_
                      try simp only [Act.put, List.setIfInBounds_toArray, List.set_cons_zero, List.set_cons_succ]
                      refine hg_reg 5 (some 75) rfl rfl (by kernel_rfl) (by kernel_rfl) (by kernel_rfl) (fun _ _ _ _ h => h) HS (by simp) (.pointer (some ⟨b1, 0, none⟩)) rfl (fun _ => by go_simp) ?_
                      try simp only [Act.put, List.setIfInBounds_toArray, List.set_cons_zero, List.set_cons_succ]
                      refine hg_load 6 (some 76) rfl rfl (by kernel_rfl) (by kernel_rfl) (by kernel_rfl) (fun _ _ _ _ h => h) HS (by simp) rfl 23 _ rfl 0 _ _ _ rfl 0 rfl _ sh23 (.slice (some ⟨g, off, none⟩) nh cph) rfl ?_
                      try simp only [Act.put, List.setIfInBounds_toArray, List.set_cons_zero, List.set_cons_succ]
                      refine hg_reg 7 (some 77) rfl rfl (by kernel_rfl) (by kernel_rfl) (by kernel_rfl) (fun _ _ _ _ h => h) HS (by simp) (.int .i64 ((k : Int) + 1)) rfl (fun _ => by rfl) ?_
                      try simp only [Act.put, List.setIfInBounds_toArray, List.set_cons_zero, List.set_cons_succ]
                      refine hg_reg 8 (some 78) rfl rfl (by kernel_rfl) (by kernel_rfl) (by kernel_rfl) (fun _ _ _ _ h => h) HS (by simp) (.pointer (some ⟨g, off + (k + 1) * 4, none⟩)) rfl (fun _ => by go_simp <;> (intro h; exact absurd (h (by omega)) (by omega))) ?_
                      try simp only [Act.put, List.setIfInBounds_toArray, List.set_cons_zero, List.set_cons_succ]
                      refine hg_loadsC 9 (some 79) rfl rfl (by kernel_rfl) (by kernel_rfl) (by kernel_rfl) (fun _ _ _ _ h => h) HS (by simp) rfl 29 _ rfl g (off + (k + 1) * 4) rfl 4 sh29 (x.lst) rfl (fun w2 h2 => HC.out w2 h2.isExt) ?_
                      try simp only [Act.put, List.setIfInBounds_toArray, List.set_cons_zero, List.set_cons_succ]
                      refine hk_x1 10 (by kernel_rfl) ?_
                      refine hg_call 10 (some 80) rfl rfl rfl HS (by simp) 28 _ _ rfl Tryz.func28 (by kernel_rfl) rfl _ (fun v => v = .bool false) ((rf_conflict z x _).mono (fun e w1 h => by obtain ⟨rfl, hx⟩ := h; exact ⟨_, rfl, by rw [hcf], HS.out.ext hx⟩)) rfl ?_
                      clear HS; rintro _ w rfl HS
                      try simp only [Act.put, List.setIfInBounds_toArray, List.set_cons_zero, List.set_cons_succ]
                      refine hk_done (by kernel_rfl) ?_
                      have HB2 := Lib.hid (HBK.out.trans (back_on HZ.out HSL.out hcf))
                      clear hcf
                      go_wp2_with fail
                      go_roundw
                      case rel => exact ⟨m, by omega, by go_num, HB2, HS⟩
                      case measure => simp [intOf]
      · have hin : i = nh := by omega
        subst hin
        clear hlt hi
        have HALL : Hid (∀ j, j < hs.length → refHeldAt hs j = true) := Lib.hid (by have h := HI.out; rwa [HNh.out] at h)
        clear HI
        go_wp2_with (refine sx_load HS (by rfl) 23 (.tmp 17) rfl 0 _ _ _ rfl 0 rfl _ sh23 (.slice aoh i cph) rfl ?_)
        obtain ⟨wo, hwo⟩ : ∃ wo : World, wo = wr := ⟨_, rfl⟩
        subst hwo
        go_loopw [5] (fun s wr => ∃ j : Nat, j ≤ nw ∧ s = .int .i64 j ∧ Hid (∀ k, k < j → waitAt hs ws k = true) ∧ Hid (St none default w0 wr [(b1, 25, [.slice aoh i cph, .slice aow nw cpw])])) (fun s _ => nw - (intOf s).toNat)
        case atStart => exact ⟨0, Nat.zero_le _, rfl, (fun j h => absurd h (Nat.not_lt_zero _)), HS⟩
        case round =>
          obtain ⟨j, hj, rfl, HJ, HS2⟩ := hrel
          clear HS
          have HS := HS2
          clear HS2
          by_cases hlt : j < nw
          · obtain ⟨x, hx⟩ := list_get_of_lt ws j nw HNw.out.symm hlt
            obtain ⟨g, off, rfl, hcell⟩ := HATw.out (by omega)
            have HCL := Lib.hid hcell
            have HC := Lib.hid (hcell j x hx)
            have HX := Lib.hid hx
            clear hcell hx
            replace HS : Hid (St none default w0 wr [(b1, 25, [.slice aoh i cph, .slice (some ⟨g, off, none⟩) nw cpw])]) := HS
            go_wp2_with (first | (refine sx_load HS (by rfl) 23 (.tmp 82) rfl 0 _ _ _ rfl 1 rfl _ sh23 (.slice (some ⟨g, off, none⟩) nw cpw) rfl ?_) | (refine sx_load HS (by rfl) 23 (.tmp 88) rfl 0 _ _ _ rfl 1 rfl _ sh23 (.slice (some ⟨g, off, none⟩) nw cpw) rfl ?_) | (refine sx_loadsC (by rfl) 29 (.tmp 91) rfl g (off + j * 4) rfl 4 sh29 x.lst rfl (HC.out _ HS.out.isExt) ?_) | (refine sx_alloc HS (by rfl) 29 rfl _ zr29 ?_; clear HS; intro w b6 HS) | (refine sx_store_all HS (by rfl) 29 (.tmp 6) (.tmp 92) rfl rfl 0 _ _ _ rfl rfl x.lst rfl 4 sh29 rfl rfl rfl ?_; clear HS; intro w HS))
            try simp only [Act.put, List.setIfInBounds_toArray, List.set_cons_zero, List.set_cons_succ]
            replace HS : Hid (St none default w0 w [(b6, 29, [.int .i64 x.tx, .int .i64 x.page, .int .i64 x.slot, .int .i64 x.mode]), (b1, 25, [.slice aoh i cph, .slice (some ⟨g, off, none⟩) nw cpw])]) := HS
            have hmk : modeF hs ⟨x.tx, x.page, x.slot, 0⟩ = modeF hs x := modeF_key hs _ _ rfl rfl rfl
            have HMK := Lib.hid hmk
            clear hmk
            cases hv : validG x with
            | false =>
              refine hg_begin [(b6, 29, [.int .i64 x.tx, .int .i64 x.page, .int .i64 x.slot, .int .i64 x.mode]), (b1, 25, [.slice aoh i cph, .slice (some ⟨g, off, none⟩) nw cpw])] HS (by kernel_rfl) ?_
              clear HS; intro w HS
              refine hg_loads 0 (some 93) rfl rfl (by kernel_rfl) (by kernel_rfl) (by kernel_rfl) (fun _ _ _ _ h => h) HS (by simp) rfl 29 _ rfl 0 _ _ _ rfl 0 rfl 4 sh29 [.int .i64 x.tx, .int .i64 x.page, .int .i64 x.slot, .int .i64 x.mode] rfl ⟨rfl, rfl, rfl, rfl, trivial⟩ ?_
              try simp only [Act.put, List.setIfInBounds_toArray, List.set_cons_zero, List.set_cons_succ]
              refine hk_x1 1 (by kernel_rfl) ?_
              refine hg_call 1 (some 94) rfl rfl rfl HS (by simp) 37 _ _ rfl Tryz.func37 (by kernel_rfl) rfl _ (fun v => v = .bool false) ((rf_grant x _).mono (fun e w1 h => by obtain ⟨rfl, hx⟩ := h; exact ⟨_, rfl, by rw [hv], HS.out.ext hx⟩)) rfl ?_
              clear HS; rintro _ w rfl HS
              try simp only [Act.put, List.setIfInBounds_toArray, List.set_cons_zero, List.set_cons_succ]
              refine hg_reg 2 (some 95) rfl rfl (by kernel_rfl) (by kernel_rfl) (by kernel_rfl) (fun _ _ _ _ h => h) HS (by simp) (.bool true) rfl (fun _ => by go_simp) ?_
              try simp only [Act.put, List.setIfInBounds_toArray, List.set_cons_zero, List.set_cons_succ]
              refine hg_reg 3 (some 96) rfl rfl (by kernel_rfl) (by kernel_rfl) (by kernel_rfl) (fun _ _ _ _ h => h) HS (by simp) (.bool true) rfl (fun _ => by rfl) ?_
              try simp only [Act.put, List.setIfInBounds_toArray, List.set_cons_zero, List.set_cons_succ]
              refine hg_skip 4 (some 97) rfl rfl (by kernel_rfl) (by kernel_rfl) (by kernel_rfl) (fun _ _ _ _ h => h) HS (by simp) rfl ?_
              try simp only [Act.put, List.setIfInBounds_toArray, List.set_cons_zero, List.set_cons_succ]
              refine hg_skip 5 (some 98) rfl rfl (by kernel_rfl) (by kernel_rfl) (by kernel_rfl) (fun _ _ _ _ h => h) HS (by simp) rfl ?_
              try simp only [Act.put, List.setIfInBounds_toArray, List.set_cons_zero, List.set_cons_succ]
              refine hg_skip 6 (some 99) rfl rfl (by kernel_rfl) (by kernel_rfl) (by kernel_rfl) (fun _ _ _ _ h => h) HS (by simp) rfl ?_
              try simp only [Act.put, List.setIfInBounds_toArray, List.set_cons_zero, List.set_cons_succ]
              refine hg_skip 7 (some 100) rfl rfl (by kernel_rfl) (by kernel_rfl) (by kernel_rfl) (fun _ _ _ _ h => h) HS (by simp) rfl ?_
              try simp only [Act.put, List.setIfInBounds_toArray, List.set_cons_zero, List.set_cons_succ]
              refine hg_skip 8 (some 101) rfl rfl (by kernel_rfl) (by kernel_rfl) (by kernel_rfl) (fun _ _ _ _ h => h) HS (by simp) rfl ?_
              try simp only [Act.put, List.setIfInBounds_toArray, List.set_cons_zero, List.set_cons_succ]
              refine hg_skip 9 (some 102) rfl rfl (by kernel_rfl) (by kernel_rfl) (by kernel_rfl) (fun _ _ _ _ h => h) HS (by simp) rfl ?_
              try simp only [Act.put, List.setIfInBounds_toArray, List.set_cons_zero, List.set_cons_succ]
              refine hg_skip 10 (some 103) rfl rfl (by kernel_rfl) (by kernel_rfl) (by kernel_rfl) (fun _ _ _ _ h => h) HS (by simp) rfl ?_
              try simp only [Act.put, List.setIfInBounds_toArray, List.set_cons_zero, List.set_cons_succ]
              refine hg_skip 11 (some 104) rfl rfl (by kernel_rfl) (by kernel_rfl) (by kernel_rfl) (fun _ _ _ _ h => h) HS (by simp) rfl ?_
              try simp only [Act.put, List.setIfInBounds_toArray, List.set_cons_zero, List.set_cons_succ]
              refine hg_skip 12 (some 105) rfl rfl (by kernel_rfl) (by kernel_rfl) (by kernel_rfl) (fun _ _ _ _ h => h) HS (by simp) rfl ?_
              try simp only [Act.put, List.setIfInBounds_toArray, List.set_cons_zero, List.set_cons_succ]
              refine hg_reg 13 (some 106) rfl rfl (by kernel_rfl) (by kernel_rfl) (by kernel_rfl) (fun _ _ _ _ h => h) HS (by simp) (.bool true) rfl (fun _ => by rfl) ?_
              try simp only [Act.put, List.setIfInBounds_toArray, List.set_cons_zero, List.set_cons_succ]
              refine hk_done (by kernel_rfl) ?_
              go_wp2_with fail
              go_ret
              have hv2 := refValid_no3 (hs := hs) (waitOk_no (by rw [← HNw.out]; exact hlt) (waitAt_bad1 HX.out hv))
              exact ⟨ret_bool hv2.symm, HS.out.isExt⟩
            | true =>
              by_cases hmd : x.mode ≤ modeF hs ⟨x.tx, x.page, x.slot, 0⟩
              · skip
                refine hg_begin [(b6, 29, [.int .i64 x.tx, .int .i64 x.page, .int .i64 x.slot, .int .i64 x.mode]), (b1, 25, [.slice aoh i cph, .slice (some ⟨g, off, none⟩) nw cpw])] HS (by kernel_rfl) ?_
                clear HS; intro w HS
                refine hg_loads 0 (some 93) rfl rfl (by kernel_rfl) (by kernel_rfl) (by kernel_rfl) (fun _ _ _ _ h => h) HS (by simp) rfl 29 _ rfl 0 _ _ _ rfl 0 rfl 4 sh29 [.int .i64 x.tx, .int .i64 x.page, .int .i64 x.slot, .int .i64 x.mode] rfl ⟨rfl, rfl, rfl, rfl, trivial⟩ ?_
                try simp only [Act.put, List.setIfInBounds_toArray, List.set_cons_zero, List.set_cons_succ]
                refine hk_x1 1 (by kernel_rfl) ?_
                refine hg_call 1 (some 94) rfl rfl rfl HS (by simp) 37 _ _ rfl Tryz.func37 (by kernel_rfl) rfl _ (fun v => v = .bool true) ((rf_grant x _).mono (fun e w1 h => by obtain ⟨rfl, hx⟩ := h; exact ⟨_, rfl, by rw [hv], HS.out.ext hx⟩)) rfl ?_
                clear HS; rintro _ w rfl HS
                try simp only [Act.put, List.setIfInBounds_toArray, List.set_cons_zero, List.set_cons_succ]
                refine hg_reg 2 (some 95) rfl rfl (by kernel_rfl) (by kernel_rfl) (by kernel_rfl) (fun _ _ _ _ h => h) HS (by simp) (.bool false) rfl (fun _ => by go_simp) ?_
                try simp only [Act.put, List.setIfInBounds_toArray, List.set_cons_zero, List.set_cons_succ]
                refine hg_reg 3 (some 96) rfl rfl (by kernel_rfl) (by kernel_rfl) (by kernel_rfl) (fun _ _ _ _ h => h) HS (by simp) (.bool false) rfl (fun _ => by rfl) ?_
                try simp only [Act.put, List.setIfInBounds_toArray, List.set_cons_zero, List.set_cons_succ]
                refine hg_loads 4 (some 97) rfl rfl (by kernel_rfl) (by kernel_rfl) (by kernel_rfl) (fun _ _ _ _ h => h) HS (by simp) rfl 25 _ rfl 1 _ _ _ rfl 0 rfl 2 sh25 [.slice aoh i cph, .slice (some ⟨g, off, none⟩) nw cpw] rfl ⟨rfl, rfl, trivial⟩ ?_
                try simp only [Act.put, List.setIfInBounds_toArray, List.set_cons_zero, List.set_cons_succ]
                refine hg_reg 5 (some 98) rfl rfl (by kernel_rfl) (by kernel_rfl) (by kernel_rfl) (fun _ _ _ _ h => h) HS (by simp) (.pointer (some ⟨b6, 0, none⟩)) rfl (fun _ => by go_simp) ?_
                try simp only [Act.put, List.setIfInBounds_toArray, List.set_cons_zero, List.set_cons_succ]
                refine hg_load 6 (some 99) rfl rfl (by kernel_rfl) (by kernel_rfl) (by kernel_rfl) (fun _ _ _ _ h => h) HS (by simp) rfl 3 _ rfl 0 _ _ _ rfl 0 rfl _ sh3 (.int .i64 x.tx) rfl ?_
                try simp only [Act.put, List.setIfInBounds_toArray, List.set_cons_zero, List.set_cons_succ]
                refine hg_reg 7 (some 100) rfl rfl (by kernel_rfl) (by kernel_rfl) (by kernel_rfl) (fun _ _ _ _ h => h) HS (by simp) (.pointer (some ⟨b6, 1, none⟩)) rfl (fun _ => by go_simp) ?_
                try simp only [Act.put, List.setIfInBounds_toArray, List.set_cons_zero, List.set_cons_succ]
                refine hg_loads 8 (some 101) rfl rfl (by kernel_rfl) (by kernel_rfl) (by kernel_rfl) (fun _ _ _ _ h => h) HS (by simp) rfl 27 _ rfl 0 _ _ _ rfl 1 rfl 2 sh27 [.int .i64 x.page, .int .i64 x.slot] rfl ⟨rfl, rfl, trivial⟩ ?_
                try simp only [Act.put, List.setIfInBounds_toArray, List.set_cons_zero, List.set_cons_succ]
                refine hg_reg 10 (some 103) rfl rfl (by kernel_rfl) (by kernel_rfl) (by kernel_rfl) (fun _ _ _ _ h => h) HS (by simp) (.pointer (some ⟨b6, 3, none⟩)) rfl (fun _ => by go_simp) ?_
                try simp only [Act.put, List.setIfInBounds_toArray, List.set_cons_zero, List.set_cons_succ]
                refine hg_load 11 (some 104) rfl rfl (by kernel_rfl) (by kernel_rfl) (by kernel_rfl) (fun _ _ _ _ h => h) HS (by simp) rfl 3 _ rfl 0 _ _ _ rfl 3 rfl _ sh3 (.int .i64 x.mode) rfl ?_
                try simp only [Act.put, List.setIfInBounds_toArray, List.set_cons_zero, List.set_cons_succ]
                refine hk_x1 9 (by kernel_rfl) ?_
                refine hg_call 9 (some 102) rfl rfl rfl HS (by simp) 38 _ _ rfl Tryz.func38 (by kernel_rfl) rfl _ (fun v => v = .int .i64 (modeF hs ⟨x.tx, x.page, x.slot, 0⟩)) ((rf_mode _ _ _ hs x.tx x.page x.slot (HGh.out.ext HS.out.isExt) rfl).mono (fun e w1 h => by obtain ⟨rfl, hx⟩ := h; exact ⟨_, rfl, rfl, HS.out.ext hx⟩)) rfl ?_
                clear HS; rintro _ w rfl HS
                try simp only [Act.put, List.setIfInBounds_toArray, List.set_cons_zero, List.set_cons_succ]
                refine hg_reg 12 (some 105) rfl rfl (by kernel_rfl) (by kernel_rfl) (by kernel_rfl) (fun _ _ _ _ h => h) HS (by simp) (.bool true) rfl (fun _ => by go_simp <;> first | assumption | omega | exact IntWalk.i64_in _ (by omega)) ?_
                try simp only [Act.put, List.setIfInBounds_toArray, List.set_cons_zero, List.set_cons_succ]
                refine hg_reg 13 (some 106) rfl rfl (by kernel_rfl) (by kernel_rfl) (by kernel_rfl) (fun _ _ _ _ h => h) HS (by simp) (.bool true) rfl (fun _ => by rfl) ?_
                try simp only [Act.put, List.setIfInBounds_toArray, List.set_cons_zero, List.set_cons_succ]
                refine hk_done (by kernel_rfl) ?_
                go_wp2_with fail
                go_ret
                have hv2 := refValid_no3 (hs := hs) (waitOk_no (by rw [← HNw.out]; exact hlt) (waitAt_bad2 HX.out (by rw [← HMK.out]; exact hmd)))
                exact ⟨ret_bool hv2.symm, HS.out.isExt⟩
              · have hmd2 : modeF hs ⟨x.tx, x.page, x.slot, 0⟩ < x.mode := by omega
                refine hg_begin [(b6, 29, [.int .i64 x.tx, .int .i64 x.page, .int .i64 x.slot, .int .i64 x.mode]), (b1, 25, [.slice aoh i cph, .slice (some ⟨g, off, none⟩) nw cpw])] HS (by kernel_rfl) ?_
                clear HS; intro w HS
                refine hg_loads 0 (some 93) rfl rfl (by kernel_rfl) (by kernel_rfl) (by kernel_rfl) (fun _ _ _ _ h => h) HS (by simp) rfl 29 _ rfl 0 _ _ _ rfl 0 rfl 4 sh29 [.int .i64 x.tx, .int .i64 x.page, .int .i64 x.slot, .int .i64 x.mode] rfl ⟨rfl, rfl, rfl, rfl, trivial⟩ ?_
                try simp only [Act.put, List.setIfInBounds_toArray, List.set_cons_zero, List.set_cons_succ]
                refine hk_x1 1 (by kernel_rfl) ?_
                refine hg_call 1 (some 94) rfl rfl rfl HS (by simp) 37 _ _ rfl Tryz.func37 (by kernel_rfl) rfl _ (fun v => v = .bool true) ((rf_grant x _).mono (fun e w1 h => by obtain ⟨rfl, hx⟩ := h; exact ⟨_, rfl, by rw [hv], HS.out.ext hx⟩)) rfl ?_
                clear HS; rintro _ w rfl HS
                try simp only [Act.put, List.setIfInBounds_toArray, List.set_cons_zero, List.set_cons_succ]
                refine hg_reg 2 (some 95) rfl rfl (by kernel_rfl) (by kernel_rfl) (by kernel_rfl) (fun _ _ _ _ h => h) HS (by simp) (.bool false) rfl (fun _ => by go_simp) ?_
                try simp only [Act.put, List.setIfInBounds_toArray, List.set_cons_zero, List.set_cons_succ]
                refine hg_reg 3 (some 96) rfl rfl (by kernel_rfl) (by kernel_rfl) (by kernel_rfl) (fun _ _ _ _ h => h) HS (by simp) (.bool false) rfl (fun _ => by rfl) ?_
                try simp only [Act.put, List.setIfInBounds_toArray, List.set_cons_zero, List.set_cons_succ]
                refine hg_loads 4 (some 97) rfl rfl (by kernel_rfl) (by kernel_rfl) (by kernel_rfl) (fun _ _ _ _ h => h) HS (by simp) rfl 25 _ rfl 1 _ _ _ rfl 0 rfl 2 sh25 [.slice aoh i cph, .slice (some ⟨g, off, none⟩) nw cpw] rfl ⟨rfl, rfl, trivial⟩ ?_
                try simp only [Act.put, List.setIfInBounds_toArray, List.set_cons_zero, List.set_cons_succ]
                refine hg_reg 5 (some 98) rfl rfl (by kernel_rfl) (by kernel_rfl) (by kernel_rfl) (fun _ _ _ _ h => h) HS (by simp) (.pointer (some ⟨b6, 0, none⟩)) rfl (fun _ => by go_simp) ?_
                try simp only [Act.put, List.setIfInBounds_toArray, List.set_cons_zero, List.set_cons_succ]
                refine hg_load 6 (some 99) rfl rfl (by kernel_rfl) (by kernel_rfl) (by kernel_rfl) (fun _ _ _ _ h => h) HS (by simp) rfl 3 _ rfl 0 _ _ _ rfl 0 rfl _ sh3 (.int .i64 x.tx) rfl ?_
                try simp only [Act.put, List.setIfInBounds_toArray, List.set_cons_zero, List.set_cons_succ]
                refine hg_reg 7 (some 100) rfl rfl (by kernel_rfl) (by kernel_rfl) (by kernel_rfl) (fun _ _ _ _ h => h) HS (by simp) (.pointer (some ⟨b6, 1, none⟩)) rfl (fun _ => by go_simp) ?_
                try simp only [Act.put, List.setIfInBounds_toArray, List.set_cons_zero, List.set_cons_succ]
                refine hg_loads 8 (some 101) rfl rfl (by kernel_rfl) (by kernel_rfl) (by kernel_rfl) (fun _ _ _ _ h => h) HS (by simp) rfl 27 _ rfl 0 _ _ _ rfl 1 rfl 2 sh27 [.int .i64 x.page, .int .i64 x.slot] rfl ⟨rfl, rfl, trivial⟩ ?_
                try simp only [Act.put, List.setIfInBounds_toArray, List.set_cons_zero, List.set_cons_succ]
                refine hg_reg 10 (some 103) rfl rfl (by kernel_rfl) (by kernel_rfl) (by kernel_rfl) (fun _ _ _ _ h => h) HS (by simp) (.pointer (some ⟨b6, 3, none⟩)) rfl (fun _ => by go_simp) ?_
                try simp only [Act.put, List.setIfInBounds_toArray, List.set_cons_zero, List.set_cons_succ]
                refine hg_load 11 (some 104) rfl rfl (by kernel_rfl) (by kernel_rfl) (by kernel_rfl) (fun _ _ _ _ h => h) HS (by simp) rfl 3 _ rfl 0 _ _ _ rfl 3 rfl _ sh3 (.int .i64 x.mode) rfl ?_
                try simp only [Act.put, List.setIfInBounds_toArray, List.set_cons_zero, List.set_cons_succ]
                refine hk_x1 9 (by kernel_rfl) ?_
                refine hg_call 9 (some 102) rfl rfl rfl HS (by simp) 38 _ _ rfl Tryz.func38 (by kernel_rfl) rfl _ (fun v => v = .int .i64 (modeF hs ⟨x.tx, x.page, x.slot, 0⟩)) ((rf_mode _ _ _ hs x.tx x.page x.slot (HGh.out.ext HS.out.isExt) rfl).mono (fun e w1 h => by obtain ⟨rfl, hx⟩ := h; exact ⟨_, rfl, rfl, HS.out.ext hx⟩)) rfl ?_
                clear HS; rintro _ w rfl HS
                try simp only [Act.put, List.setIfInBounds_toArray, List.set_cons_zero, List.set_cons_succ]
                refine hg_reg 12 (some 105) rfl rfl (by kernel_rfl) (by kernel_rfl) (by kernel_rfl) (fun _ _ _ _ h => h) HS (by simp) (.bool false) rfl (fun _ => by go_simp <;> first | assumption | omega | exact IntWalk.i64_in _ (by omega)) ?_
                try simp only [Act.put, List.setIfInBounds_toArray, List.set_cons_zero, List.set_cons_succ]
                refine hg_reg 13 (some 106) rfl rfl (by kernel_rfl) (by kernel_rfl) (by kernel_rfl) (fun _ _ _ _ h => h) HS (by simp) (.bool false) rfl (fun _ => by rfl) ?_
                try simp only [Act.put, List.setIfInBounds_toArray, List.set_cons_zero, List.set_cons_succ]
                refine hk_done (by kernel_rfl) ?_
                have HV := Lib.hid hv
                have HMD : Hid (modeF hs x < x.mode) := Lib.hid (by rw [← HMK.out]; exact hmd2)
                clear hv hmd hmd2
                go_wp2_with fail
                obtain ⟨wo, hwo⟩ : ∃ wo : World, wo = w := ⟨_, rfl⟩
                subst hwo
                go_loopw [7] (fun s wr => ∃ k : Nat, k ≤ j ∧ s = .int .i64 k ∧ Hid (∀ (m : Nat) (z : G), m < k → ws[m]? = some z → (z.tx == x.tx) = false) ∧ Hid (St none default w0 wr [(b6, 29, [.int .i64 x.tx, .int .i64 x.page, .int .i64 x.slot, .int .i64 x.mode]), (b1, 25, [.slice aoh i cph, .slice (some ⟨g, off, none⟩) nw cpw])])) (fun s _ => j - (intOf s).toNat)
                case atStart => exact ⟨0, Nat.zero_le _, rfl, (fun m z h => absurd h (Nat.not_lt_zero _)), HS⟩
                case round =>
                  clear HS
                  obtain ⟨k, hk, rfl, HK, HS⟩ := hrel
                  by_cases hkj : k < j
                  · obtain ⟨z, hz⟩ := list_get_of_lt ws k nw HNw.out.symm (by omega)
                    have HCZ := Lib.hid (HCL.out k z hz)
                    have HZ := Lib.hid hz
                    have hkn : k < nw := by omega
                    clear hz
                    go_wp2_with fail
                    have c0 : wr.cell? ⟨g, off + k * 4, none⟩ = some (.int .i64 z.tx) := HCZ.out wr HS.out.isExt 0 _ rfl
                    have d0 := (HS.out.box (i := 0) rfl).cell (o := 0) (v := .int .i64 x.tx) rfl
                    have b0 := (HS.out.box (i := 1) rfl).cell (o := 1) (v := .slice (some ⟨g, off, none⟩) nw cpw) rfl
                    cases h1 : (z.tx == x.tx) with
                    | true =>
                      go_quiet (fail)
                      replace HS := Lib.hid (HS.out.drewN nq)
                      clear c0 d0 b0
                      go_wp2_with fail
                      go_ret
                      have hv2 := refValid_no3 (hs := hs) (waitOk_no (by rw [← HNw.out]; exact hlt) (waitAt_bad3 HX.out (any_some hkj HZ.out h1)))
                      exact ⟨ret_bool hv2.symm, HS.out.isExt⟩
                    | false =>
                      go_quiet (fail)
                      replace HS := Lib.hid (HS.out.drewN nq)
                      clear c0 d0 b0
                      have H1 := Lib.hid h1
                      clear h1
                      go_wp2_with fail
                      go_roundw
                      case rel => exact ⟨k + 1, by omega, by go_num, (fun m z2 hm hz2 => by
                        by_cases e : m = k
                        · subst e; have := HZ.out.symm.trans hz2; cases this; exact H1.out
                        · exact HK.out m z2 (by omega) hz2), HS⟩
                      case measure => simp [intOf]; omega
                  · have hkj2 : k = j := by omega
                    subst hkj2
                    have HJ2 := Lib.hid (all_next HJ.out (waitAt_good HX.out HV.out HMD.out (any_none HK.out)))
                    replace HS := Lib.hid (HS.out.drop 1)
                    go_wp2_with fail
                    go_roundw
                    case rel => exact ⟨k + 1, by omega, by go_num, HJ2.out, HS⟩
                    case measure => simp [intOf]; omega
          · have hjn : j = nw := by omega
            subst hjn
            go_wp2_with (refine sx_load HS (by rfl) 23 (.tmp 82) rfl 0 _ _ _ rfl 1 rfl _ sh23 (.slice aow j cpw) rfl ?_)
            go_ret
            exact ⟨ret_bool (refValid_yes (by rw [← HNh.out, ← HNw.out]; exact hsum) HALL.out (waitOk_of (by have h := HJ.out; rwa [HNw.out] at h))).symm, HS.out.isExt⟩
  · have d0 : decide (1024 < ((nh : Int) + (nw : Int))) = true := by simp; omega
    go_wp2_with (first | (refine sx_box HS rfl 25 (.tmp 0) rfl [.slice aoh nh cph, .slice aow nw cpw] rfl ?_; clear HS; intro w b1 HS) | (refine sx_load HS (by rfl) 23 (.tmp 8) rfl 0 _ _ _ rfl 0 rfl _ sh23 (.slice aoh nh cph) rfl ?_) | (refine sx_load HS (by rfl) 23 (.tmp 11) rfl 0 _ _ _ rfl 1 rfl _ sh23 (.slice aow nw cpw) rfl ?_))
    go_ret
    exact ⟨ret_bool (refValid_no1 (by rw [← HNh.out, ← HNw.out]; exact hsum)).symm, HS.out.isExt⟩
end Go.Proofs.YtnfkplohpjfocaaGreat
