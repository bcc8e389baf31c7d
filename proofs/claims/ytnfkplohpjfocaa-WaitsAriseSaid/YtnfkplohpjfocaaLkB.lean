/-
  The contract of the binary search of a grant.
-/
import Derived.Test.YtnfkplohpjfocaaLkA
set_option linter.unusedVariables false
set_option linter.unusedSimpArgs false
namespace Go.Proofs.Ytnfkplohpjfocaa
open Go.RowKit
def hitB (gs : List G) (t : G) (i : Nat) : Bool := match gs[i]? with | some x => ordI x t == 0 | none => false
def BsPost (gs : List G) (t : G) (w0 : World) (e : Ending) (w' : World) : Prop := ∃ i : Nat, i ≤ gs.length ∧ (∀ x, 0 < i → gs[i - 1]? = some x → ordI x t < 0) ∧ (∀ x, gs[i]? = some x → 0 ≤ ordI x t) ∧ e = .returned (.tuple #[.int .i64 i, .bool (hitB gs t i)]) ∧ Ext w0 w'
set_option maxHeartbeats 4000000 in
set_option maxRecDepth 100000 in
theorem bsearch_any (w0 : World) (v : Value) (gs : List G) (t : G) (h : GsAt w0 v gs) (hb : gs.length ≤ 1000000) : Calls Try.prog 62 #[v, .agg t.arr, .func (.func 40) #[] #[]] w0 (BsPost gs t w0) := by
  obtain ⟨ao, cap, rfl, hc1, hc2, hat⟩ := h.get
  obtain ⟨n, hn⟩ : ∃ n, n = gs.length := ⟨_, rfl⟩
  rw [← hn] at hc1 hat hb ⊢
  have HN := Lib.hid hn
  have HAT := Lib.hid hat
  clear hn hat h
  have HS : Hid (St none default w0 w0 []) := St.start w0
  go_enter Try.func62, Try.ntmps62
  go_wp2_with (refine sx_box HS rfl _ _ rfl t.lst rfl ?_; clear HS; intro w b4 HS)
  replace HS : Hid (St none default w0 w [(b4, 29, t.lst)]) := HS
  go_loopw [9, 10] (fun s9 s10 wr => ∃ i j : Nat, i ≤ j ∧ j ≤ n ∧ s9 = .int .i64 i ∧ s10 = .int .i64 j ∧ Hid (∀ x, 0 < i → gs[i - 1]? = some x → ordI x t < 0) ∧ Hid (∀ x, gs[j]? = some x → 0 ≤ ordI x t) ∧ Hid (St none default w0 wr [(b4, 29, t.lst)])) (fun s9 s10 _ => (intOf s10).toNat - (intOf s9).toNat)
  case atStart => exact ⟨0, n, Nat.zero_le _, Nat.le_refl _, rfl, rfl, (fun x h => absurd h (Nat.not_lt_zero _)), (fun x h => by rw [HN.out] at h; simp at h), HS⟩
  case round =>
    obtain ⟨i, j, hij, hjn, rfl, rfl, HI, HJ, HS2⟩ := hrel
    clear HS
    have HS := HS2
    clear HS2
    by_cases hlt : i < j
    · obtain ⟨m, hm⟩ : ∃ m, m = (i + j) / 2 := ⟨_, rfl⟩
      have hm1 : i ≤ m := by omega
      have hm2 : m < j := by omega
      have hmi : ((i : Int) + (j : Int)) / 2 = (m : Int) := by omega
      clear hm
      obtain ⟨x, hx⟩ := list_get_of_lt gs m n HN.out.symm (by omega)
      obtain ⟨g, off, rfl, hcell⟩ := HAT.out (by omega)
      have HC := Lib.hid (hcell m x hx)
      have HX := Lib.hid hx
      clear hcell hx
      have hmn : m < n := by omega
      go_wp2_with fail
      refine hg_begin [(b4, 29, t.lst)] HS (by kernel_rfl) ?_
      clear HS; intro w HS
      refine hg_reg 0 (some 24) rfl rfl (by kernel_rfl) (by kernel_rfl) (by kernel_rfl) (fun _ _ _ _ h => h) HS (by simp) (.func (.func 40) #[] #[]) rfl (fun _ => by rfl) ?_
      try simp only [Act.put, List.setIfInBounds_toArray, List.set_cons_zero, List.set_cons_succ]
      refine hg_reg 1 (some 25) rfl rfl (by kernel_rfl) (by kernel_rfl) (by kernel_rfl) (fun _ _ _ _ h => h) HS (by simp) (.slice (some ⟨g, off, none⟩) n cap) rfl (fun _ => by rfl) ?_
      try simp only [Act.put, List.setIfInBounds_toArray, List.set_cons_zero, List.set_cons_succ]
      refine hg_reg 2 (some 26) rfl rfl (by kernel_rfl) (by kernel_rfl) (by kernel_rfl) (fun _ _ _ _ h => h) HS (by simp) (.int .i64 m) rfl (fun _ => by rfl) ?_
      try simp only [Act.put, List.setIfInBounds_toArray, List.set_cons_zero, List.set_cons_succ]
      refine hg_reg 3 (some 27) rfl rfl (by kernel_rfl) (by kernel_rfl) (by kernel_rfl) (fun _ _ _ _ h => h) HS (by simp) (.pointer (some ⟨g, off + m * 4, none⟩)) rfl (fun _ => by go_simp) ?_
      try simp only [Act.put, List.setIfInBounds_toArray, List.set_cons_zero, List.set_cons_succ]
      refine hg_loadsC 4 (some 28) rfl rfl (by kernel_rfl) (by kernel_rfl) (by kernel_rfl) (fun _ _ _ _ h => h) HS (by simp) rfl 29 _ rfl g (off + m * 4) rfl 4 sh29 (x.lst) rfl (fun w2 h2 => HC.out w2 h2.isExt) ?_
      try simp only [Act.put, List.setIfInBounds_toArray, List.set_cons_zero, List.set_cons_succ]
      refine hg_loads 5 (some 29) rfl rfl (by kernel_rfl) (by kernel_rfl) (by kernel_rfl) (fun _ _ _ _ h => h) HS (by simp) rfl 29 _ rfl 0 _ _ _ rfl 0 rfl 4 sh29 t.lst rfl (by simpa using cellsAt_self [] t.lst) ?_
      try simp only [Act.put, List.setIfInBounds_toArray, List.set_cons_zero, List.set_cons_succ]
      refine hk_x1 6 (by kernel_rfl) ?_
      refine hg_callv 6 (some 30) rfl rfl rfl HS (by simp) 40 [] (.tmp 24) [.tmp 28, .tmp 29] _ rfl rfl Try.func40 (by kernel_rfl) rfl [.agg x.arr, .agg t.arr] rfl (fun v => v = .int .i64 (ordI x t)) ((order_any x t _).mono (fun e w1 h => by obtain ⟨rfl, hx⟩ := h; exact ⟨_, rfl, rfl, HS.out.ext hx⟩)) ?_
      clear HS; rintro _ w rfl HS
      try simp only [Act.put, List.setIfInBounds_toArray, List.set_cons_zero, List.set_cons_succ]
      refine hg_reg 7 (some 31) rfl rfl (by kernel_rfl) (by kernel_rfl) (by kernel_rfl) (fun _ _ _ _ h => h) HS (by simp) (.bool (decide (ordI x t < 0))) rfl (fun _ => by go_simp) ?_
      try simp only [Act.put, List.setIfInBounds_toArray, List.set_cons_zero, List.set_cons_succ]
      refine hk_done (by kernel_rfl) ?_
      by_cases hd : ordI x t < 0
      · have d1 : decide (ordI x t < 0) = true := by simpa using hd
        rw [d1]
        clear d1
        go_wp2_with fail
        go_roundw
        case rel => exact ⟨m + 1, j, by omega, hjn, by go_num, rfl, (fun y _ hy => by have := HX.out.symm.trans hy; cases this; exact hd), HJ, HS⟩
        case measure => simp [intOf]; omega
      · have d1 : decide (ordI x t < 0) = false := by simpa using hd
        rw [d1]
        clear d1
        go_wp2_with fail
        go_roundw
        case rel => exact ⟨i, m, hm1, by omega, rfl, rfl, HI, (fun y hy => by have := HX.out.symm.trans hy; cases this; omega), HS⟩
        case measure => simp [intOf]; omega
    · have hij2 : i = j := by omega
      subst hij2
      clear hlt hij
      by_cases hin : i < n
      · obtain ⟨x, hx⟩ := list_get_of_lt gs i n HN.out.symm hin
        obtain ⟨g, off, rfl, hcell⟩ := HAT.out (by omega)
        have HC := Lib.hid (hcell i x hx)
        have HX := Lib.hid hx
        clear hcell hx
        go_wp2_with fail
        refine hg_begin [(b4, 29, t.lst)] HS (by kernel_rfl) ?_
        clear HS; intro w HS
        refine hg_reg 0 (some 35) rfl rfl (by kernel_rfl) (by kernel_rfl) (by kernel_rfl) (fun _ _ _ _ h => h) HS (by simp) (.int .i64 i) rfl (fun _ => by rfl) ?_
        try simp only [Act.put, List.setIfInBounds_toArray, List.set_cons_zero, List.set_cons_succ]
        refine hg_reg 1 (some 36) rfl rfl (by kernel_rfl) (by kernel_rfl) (by kernel_rfl) (fun _ _ _ _ h => h) HS (by simp) (.int .i64 i) rfl (fun _ => by rfl) ?_
        try simp only [Act.put, List.setIfInBounds_toArray, List.set_cons_zero, List.set_cons_succ]
        refine hg_reg 2 (some 37) rfl rfl (by kernel_rfl) (by kernel_rfl) (by kernel_rfl) (fun _ _ _ _ h => h) HS (by simp) (.int .i64 n) rfl (fun _ => by rfl) ?_
        try simp only [Act.put, List.setIfInBounds_toArray, List.set_cons_zero, List.set_cons_succ]
        refine hg_reg 3 (some 38) rfl rfl (by kernel_rfl) (by kernel_rfl) (by kernel_rfl) (fun _ _ _ _ h => h) HS (by simp) (.bool true) rfl (fun _ => by go_simp) ?_
        try simp only [Act.put, List.setIfInBounds_toArray, List.set_cons_zero, List.set_cons_succ]
        refine hg_reg 4 (some 39) rfl rfl (by kernel_rfl) (by kernel_rfl) (by kernel_rfl) (fun _ _ _ _ h => h) HS (by simp) (.bool true) rfl (fun _ => by rfl) ?_
        try simp only [Act.put, List.setIfInBounds_toArray, List.set_cons_zero, List.set_cons_succ]
        refine hg_reg 5 (some 40) rfl rfl (by kernel_rfl) (by kernel_rfl) (by kernel_rfl) (fun _ _ _ _ h => h) HS (by simp) (.func (.func 40) #[] #[]) rfl (fun _ => by rfl) ?_
        try simp only [Act.put, List.setIfInBounds_toArray, List.set_cons_zero, List.set_cons_succ]
        refine hg_reg 6 (some 41) rfl rfl (by kernel_rfl) (by kernel_rfl) (by kernel_rfl) (fun _ _ _ _ h => h) HS (by simp) (.slice (some ⟨g, off, none⟩) n cap) rfl (fun _ => by rfl) ?_
        try simp only [Act.put, List.setIfInBounds_toArray, List.set_cons_zero, List.set_cons_succ]
        refine hg_reg 7 (some 42) rfl rfl (by kernel_rfl) (by kernel_rfl) (by kernel_rfl) (fun _ _ _ _ h => h) HS (by simp) (.int .i64 i) rfl (fun _ => by rfl) ?_
        try simp only [Act.put, List.setIfInBounds_toArray, List.set_cons_zero, List.set_cons_succ]
        refine hg_reg 8 (some 43) rfl rfl (by kernel_rfl) (by kernel_rfl) (by kernel_rfl) (fun _ _ _ _ h => h) HS (by simp) (.pointer (some ⟨g, off + i * 4, none⟩)) rfl (fun _ => by go_simp) ?_
        try simp only [Act.put, List.setIfInBounds_toArray, List.set_cons_zero, List.set_cons_succ]
        refine hg_loadsC 9 (some 44) rfl rfl (by kernel_rfl) (by kernel_rfl) (by kernel_rfl) (fun _ _ _ _ h => h) HS (by simp) rfl 29 _ rfl g (off + i * 4) rfl 4 sh29 (x.lst) rfl (fun w2 h2 => HC.out w2 h2.isExt) ?_
        try simp only [Act.put, List.setIfInBounds_toArray, List.set_cons_zero, List.set_cons_succ]
        refine hg_loads 10 (some 45) rfl rfl (by kernel_rfl) (by kernel_rfl) (by kernel_rfl) (fun _ _ _ _ h => h) HS (by simp) rfl 29 _ rfl 0 _ _ _ rfl 0 rfl 4 sh29 t.lst rfl (by simpa using cellsAt_self [] t.lst) ?_
        try simp only [Act.put, List.setIfInBounds_toArray, List.set_cons_zero, List.set_cons_succ]
        refine hk_x1 11 (by kernel_rfl) ?_
        refine hg_callv 11 (some 46) rfl rfl rfl HS (by simp) 40 [] (.tmp 40) [.tmp 44, .tmp 45] _ rfl rfl Try.func40 (by kernel_rfl) rfl [.agg x.arr, .agg t.arr] rfl (fun v => v = .int .i64 (ordI x t)) ((order_any x t _).mono (fun e w1 h => by obtain ⟨rfl, hx⟩ := h; exact ⟨_, rfl, rfl, HS.out.ext hx⟩)) ?_
        clear HS; rintro _ w rfl HS
        try simp only [Act.put, List.setIfInBounds_toArray, List.set_cons_zero, List.set_cons_succ]
        refine hg_reg 12 (some 47) rfl rfl (by kernel_rfl) (by kernel_rfl) (by kernel_rfl) (fun _ _ _ _ h => h) HS (by simp) (.bool (ordI x t == 0)) rfl (fun _ => by go_simp) ?_
        try simp only [Act.put, List.setIfInBounds_toArray, List.set_cons_zero, List.set_cons_succ]
        refine hg_reg 13 (some 48) rfl rfl (by kernel_rfl) (by kernel_rfl) (by kernel_rfl) (fun _ _ _ _ h => h) HS (by simp) (.bool (ordI x t == 0)) rfl (fun _ => by rfl) ?_
        try simp only [Act.put, List.setIfInBounds_toArray, List.set_cons_zero, List.set_cons_succ]
        refine hg_reg 14 (some 6) rfl rfl (by kernel_rfl) (by kernel_rfl) (by kernel_rfl) (fun _ _ _ _ h => h) HS (by simp) (.int .i64 i) rfl (fun _ => by rfl) ?_
        try simp only [Act.put, List.setIfInBounds_toArray, List.set_cons_zero, List.set_cons_succ]
        refine hg_reg 15 (some 7) rfl rfl (by kernel_rfl) (by kernel_rfl) (by kernel_rfl) (fun _ _ _ _ h => h) HS (by simp) (.bool (ordI x t == 0)) rfl (fun _ => by rfl) ?_
        try simp only [Act.put, List.setIfInBounds_toArray, List.set_cons_zero, List.set_cons_succ]
        refine hk_done (by kernel_rfl) ?_
        go_wp2_with fail
        go_ret2
        have hh : hitB gs t i = (ordI x t == 0) := by unfold hitB; rw [HX.out]
        exact ⟨i, by rw [← HN.out]; exact hjn, HI.out, HJ.out, by rw [hh]; rfl, HS.out.isExt⟩
      · have hin2 : i = n := by omega
        subst hin2
        have d1 : decide ((i : Int) < (i : Int)) = false := by simp
        go_wp2_with fail
        refine hg_begin [(b4, 29, t.lst)] HS (by kernel_rfl) ?_
        clear HS; intro w HS
        refine hg_reg 0 (some 35) rfl rfl (by kernel_rfl) (by kernel_rfl) (by kernel_rfl) (fun _ _ _ _ h => h) HS (by simp) (.int .i64 i) rfl (fun _ => by rfl) ?_
        try simp only [Act.put, List.setIfInBounds_toArray, List.set_cons_zero, List.set_cons_succ]
        refine hg_reg 1 (some 36) rfl rfl (by kernel_rfl) (by kernel_rfl) (by kernel_rfl) (fun _ _ _ _ h => h) HS (by simp) (.int .i64 i) rfl (fun _ => by rfl) ?_
        try simp only [Act.put, List.setIfInBounds_toArray, List.set_cons_zero, List.set_cons_succ]
        refine hg_reg 2 (some 37) rfl rfl (by kernel_rfl) (by kernel_rfl) (by kernel_rfl) (fun _ _ _ _ h => h) HS (by simp) (.int .i64 i) rfl (fun _ => by rfl) ?_
        try simp only [Act.put, List.setIfInBounds_toArray, List.set_cons_zero, List.set_cons_succ]
        refine hg_reg 3 (some 38) rfl rfl (by kernel_rfl) (by kernel_rfl) (by kernel_rfl) (fun _ _ _ _ h => h) HS (by simp) (.bool false) rfl (fun _ => by go_simp) ?_
        try simp only [Act.put, List.setIfInBounds_toArray, List.set_cons_zero, List.set_cons_succ]
        refine hg_reg 4 (some 39) rfl rfl (by kernel_rfl) (by kernel_rfl) (by kernel_rfl) (fun _ _ _ _ h => h) HS (by simp) (.bool false) rfl (fun _ => by rfl) ?_
        try simp only [Act.put, List.setIfInBounds_toArray, List.set_cons_zero, List.set_cons_succ]
        refine hg_skip 5 (some 40) rfl rfl (by kernel_rfl) (by kernel_rfl) (by kernel_rfl) (fun _ _ _ _ h => h) HS (by simp) rfl ?_
        try simp only [Act.put, List.setIfInBounds_toArray, List.set_cons_zero, List.set_cons_succ]
        refine hg_skip 6 (some 41) rfl rfl (by kernel_rfl) (by kernel_rfl) (by kernel_rfl) (fun _ _ _ _ h => h) HS (by simp) rfl ?_
        try simp only [Act.put, List.setIfInBounds_toArray, List.set_cons_zero, List.set_cons_succ]
        refine hg_skip 7 (some 42) rfl rfl (by kernel_rfl) (by kernel_rfl) (by kernel_rfl) (fun _ _ _ _ h => h) HS (by simp) rfl ?_
        try simp only [Act.put, List.setIfInBounds_toArray, List.set_cons_zero, List.set_cons_succ]
        refine hg_skip 8 (some 43) rfl rfl (by kernel_rfl) (by kernel_rfl) (by kernel_rfl) (fun _ _ _ _ h => h) HS (by simp) rfl ?_
        try simp only [Act.put, List.setIfInBounds_toArray, List.set_cons_zero, List.set_cons_succ]
        refine hg_skip 9 (some 44) rfl rfl (by kernel_rfl) (by kernel_rfl) (by kernel_rfl) (fun _ _ _ _ h => h) HS (by simp) rfl ?_
        try simp only [Act.put, List.setIfInBounds_toArray, List.set_cons_zero, List.set_cons_succ]
        refine hg_skip 10 (some 45) rfl rfl (by kernel_rfl) (by kernel_rfl) (by kernel_rfl) (fun _ _ _ _ h => h) HS (by simp) rfl ?_
        try simp only [Act.put, List.setIfInBounds_toArray, List.set_cons_zero, List.set_cons_succ]
        refine hg_skip 11 (some 46) rfl rfl (by kernel_rfl) (by kernel_rfl) (by kernel_rfl) (fun _ _ _ _ h => h) HS (by simp) rfl ?_
        try simp only [Act.put, List.setIfInBounds_toArray, List.set_cons_zero, List.set_cons_succ]
        refine hg_skip 12 (some 47) rfl rfl (by kernel_rfl) (by kernel_rfl) (by kernel_rfl) (fun _ _ _ _ h => h) HS (by simp) rfl ?_
        try simp only [Act.put, List.setIfInBounds_toArray, List.set_cons_zero, List.set_cons_succ]
        refine hg_reg 13 (some 48) rfl rfl (by kernel_rfl) (by kernel_rfl) (by kernel_rfl) (fun _ _ _ _ h => h) HS (by simp) (.bool false) rfl (fun _ => by rfl) ?_
        try simp only [Act.put, List.setIfInBounds_toArray, List.set_cons_zero, List.set_cons_succ]
        refine hg_reg 14 (some 6) rfl rfl (by kernel_rfl) (by kernel_rfl) (by kernel_rfl) (fun _ _ _ _ h => h) HS (by simp) (.int .i64 i) rfl (fun _ => by rfl) ?_
        try simp only [Act.put, List.setIfInBounds_toArray, List.set_cons_zero, List.set_cons_succ]
        refine hg_reg 15 (some 7) rfl rfl (by kernel_rfl) (by kernel_rfl) (by kernel_rfl) (fun _ _ _ _ h => h) HS (by simp) (.bool false) rfl (fun _ => by rfl) ?_
        try simp only [Act.put, List.setIfInBounds_toArray, List.set_cons_zero, List.set_cons_succ]
        refine hk_done (by kernel_rfl) ?_
        go_wp2_with fail
        go_ret2
        have hh : hitB gs t i = false := by unfold hitB; rw [List.getElem?_eq_none (by rw [← HN.out]; exact Nat.le_refl _)]
        exact ⟨i, by rw [← HN.out]; exact Nat.le_refl _, HI.out, HJ.out, by rw [hh]; rfl, HS.out.isExt⟩
end Go.Proofs.Ytnfkplohpjfocaa
