/-
  The contracts of order, conflict and valid of the table of locks.
-/
import Derived.Test.YtnfkplohpjfocaaGreatGrant
set_option linter.unusedVariables false
set_option linter.unusedSimpArgs false
namespace Go.Proofs.YtnfkplohpjfocaaGreat
open Go.RowKit
set_option maxHeartbeats 2000000 in
set_option maxRecDepth 100000 in
theorem order_any (a b : G) (w0 : World) : Calls Tryz.prog 41 #[.agg a.arr, .agg b.arr] w0 fun e w' => e = .returned (.int .i64 (ordI a b)) ∧ Ext w0 w' := by
  have HS : Hid (St none default w0 w0 []) := St.start w0
  go_enter Tryz.func41, Tryz.ntmps41
  go_wp2_with (first | (refine sx_box HS rfl _ _ rfl a.lst rfl ?_; clear HS; intro w b2 HS) | (refine sx_box HS rfl _ _ rfl b.lst rfl ?_; clear HS; intro w b3 HS))
  try simp only [Act.put, List.setIfInBounds_toArray, List.set_cons_zero, List.set_cons_succ]
  replace HS : Hid (St none default w0 w [(b3, 29, [.int .i64 b.tx, .int .i64 b.page, .int .i64 b.slot, .int .i64 b.mode]), (b2, 29, [.int .i64 a.tx, .int .i64 a.page, .int .i64 a.slot, .int .i64 a.mode])]) := HS
  refine hg_begin [(b3, 29, [.int .i64 b.tx, .int .i64 b.page, .int .i64 b.slot, .int .i64 b.mode]), (b2, 29, [.int .i64 a.tx, .int .i64 a.page, .int .i64 a.slot, .int .i64 a.mode])] HS (by kernel_rfl) ?_
  clear HS; intro w HS
  refine hg_reg 0 (some 5) rfl rfl (by kernel_rfl) (by kernel_rfl) (by kernel_rfl) (fun _ _ _ _ h => h) HS (by simp) (.pointer (some ⟨b2, 1, none⟩)) rfl (fun _ => by go_simp) ?_
  try simp only [Act.put, List.setIfInBounds_toArray, List.set_cons_zero, List.set_cons_succ]
  refine hg_reg 1 (some 6) rfl rfl (by kernel_rfl) (by kernel_rfl) (by kernel_rfl) (fun _ _ _ _ h => h) HS (by simp) (.pointer (some ⟨b2, 1, none⟩)) rfl (fun _ => by go_simp) ?_
  try simp only [Act.put, List.setIfInBounds_toArray, List.set_cons_zero, List.set_cons_succ]
  refine hg_load 2 (some 7) rfl rfl (by kernel_rfl) (by kernel_rfl) (by kernel_rfl) (fun _ _ _ _ h => h) HS (by simp) rfl 3 _ rfl 1 _ _ _ rfl 1 rfl _ sh3 (.int .i64 a.page) rfl ?_
  try simp only [Act.put, List.setIfInBounds_toArray, List.set_cons_zero, List.set_cons_succ]
  refine hg_reg 3 (some 8) rfl rfl (by kernel_rfl) (by kernel_rfl) (by kernel_rfl) (fun _ _ _ _ h => h) HS (by simp) (.pointer (some ⟨b3, 1, none⟩)) rfl (fun _ => by go_simp) ?_
  try simp only [Act.put, List.setIfInBounds_toArray, List.set_cons_zero, List.set_cons_succ]
  refine hg_reg 4 (some 9) rfl rfl (by kernel_rfl) (by kernel_rfl) (by kernel_rfl) (fun _ _ _ _ h => h) HS (by simp) (.pointer (some ⟨b3, 1, none⟩)) rfl (fun _ => by go_simp) ?_
  try simp only [Act.put, List.setIfInBounds_toArray, List.set_cons_zero, List.set_cons_succ]
  refine hg_load 5 (some 10) rfl rfl (by kernel_rfl) (by kernel_rfl) (by kernel_rfl) (fun _ _ _ _ h => h) HS (by simp) rfl 3 _ rfl 0 _ _ _ rfl 1 rfl _ sh3 (.int .i64 b.page) rfl ?_
  try simp only [Act.put, List.setIfInBounds_toArray, List.set_cons_zero, List.set_cons_succ]
  refine hg_reg 7 (some 12) rfl rfl (by kernel_rfl) (by kernel_rfl) (by kernel_rfl) (fun _ _ _ _ h => h) HS (by simp) (.pointer (some ⟨b2, 1, none⟩)) rfl (fun _ => by go_simp) ?_
  try simp only [Act.put, List.setIfInBounds_toArray, List.set_cons_zero, List.set_cons_succ]
  refine hg_reg 8 (some 13) rfl rfl (by kernel_rfl) (by kernel_rfl) (by kernel_rfl) (fun _ _ _ _ h => h) HS (by simp) (.pointer (some ⟨b2, 2, none⟩)) rfl (fun _ => by go_simp) ?_
  try simp only [Act.put, List.setIfInBounds_toArray, List.set_cons_zero, List.set_cons_succ]
  refine hg_load 9 (some 14) rfl rfl (by kernel_rfl) (by kernel_rfl) (by kernel_rfl) (fun _ _ _ _ h => h) HS (by simp) rfl 3 _ rfl 1 _ _ _ rfl 2 rfl _ sh3 (.int .i64 a.slot) rfl ?_
  try simp only [Act.put, List.setIfInBounds_toArray, List.set_cons_zero, List.set_cons_succ]
  refine hg_reg 10 (some 15) rfl rfl (by kernel_rfl) (by kernel_rfl) (by kernel_rfl) (fun _ _ _ _ h => h) HS (by simp) (.pointer (some ⟨b3, 1, none⟩)) rfl (fun _ => by go_simp) ?_
  try simp only [Act.put, List.setIfInBounds_toArray, List.set_cons_zero, List.set_cons_succ]
  refine hg_reg 11 (some 16) rfl rfl (by kernel_rfl) (by kernel_rfl) (by kernel_rfl) (fun _ _ _ _ h => h) HS (by simp) (.pointer (some ⟨b3, 2, none⟩)) rfl (fun _ => by go_simp) ?_
  try simp only [Act.put, List.setIfInBounds_toArray, List.set_cons_zero, List.set_cons_succ]
  refine hg_load 12 (some 17) rfl rfl (by kernel_rfl) (by kernel_rfl) (by kernel_rfl) (fun _ _ _ _ h => h) HS (by simp) rfl 3 _ rfl 0 _ _ _ rfl 2 rfl _ sh3 (.int .i64 b.slot) rfl ?_
  try simp only [Act.put, List.setIfInBounds_toArray, List.set_cons_zero, List.set_cons_succ]
  refine hg_reg 14 (some 19) rfl rfl (by kernel_rfl) (by kernel_rfl) (by kernel_rfl) (fun _ _ _ _ h => h) HS (by simp) (.pointer (some ⟨b2, 0, none⟩)) rfl (fun _ => by go_simp) ?_
  try simp only [Act.put, List.setIfInBounds_toArray, List.set_cons_zero, List.set_cons_succ]
  refine hg_load 15 (some 20) rfl rfl (by kernel_rfl) (by kernel_rfl) (by kernel_rfl) (fun _ _ _ _ h => h) HS (by simp) rfl 3 _ rfl 1 _ _ _ rfl 0 rfl _ sh3 (.int .i64 a.tx) rfl ?_
  try simp only [Act.put, List.setIfInBounds_toArray, List.set_cons_zero, List.set_cons_succ]
  refine hg_reg 16 (some 21) rfl rfl (by kernel_rfl) (by kernel_rfl) (by kernel_rfl) (fun _ _ _ _ h => h) HS (by simp) (.pointer (some ⟨b3, 0, none⟩)) rfl (fun _ => by go_simp) ?_
  try simp only [Act.put, List.setIfInBounds_toArray, List.set_cons_zero, List.set_cons_succ]
  refine hg_load 17 (some 22) rfl rfl (by kernel_rfl) (by kernel_rfl) (by kernel_rfl) (fun _ _ _ _ h => h) HS (by simp) rfl 3 _ rfl 0 _ _ _ rfl 0 rfl _ sh3 (.int .i64 b.tx) rfl ?_
  try simp only [Act.put, List.setIfInBounds_toArray, List.set_cons_zero, List.set_cons_succ]
  refine hk_x1 6 (by kernel_rfl) ?_
  refine hg_call 6 (some 11) rfl rfl rfl HS (by simp) 53 _ _ rfl Tryz.func53 (by kernel_rfl) rfl _ (fun v => v = .int .i64 (cmpI a.page b.page)) ((compare_any a.page b.page _).mono (fun e w1 h => by obtain ⟨rfl, rfl⟩ := h; exact ⟨_, rfl, rfl, HS.out⟩)) rfl ?_
  clear HS; rintro _ w rfl HS
  try simp only [Act.put, List.setIfInBounds_toArray, List.set_cons_zero, List.set_cons_succ]
  refine hk_x1 13 (by kernel_rfl) ?_
  refine hg_call 13 (some 18) rfl rfl rfl HS (by simp) 53 _ _ rfl Tryz.func53 (by kernel_rfl) rfl _ (fun v => v = .int .i64 (cmpI a.slot b.slot)) ((compare_any a.slot b.slot _).mono (fun e w1 h => by obtain ⟨rfl, rfl⟩ := h; exact ⟨_, rfl, rfl, HS.out⟩)) rfl ?_
  clear HS; rintro _ w rfl HS
  try simp only [Act.put, List.setIfInBounds_toArray, List.set_cons_zero, List.set_cons_succ]
  refine hk_x1 18 (by kernel_rfl) ?_
  refine hg_call 18 (some 23) rfl rfl rfl HS (by simp) 53 _ _ rfl Tryz.func53 (by kernel_rfl) rfl _ (fun v => v = .int .i64 (cmpI a.tx b.tx)) ((compare_any a.tx b.tx _).mono (fun e w1 h => by obtain ⟨rfl, rfl⟩ := h; exact ⟨_, rfl, rfl, HS.out⟩)) rfl ?_
  clear HS; rintro _ w rfl HS
  try simp only [Act.put, List.setIfInBounds_toArray, List.set_cons_zero, List.set_cons_succ]
  refine hk_x1 19 (by kernel_rfl) ?_
  refine hg_build 19 (some 24) rfl rfl rfl HS (by simp) 38 3 3 [(0, .tmp 11), (1, .tmp 18), (2, .tmp 23)] rfl [(0, .int .i64 (cmpI a.page b.page)), (1, .int .i64 (cmpI a.slot b.slot)), (2, .int .i64 (cmpI a.tx b.tx))] rfl [.int .i64 (cmpI a.page b.page), .int .i64 (cmpI a.slot b.slot), .int .i64 (cmpI a.tx b.tx)] (fun w => build_ints3 _ _ _ w) ?_
  clear HS; intro w b24 HS
  try simp only [Act.put, List.setIfInBounds_toArray, List.set_cons_zero, List.set_cons_succ]
  refine hk_x1 20 (by kernel_rfl) ?_
  refine hg_call 20 (some 25) rfl rfl rfl HS (by simp) 63 _ _ rfl Tryz.func63 (by kernel_rfl) rfl _ (fun v => v = .int .i64 (or3 (cmpI a.page b.page) (cmpI a.slot b.slot) (cmpI a.tx b.tx))) ((or_any b24 (cmpI a.page b.page) (cmpI a.slot b.slot) (cmpI a.tx b.tx) _ ((HS.out.box (i := 0) rfl).cell (o := 0) rfl) ((HS.out.box (i := 0) rfl).cell (o := 1) rfl) ((HS.out.box (i := 0) rfl).cell (o := 2) rfl)).mono (fun e w1 h => by obtain ⟨rfl, rfl⟩ := h; exact ⟨_, rfl, rfl, HS.out⟩)) rfl ?_
  clear HS; rintro _ w rfl HS
  try simp only [Act.put, List.setIfInBounds_toArray, List.set_cons_zero, List.set_cons_succ]
  refine hg_reg 21 (some 4) rfl rfl (by kernel_rfl) (by kernel_rfl) (by kernel_rfl) (fun _ _ _ _ h => h) HS (by simp) (.int .i64 (or3 (cmpI a.page b.page) (cmpI a.slot b.slot) (cmpI a.tx b.tx))) rfl (fun _ => by rfl) ?_
  try simp only [Act.put, List.setIfInBounds_toArray, List.set_cons_zero, List.set_cons_succ]
  refine hk_done (by kernel_rfl) ?_
  go_wp2_with fail
  go_ret
  exact ⟨rfl, HS.out.isExt⟩
theorem eql_lock (p s p2 s2 : Int) (w : World) : (binOp .eql 27 (.agg #[.int .i64 p, .int .i64 s]) (.agg #[.int .i64 p2, .int .i64 s2])).run Tryz.prog w = .ok (.bool ((p == p2) && (s == s2))) w := by
  cases h1 : (p == p2) <;> cases h2 : (s == s2) <;> simp [go_sem, h1, h2, Tryz.underlying27]
set_option maxHeartbeats 2000000 in
theorem lk_conflict (a b : G) (w0 : World) : Calls Tryz.prog 42 #[.agg a.arr, .agg b.arr] w0 fun e w' => e = .returned (.bool (conflictB a b)) ∧ Ext w0 w' := by
  obtain ⟨a1, a2, a3, a4⟩ := a
  obtain ⟨b1, b2, b3, b4⟩ := b
  unfold G.arr G.lst
  dsimp only
  have hq := eql_lock a2 a3 b2 b3
  cases h1 : (a1 == b1) with
  | true =>
    have h1 : (a1 != b1) = false := by simp [bne, h1]
    go_enter Tryz.func42, Tryz.ntmps42
    go_wp2
    go_ret
    exact ⟨ret_bool (by simp [conflictB, h1]), ((Ext.refl _).alloc _).alloc _⟩
  | false =>
    have h1 : (a1 != b1) = true := by simp [bne, h1]
    cases h2 : ((a2 == b2) && (a3 == b3)) with
    | false =>
      rw [h2] at hq
      go_enter Tryz.func42, Tryz.ntmps42
      go_wp2
      go_ret
      exact ⟨ret_bool (by simp [conflictB, sameLock, h1, h2]), ((Ext.refl _).alloc _).alloc _⟩
    | true =>
      rw [h2] at hq
      cases h3 : (a4 == 2)
      all_goals go_enter Tryz.func42, Tryz.ntmps42
      all_goals go_wp2
      all_goals go_ret
      all_goals exact ⟨ret_bool (by simp [conflictB, sameLock, h1, h2, h3]), ((Ext.refl _).alloc _).alloc _⟩
set_option maxHeartbeats 2000000 in
theorem wt_conflict (a b : G) (w0 : World) : Calls Tryz.prog 48 #[.agg a.arr, .agg b.arr] w0 fun e w' => e = .returned (.bool (conflictB a b)) ∧ Ext w0 w' := by
  obtain ⟨a1, a2, a3, a4⟩ := a
  obtain ⟨b1, b2, b3, b4⟩ := b
  unfold G.arr G.lst
  dsimp only
  have hq := eql_lock a2 a3 b2 b3
  cases h1 : (a1 == b1) with
  | true =>
    have h1 : (a1 != b1) = false := by simp [bne, h1]
    go_enter Tryz.func48, Tryz.ntmps48
    go_wp2
    go_ret
    exact ⟨ret_bool (by simp [conflictB, h1]), ((Ext.refl _).alloc _).alloc _⟩
  | false =>
    have h1 : (a1 != b1) = true := by simp [bne, h1]
    cases h2 : ((a2 == b2) && (a3 == b3)) with
    | false =>
      rw [h2] at hq
      go_enter Tryz.func48, Tryz.ntmps48
      go_wp2
      go_ret
      exact ⟨ret_bool (by simp [conflictB, sameLock, h1, h2]), ((Ext.refl _).alloc _).alloc _⟩
    | true =>
      rw [h2] at hq
      cases h3 : (a4 == 2)
      all_goals go_enter Tryz.func48, Tryz.ntmps48
      all_goals go_wp2
      all_goals go_ret
      all_goals exact ⟨ret_bool (by simp [conflictB, sameLock, h1, h2, h3]), ((Ext.refl _).alloc _).alloc _⟩
set_option maxHeartbeats 2000000 in
theorem lk_validG (g : G) (w0 : World) : Calls Tryz.prog 40 #[.agg g.arr] w0 fun e w' => e = .returned (.bool (validG g)) ∧ Ext w0 w' := by
  obtain ⟨a1, a2, a3, a4⟩ := g
  unfold G.arr G.lst
  dsimp only
  go_enter Tryz.func40, Tryz.ntmps40
  go_wp2
  all_goals go_ret
  all_goals refine ⟨ret_bool ?_, (Ext.refl _).alloc _⟩
  all_goals simp_all [validG]
  all_goals omega
end Go.Proofs.YtnfkplohpjfocaaGreat

namespace Go.Proofs.YtnfkplohpjfocaaGreat
open Go.RowKit
def hitB (gs : List G) (t : G) (i : Nat) : Bool := match gs[i]? with | some x => ordI x t == 0 | none => false
def BsPost (gs : List G) (t : G) (w0 : World) (e : Ending) (w' : World) : Prop := ∃ i : Nat, i ≤ gs.length ∧ (∀ x, 0 < i → gs[i - 1]? = some x → ordI x t < 0) ∧ (∀ x, gs[i]? = some x → 0 ≤ ordI x t) ∧ e = .returned (.tuple #[.int .i64 i, .bool (hitB gs t i)]) ∧ Ext w0 w'
set_option maxHeartbeats 4000000 in
set_option maxRecDepth 100000 in
theorem bsearch_any (w0 : World) (v : Value) (gs : List G) (t : G) (h : GsAt w0 v gs) (hb : gs.length ≤ 1000000) : Calls Tryz.prog 83 #[v, .agg t.arr, .func (.func 41) #[] #[]] w0 (BsPost gs t w0) := by
  obtain ⟨ao, cap, rfl, hc1, hc2, hat⟩ := h.get
  obtain ⟨n, hn⟩ : ∃ n, n = gs.length := ⟨_, rfl⟩
  rw [← hn] at hc1 hat hb ⊢
  have HN := Lib.hid hn
  have HAT := Lib.hid hat
  clear hn hat h
  have HS : Hid (St none default w0 w0 []) := St.start w0
  go_enter Tryz.func83, Tryz.ntmps83
  go_wp2_with (refine sx_box HS rfl _ _ rfl t.lst rfl ?_; clear HS; intro w b4 HS)
  replace HS : Hid (St none default w0 w [(b4, 29, t.lst)]) := HS
  go_loopw [9, 10] (fun s9 s10 wr => ∃ i j : Nat, i ≤ j ∧ j ≤ n ∧ s9 = .int .i64 i ∧ s10 = .int .i64 j ∧ Hid (∀ x, 0 < i → gs[i - 1]? = some x → ordI x t < 0) ∧ Hid (∀ x, gs[j]? = some x → 0 ≤ ordI x t) ∧ Hid (St none default w0 wr [(b4, 29, t.lst)])) (fun s9 s10 _ => (intOf s10).toNat - (intOf s9).toNat)
  case atStart => exact ⟨0, n, Nat.zero_le _, Nat.le_refl _, rfl, rfl, (fun x h => absurd h (Nat.not_lt_zero _)), (fun x h => by rw [HN.out] at h; simp at h), HS⟩
  case round =>
    obtain ⟨i, j, hij, hjn, rfl, rfl, HI, HJ, HS2⟩ := hrel
    clear HS
    have HS := HS2
    clear HS2
    by_cases hlt : i < j
    · obtain ⟨m, hm⟩ : ∃ m, m = (i + j) / 2 := ⟨_, rfl⟩
      have hm1 : i ≤ m := by omega
      have hm2 : m < j := by omega
      have hmi : ((i : Int) + (j : Int)) / 2 = (m : Int) := by omega
      clear hm
      obtain ⟨x, hx⟩ := list_get_of_lt gs m n HN.out.symm (by omega)
      obtain ⟨g, off, rfl, hcell⟩ := HAT.out (by omega)
      have HC := Lib.hid (hcell m x hx)
      have HX := Lib.hid hx
      clear hcell hx
      have hmn : m < n := by omega
      go_wp2_with fail
      refine hg_begin [(b4, 29, t.lst)] HS (by kernel_rfl) ?_
      clear HS; intro w HS
      refine hg_reg 0 (some 24) rfl rfl (by kernel_rfl) (by kernel_rfl) (by kernel_rfl) (fun _ _ _ _ h => h) HS (by simp) (.func (.func 41) #[] #[]) rfl (fun _ => by rfl) ?_
      try simp only [Act.put, List.setIfInBounds_toArray, List.set_cons_zero, List.set_cons_succ]
      refine hg_reg 1 (some 25) rfl rfl (by kernel_rfl) (by kernel_rfl) (by kernel_rfl) (fun _ _ _ _ h => h) HS (by simp) (.slice (some ⟨g, off, none⟩) n cap) rfl (fun _ => by rfl) ?_
      try simp only [Act.put, List.setIfInBounds_toArray, List.set_cons_zero, List.set_cons_succ]
      refine hg_reg 2 (some 26) rfl rfl (by kernel_rfl) (by kernel_rfl) (by kernel_rfl) (fun _ _ _ _ h => h) HS (by simp) (.int .i64 m) rfl (fun _ => by rfl) ?_
      try simp only [Act.put, List.setIfInBounds_toArray, List.set_cons_zero, List.set_cons_succ]
      refine hg_reg 3 (some 27) rfl rfl (by kernel_rfl) (by kernel_rfl) (by kernel_rfl) (fun _ _ _ _ h => h) HS (by simp) (.pointer (some ⟨g, off + m * 4, none⟩)) rfl (fun _ => by go_simp) ?_
      try simp only [Act.put, List.setIfInBounds_toArray, List.set_cons_zero, List.set_cons_succ]
      refine hg_loadsC 4 (some 28) rfl rfl (by kernel_rfl) (by kernel_rfl) (by kernel_rfl) (fun _ _ _ _ h => h) HS (by simp) rfl 29 _ rfl g (off + m * 4) rfl 4 sh29 (x.lst) rfl (fun w2 h2 => HC.out w2 h2.isExt) ?_
      try simp only [Act.put, List.setIfInBounds_toArray, List.set_cons_zero, List.set_cons_succ]
      refine hg_loads 5 (some 29) rfl rfl (by kernel_rfl) (by kernel_rfl) (by kernel_rfl) (fun _ _ _ _ h => h) HS (by simp) rfl 29 _ rfl 0 _ _ _ rfl 0 rfl 4 sh29 t.lst rfl (by simpa using cellsAt_self [] t.lst) ?_
      try simp only [Act.put, List.setIfInBounds_toArray, List.set_cons_zero, List.set_cons_succ]
      refine hk_x1 6 (by kernel_rfl) ?_
      refine hg_callv 6 (some 30) rfl rfl rfl HS (by simp) 41 [] (.tmp 24) [.tmp 28, .tmp 29] _ rfl rfl Tryz.func41 (by kernel_rfl) rfl [.agg x.arr, .agg t.arr] rfl (fun v => v = .int .i64 (ordI x t)) ((order_any x t _).mono (fun e w1 h => by obtain ⟨rfl, hx⟩ := h; exact ⟨_, rfl, rfl, HS.out.ext hx⟩)) ?_
      clear HS; rintro _ w rfl HS
      try simp only [Act.put, List.setIfInBounds_toArray, List.set_cons_zero, List.set_cons_succ]
      refine hg_reg 7 (some 31) rfl rfl (by kernel_rfl) (by kernel_rfl) (by kernel_rfl) (fun _ _ _ _ h => h) HS (by simp) (.bool (decide (ordI x t < 0))) rfl (fun _ => by go_simp) ?_
      try simp only [Act.put, List.setIfInBounds_toArray, List.set_cons_zero, List.set_cons_succ]
      refine hk_done (by kernel_rfl) ?_
      by_cases hd : ordI x t < 0
      · have d1 : decide (ordI x t < 0) = true := by simpa using hd
        rw [d1]
        clear d1
        go_wp2_with fail
        go_roundw
        case rel => exact ⟨m + 1, j, by omega, hjn, by go_num, rfl, (fun y _ hy => by have := HX.out.symm.trans hy; cases this; exact hd), HJ, HS⟩
        case measure => simp [intOf]; omega
      · have d1 : decide (ordI x t < 0) = false := by simpa using hd
        rw [d1]
        clear d1
        go_wp2_with fail
        go_roundw
        case rel => exact ⟨i, m, hm1, by omega, rfl, rfl, HI, (fun y hy => by have := HX.out.symm.trans hy; cases this; omega), HS⟩
        case measure => simp [intOf]; omega
    · have hij2 : i = j := by omega
      subst hij2
      clear hlt hij
      by_cases hin : i < n
      · obtain ⟨x, hx⟩ := list_get_of_lt gs i n HN.out.symm hin
        obtain ⟨g, off, rfl, hcell⟩ := HAT.out (by omega)
        have HC := Lib.hid (hcell i x hx)
        have HX := Lib.hid hx
        clear hcell hx
        go_wp2_with fail
        refine hg_begin [(b4, 29, t.lst)] HS (by kernel_rfl) ?_
        clear HS; intro w HS
        refine hg_reg 0 (some 35) rfl rfl (by kernel_rfl) (by kernel_rfl) (by kernel_rfl) (fun _ _ _ _ h => h) HS (by simp) (.int .i64 i) rfl (fun _ => by rfl) ?_
        try simp only [Act.put, List.setIfInBounds_toArray, List.set_cons_zero, List.set_cons_succ]
        refine hg_reg 1 (some 36) rfl rfl (by kernel_rfl) (by kernel_rfl) (by kernel_rfl) (fun _ _ _ _ h => h) HS (by simp) (.int .i64 i) rfl (fun _ => by rfl) ?_
        try simp only [Act.put, List.setIfInBounds_toArray, List.set_cons_zero, List.set_cons_succ]
        refine hg_reg 2 (some 37) rfl rfl (by kernel_rfl) (by kernel_rfl) (by kernel_rfl) (fun _ _ _ _ h => h) HS (by simp) (.int .i64 n) rfl (fun _ => by rfl) ?_
        try simp only [Act.put, List.setIfInBounds_toArray, List.set_cons_zero, List.set_cons_succ]
        refine hg_reg 3 (some 38) rfl rfl (by kernel_rfl) (by kernel_rfl) (by kernel_rfl) (fun _ _ _ _ h => h) HS (by simp) (.bool true) rfl (fun _ => by go_simp) ?_
        try simp only [Act.put, List.setIfInBounds_toArray, List.set_cons_zero, List.set_cons_succ]
        refine hg_reg 4 (some 39) rfl rfl (by kernel_rfl) (by kernel_rfl) (by kernel_rfl) (fun _ _ _ _ h => h) HS (by simp) (.bool true) rfl (fun _ => by rfl) ?_
        try simp only [Act.put, List.setIfInBounds_toArray, List.set_cons_zero, List.set_cons_succ]
        refine hg_reg 5 (some 40) rfl rfl (by kernel_rfl) (by kernel_rfl) (by kernel_rfl) (fun _ _ _ _ h => h) HS (by simp) (.func (.func 41) #[] #[]) rfl (fun _ => by rfl) ?_
        try simp only [Act.put, List.setIfInBounds_toArray, List.set_cons_zero, List.set_cons_succ]
        refine hg_reg 6 (some 41) rfl rfl (by kernel_rfl) (by kernel_rfl) (by kernel_rfl) (fun _ _ _ _ h => h) HS (by simp) (.slice (some ⟨g, off, none⟩) n cap) rfl (fun _ => by rfl) ?_
        try simp only [Act.put, List.setIfInBounds_toArray, List.set_cons_zero, List.set_cons_succ]
        refine hg_reg 7 (some 42) rfl rfl (by kernel_rfl) (by kernel_rfl) (by kernel_rfl) (fun _ _ _ _ h => h) HS (by simp) (.int .i64 i) rfl (fun _ => by rfl) ?_
        try simp only [Act.put, List.setIfInBounds_toArray, List.set_cons_zero, List.set_cons_succ]
        refine hg_reg 8 (some 43) rfl rfl (by kernel_rfl) (by kernel_rfl) (by kernel_rfl) (fun _ _ _ _ h => h) HS (by simp) (.pointer (some ⟨g, off + i * 4, none⟩)) rfl (fun _ => by go_simp) ?_
        try simp only [Act.put, List.setIfInBounds_toArray, List.set_cons_zero, List.set_cons_succ]
        refine hg_loadsC 9 (some 44) rfl rfl (by kernel_rfl) (by kernel_rfl) (by kernel_rfl) (fun _ _ _ _ h => h) HS (by simp) rfl 29 _ rfl g (off + i * 4) rfl 4 sh29 (x.lst) rfl (fun w2 h2 => HC.out w2 h2.isExt) ?_
        try simp only [Act.put, List.setIfInBounds_toArray, List.set_cons_zero, List.set_cons_succ]
        refine hg_loads 10 (some 45) rfl rfl (by kernel_rfl) (by kernel_rfl) (by kernel_rfl) (fun _ _ _ _ h => h) HS (by simp) rfl 29 _ rfl 0 _ _ _ rfl 0 rfl 4 sh29 t.lst rfl (by simpa using cellsAt_self [] t.lst) ?_
        try simp only [Act.put, List.setIfInBounds_toArray, List.set_cons_zero, List.set_cons_succ]
        refine hk_x1 11 (by kernel_rfl) ?_
        refine hg_callv 11 (some 46) rfl rfl rfl HS (by simp) 41 [] (.tmp 40) [.tmp 44, .tmp 45] _ rfl rfl Tryz.func41 (by kernel_rfl) rfl [.agg x.arr, .agg t.arr] rfl (fun v => v = .int .i64 (ordI x t)) ((order_any x t _).mono (fun e w1 h => by obtain ⟨rfl, hx⟩ := h; exact ⟨_, rfl, rfl, HS.out.ext hx⟩)) ?_
        clear HS; rintro _ w rfl HS
        try simp only [Act.put, List.setIfInBounds_toArray, List.set_cons_zero, List.set_cons_succ]
        refine hg_reg 12 (some 47) rfl rfl (by kernel_rfl) (by kernel_rfl) (by kernel_rfl) (fun _ _ _ _ h => h) HS (by simp) (.bool (ordI x t == 0)) rfl (fun _ => by go_simp) ?_
        try simp only [Act.put, List.setIfInBounds_toArray, List.set_cons_zero, List.set_cons_succ]
        refine hg_reg 13 (some 48) rfl rfl (by kernel_rfl) (by kernel_rfl) (by kernel_rfl) (fun _ _ _ _ h => h) HS (by simp) (.bool (ordI x t == 0)) rfl (fun _ => by rfl) ?_
        try simp only [Act.put, List.setIfInBounds_toArray, List.set_cons_zero, List.set_cons_succ]
        refine hg_reg 14 (some 6) rfl rfl (by kernel_rfl) (by kernel_rfl) (by kernel_rfl) (fun _ _ _ _ h => h) HS (by simp) (.int .i64 i) rfl (fun _ => by rfl) ?_
        try simp only [Act.put, List.setIfInBounds_toArray, List.set_cons_zero, List.set_cons_succ]
        refine hg_reg 15 (some 7) rfl rfl (by kernel_rfl) (by kernel_rfl) (by kernel_rfl) (fun _ _ _ _ h => h) HS (by simp) (.bool (ordI x t == 0)) rfl (fun _ => by rfl) ?_
        try simp only [Act.put, List.setIfInBounds_toArray, List.set_cons_zero, List.set_cons_succ]
        refine hk_done (by kernel_rfl) ?_
        go_wp2_with fail
        go_ret2
        have hh : hitB gs t i = (ordI x t == 0) := by unfold hitB; rw [HX.out]
        exact ⟨i, by rw [← HN.out]; exact hjn, HI.out, HJ.out, by rw [hh]; rfl, HS.out.isExt⟩
      · have hin2 : i = n := by omega
        subst hin2
        have d1 : decide ((i : Int) < (i : Int)) = false := by simp
        go_wp2_with fail
        refine hg_begin [(b4, 29, t.lst)] HS (by kernel_rfl) ?_
        clear HS; intro w HS
        refine hg_reg 0 (some 35) rfl rfl (by kernel_rfl) (by kernel_rfl) (by kernel_rfl) (fun _ _ _ _ h => h) HS (by simp) (.int .i64 i) rfl (fun _ => by rfl) ?_
        try simp only [Act.put, List.setIfInBounds_toArray, List.set_cons_zero, List.set_cons_succ]
        refine hg_reg 1 (some 36) rfl rfl (by kernel_rfl) (by kernel_rfl) (by kernel_rfl) (fun _ _ _ _ h => h) HS (by simp) (.int .i64 i) rfl (fun _ => by rfl) ?_
        try simp only [Act.put, List.setIfInBounds_toArray, List.set_cons_zero, List.set_cons_succ]
        refine hg_reg 2 (some 37) rfl rfl (by kernel_rfl) (by kernel_rfl) (by kernel_rfl) (fun _ _ _ _ h => h) HS (by simp) (.int .i64 i) rfl (fun _ => by rfl) ?_
        try simp only [Act.put, List.setIfInBounds_toArray, List.set_cons_zero, List.set_cons_succ]
        refine hg_reg 3 (some 38) rfl rfl (by kernel_rfl) (by kernel_rfl) (by kernel_rfl) (fun _ _ _ _ h => h) HS (by simp) (.bool false) rfl (fun _ => by go_simp) ?_
        try simp only [Act.put, List.setIfInBounds_toArray, List.set_cons_zero, List.set_cons_succ]
        refine hg_reg 4 (some 39) rfl rfl (by kernel_rfl) (by kernel_rfl) (by kernel_rfl) (fun _ _ _ _ h => h) HS (by simp) (.bool false) rfl (fun _ => by rfl) ?_
        try simp only [Act.put, List.setIfInBounds_toArray, List.set_cons_zero, List.set_cons_succ]
        refine hg_skip 5 (some 40) rfl rfl (by kernel_rfl) (by kernel_rfl) (by kernel_rfl) (fun _ _ _ _ h => h) HS (by simp) rfl ?_
        try simp only [Act.put, List.setIfInBounds_toArray, List.set_cons_zero, List.set_cons_succ]
        refine hg_skip 6 (some 41) rfl rfl (by kernel_rfl) (by kernel_rfl) (by kernel_rfl) (fun _ _ _ _ h => h) HS (by simp) rfl ?_
        try simp only [Act.put, List.setIfInBounds_toArray, List.set_cons_zero, List.set_cons_succ]
        refine hg_skip 7 (some 42) rfl rfl (by kernel_rfl) (by kernel_rfl) (by kernel_rfl) (fun _ _ _ _ h => h) HS (by simp) rfl ?_
        try simp only [Act.put, List.setIfInBounds_toArray, List.set_cons_zero, List.set_cons_succ]
        refine hg_skip 8 (some 43) rfl rfl (by kernel_rfl) (by kernel_rfl) (by kernel_rfl) (fun _ _ _ _ h => h) HS (by simp) rfl ?_
        try simp only [Act.put, List.setIfInBounds_toArray, List.set_cons_zero, List.set_cons_succ]
        refine hg_skip 9 (some 44) rfl rfl (by kernel_rfl) (by kernel_rfl) (by kernel_rfl) (fun _ _ _ _ h => h) HS (by simp) rfl ?_
        try simp only [Act.put, List.setIfInBounds_toArray, List.set_cons_zero, List.set_cons_succ]
        refine hg_skip 10 (some 45) rfl rfl (by kernel_rfl) (by kernel_rfl) (by kernel_rfl) (fun _ _ _ _ h => h) HS (by simp) rfl ?_
        try simp only [Act.put, List.setIfInBounds_toArray, List.set_cons_zero, List.set_cons_succ]
        refine hg_skip 11 (some 46) rfl rfl (by kernel_rfl) (by kernel_rfl) (by kernel_rfl) (fun _ _ _ _ h => h) HS (by simp) rfl ?_
        try simp only [Act.put, List.setIfInBounds_toArray, List.set_cons_zero, List.set_cons_succ]
        refine hg_skip 12 (some 47) rfl rfl (by kernel_rfl) (by kernel_rfl) (by kernel_rfl) (fun _ _ _ _ h => h) HS (by simp) rfl ?_
        try simp only [Act.put, List.setIfInBounds_toArray, List.set_cons_zero, List.set_cons_succ]
        refine hg_reg 13 (some 48) rfl rfl (by kernel_rfl) (by kernel_rfl) (by kernel_rfl) (fun _ _ _ _ h => h) HS (by simp) (.bool false) rfl (fun _ => by rfl) ?_
        try simp only [Act.put, List.setIfInBounds_toArray, List.set_cons_zero, List.set_cons_succ]
        refine hg_reg 14 (some 6) rfl rfl (by kernel_rfl) (by kernel_rfl) (by kernel_rfl) (fun _ _ _ _ h => h) HS (by simp) (.int .i64 i) rfl (fun _ => by rfl) ?_
        try simp only [Act.put, List.setIfInBounds_toArray, List.set_cons_zero, List.set_cons_succ]
        refine hg_reg 15 (some 7) rfl rfl (by kernel_rfl) (by kernel_rfl) (by kernel_rfl) (fun _ _ _ _ h => h) HS (by simp) (.bool false) rfl (fun _ => by rfl) ?_
        try simp only [Act.put, List.setIfInBounds_toArray, List.set_cons_zero, List.set_cons_succ]
        refine hk_done (by kernel_rfl) ?_
        go_wp2_with fail
        go_ret2
        have hh : hitB gs t i = false := by unfold hitB; rw [List.getElem?_eq_none (by rw [← HN.out]; exact Nat.le_refl _)]
        exact ⟨i, by rw [← HN.out]; exact Nat.le_refl _, HI.out, HJ.out, by rw [hh]; rfl, HS.out.isExt⟩
end Go.Proofs.YtnfkplohpjfocaaGreat

namespace Go.Proofs.YtnfkplohpjfocaaGreat
open Go.RowKit
/-- A function value of this program, with what it has captured, that says p of each of these grants. -/
structure Pred (w0 : World) (gs : List G) (K : FuncId) (caps : List Value) (p : G → Bool) : Prop where
  fn : ∃ fn, Tryz.prog.funcs[K]? = some fn ∧ (fn.name == "runtime.NumGoroutine") = false ∧ fn.body.isSome = true
  says : ∀ x ∈ gs, ∀ w, Ext w0 w → Calls Tryz.prog K ([Value.agg x.arr] ++ caps).toArray w (fun e w' => e = .returned (.bool (p x)) ∧ Ext w w')
def idxI (gs : List G) (p : G → Bool) : Int := match gs.findIdx? p with | some i => (i : Int) | none => -1
set_option maxHeartbeats 2000000 in
set_option maxRecDepth 100000 in
theorem indexFunc_any (w0 : World) (v : Value) (gs : List G) (h : GsAt w0 v gs) (K : FuncId) (caps : List Value) (p : G → Bool) (hp : Pred w0 gs K caps p) :
    Calls Tryz.prog 46 #[v, .func (.func K) #[] caps.toArray] w0 fun e w' => e = .returned (.int .i64 (idxI gs p)) ∧ Ext w0 w' := by
  obtain ⟨ao, cap, rfl, hc1, hc2, hat⟩ := h.get
  obtain ⟨n, hn⟩ : ∃ n, n = gs.length := ⟨_, rfl⟩
  rw [← hn] at hc1 hat ⊢
  have HN := Lib.hid hn
  have HAT := Lib.hid hat
  obtain ⟨⟨fn, hf1, hf2, hf3⟩, hsays⟩ := hp
  have HF1 := Lib.hid hf1
  have HF2 := Lib.hid hf2
  have HF3 := Lib.hid hf3
  have HP := Lib.hid hsays
  clear hn hat h hf1 hf2 hf3 hsays
  have HS : Hid (St none default w0 w0 []) := St.start w0
  go_enter Tryz.func46, Tryz.ntmps46
  go_wp2_with fail
  go_loopw [8] (fun s wr => ∃ i : Nat, i ≤ n ∧ s = .int .i64 i ∧ Hid (∀ (j : Nat) (x : G), j < i → gs[j]? = some x → p x = false) ∧ Hid (St none default w0 wr [])) (fun s _ => n - (intOf s).toNat)
  case atStart => exact ⟨0, Nat.zero_le _, rfl, (fun j x h => absurd h (Nat.not_lt_zero _)), HS⟩
  case round =>
    obtain ⟨i, hi, rfl, HI, HS2⟩ := hrel
    clear HS
    have HS := HS2
    clear HS2
    by_cases hlt : i < n
    · obtain ⟨x, hx⟩ := list_get_of_lt gs i n HN.out.symm hlt
      obtain ⟨g, off, rfl, hcell⟩ := HAT.out (by omega)
      have HC := Lib.hid (hcell i x hx)
      have HX := Lib.hid hx
      clear hcell hx
      cases hpx : p x with
      | true =>
        have HCC : Hid (∀ w, Ext w0 w → Calls Tryz.prog K ([Value.agg x.arr] ++ caps).toArray w (fun e w' => e = .returned (.bool true) ∧ Ext w w')) := fun w k => by
          have h := HP.out x (List.mem_of_getElem? HX.out) w k
          rw [hpx] at h
          exact h
        have tok1 : True := trivial
        have HPX := Lib.hid hpx
        clear hpx
        go_wp2_with (first | (refine sx_loadsC rfl 29 _ rfl g (off + i * 4) rfl 4 sh29 x.lst rfl (HC.out _ HS.out.isExt) ?_) | (have _t := tok1; refine sx_callv rfl K caps (.tmp 11) [.tmp 15] _ rfl rfl HF1.out HF2.out HF3.out [.agg x.arr] rfl (fun v w' => v = .bool true ∧ St none default w0 w' []) ((HCC.out _ HS.out.isExt).mono (fun e w1 h => by obtain ⟨rfl, hx⟩ := h; exact ⟨_, rfl, rfl, HS.out.ext hx⟩)) ?_; clear HS tok1; rintro _ w ⟨rfl, hst⟩; have HS := Lib.hid hst; clear hst))
        go_ret
        refine ⟨ret_int ?_, HS.out.isExt⟩
        unfold idxI
        have e : gs.findIdx? p = some i := by
          rw [List.findIdx?_eq_some_iff_getElem]
          obtain ⟨h1, h2⟩ := List.getElem?_eq_some_iff.1 HX.out
          refine ⟨h1, by rw [h2]; exact HPX.out, fun j hj => ?_⟩
          have := HI.out j gs[j] hj (List.getElem?_eq_getElem _)
          simp [this]
        rw [e]
      | false =>
        have HCC : Hid (∀ w, Ext w0 w → Calls Tryz.prog K ([Value.agg x.arr] ++ caps).toArray w (fun e w' => e = .returned (.bool false) ∧ Ext w w')) := fun w k => by
          have h := HP.out x (List.mem_of_getElem? HX.out) w k
          rw [hpx] at h
          exact h
        have tok1 : True := trivial
        have HPX := Lib.hid hpx
        clear hpx
        go_wp2_with (first | (refine sx_loadsC rfl 29 _ rfl g (off + i * 4) rfl 4 sh29 x.lst rfl (HC.out _ HS.out.isExt) ?_) | (have _t := tok1; refine sx_callv rfl K caps (.tmp 11) [.tmp 15] _ rfl rfl HF1.out HF2.out HF3.out [.agg x.arr] rfl (fun v w' => v = .bool false ∧ St none default w0 w' []) ((HCC.out _ HS.out.isExt).mono (fun e w1 h => by obtain ⟨rfl, hx⟩ := h; exact ⟨_, rfl, rfl, HS.out.ext hx⟩)) ?_; clear HS tok1; rintro _ w ⟨rfl, hst⟩; have HS := Lib.hid hst; clear hst))
        go_roundw
        case rel => exact ⟨i + 1, by omega, by go_num, (fun j y hj hy => by
          by_cases e : j = i
          · subst e; have := HX.out.symm.trans hy; cases this; exact HPX.out
          · exact HI.out j y (by omega) hy), HS⟩
        case measure => simp [intOf]; omega
    · have hin : i = n := by omega
      subst hin
      go_wp2_with fail
      go_ret
      refine ⟨ret_int ?_, HS.out.isExt⟩
      unfold idxI
      have e : gs.findIdx? p = none := by
        rw [List.findIdx?_eq_none_iff]
        intro x hx
        obtain ⟨j, hj⟩ := List.mem_iff_getElem?.1 hx
        have hlt2 := (List.getElem?_eq_some_iff.1 hj).1
        exact HI.out j x (by rw [HN.out]; exact hlt2) hj
      rw [e]
theorem idxI_neg {gs : List G} {p : G → Bool} : (0 ≤ idxI gs p) ↔ gs.any p = true := by
  unfold idxI
  cases h : gs.findIdx? p with
  | none =>
    rw [List.findIdx?_eq_none_iff] at h
    simp only [List.any_eq_true]
    constructor
    · intro h; omega
    · rintro ⟨x, hx, hp⟩
      rw [h x hx] at hp
      cases hp
  | some i =>
    rw [List.findIdx?_eq_some_iff_getElem] at h
    obtain ⟨h1, h2, _⟩ := h
    simp only [List.any_eq_true]
    exact ⟨fun _ => ⟨_, List.getElem_mem h1, h2⟩, fun _ => by omega⟩
set_option maxHeartbeats 2000000 in
theorem containsFunc_any (w0 : World) (v : Value) (gs : List G) (h : GsAt w0 v gs) (K : FuncId) (caps : List Value) (p : G → Bool) (hp : Pred w0 gs K caps p) :
    Calls Tryz.prog 44 #[v, .func (.func K) #[] caps.toArray] w0 fun e w' => e = .returned (.bool (gs.any p)) ∧ Ext w0 w' := by
  have H := Lib.hid (indexFunc_any w0 v gs h K caps p hp)
  have hd : decide (0 ≤ idxI gs p) = gs.any p := by
    rw [Bool.eq_iff_iff, decide_eq_true_iff, idxI_neg]
  have HD := Lib.hid hd
  clear h hp hd
  go_enter Tryz.func44, Tryz.ntmps44
  go_wp2_with fail
  refine H.out.mono ?_
  rintro e w ⟨rfl, hx⟩
  go_wp2_with fail
  go_ret
  exact ⟨ret_bool HD.out, hx⟩
end Go.Proofs.YtnfkplohpjfocaaGreat

namespace Go.Proofs.YtnfkplohpjfocaaGreat
open Go.RowKit
theorem ltG_irrefl (a : G) : ¬ ltG a a := by unfold ltG; omega
theorem sorted_get {gs : List G} (h : sortedG gs) {i j : Nat} {x y : G} (hij : i < j) (hx : gs[i]? = some x) (hy : gs[j]? = some y) : ltG x y := by
  obtain ⟨h1, rfl⟩ := List.getElem?_eq_some_iff.1 hx
  obtain ⟨h2, rfl⟩ := List.getElem?_eq_some_iff.1 hy
  exact List.pairwise_iff_getElem.1 h i j h1 h2 hij
/-- The same transaction and lock. -/
def sameKey (t : G) (g : G) : Bool := (g.tx == t.tx) && sameLock g t
theorem sameKey_iff {t g : G} : sameKey t g = true ↔ ordI g t = 0 := by
  rw [ordI_zero]
  unfold sameKey sameLock
  simp only [Bool.and_eq_true, beq_iff_eq]
  constructor
  · rintro ⟨h1, h2, h3⟩; exact ⟨h2, h3, h1⟩
  · rintro ⟨h1, h2, h3⟩; exact ⟨h3, h1, h2⟩
/-- In which mode a transaction holds a lock. -/
def modeF (gs : List G) (t : G) : Int := match gs.find? (sameKey t) with | some g => g.mode | none => 0
/-- What a binary search in sorted grants finds. -/
structure Found (gs : List G) (t : G) (i : Nat) : Prop where
  le : i ≤ gs.length
  before : ∀ (j : Nat) (x : G), j < i → gs[j]? = some x → ltG x t
  behind : ∀ (j : Nat) (x : G), i ≤ j → gs[j]? = some x → ¬ ltG x t
theorem found_of {gs : List G} {t : G} {i : Nat} (hs : sortedG gs) (h0 : i ≤ gs.length) (h1 : ∀ x, 0 < i → gs[i - 1]? = some x → ordI x t < 0) (h2 : ∀ x, gs[i]? = some x → 0 ≤ ordI x t) : Found gs t i := by
  refine ⟨h0, fun j x hj hx => ?_, fun j x hj hx hlt => ?_⟩
  · obtain ⟨y, hy⟩ := list_get_of_lt gs (i - 1) gs.length rfl (by omega)
    have h3 := ordI_lt.1 (h1 y (by omega) hy)
    by_cases e : j = i - 1
    · subst e
      have := hy.symm.trans hx
      cases this
      exact h3
    · exact ltG_trans (sorted_get hs (by omega) hx hy) h3
  · have hjl := (List.getElem?_eq_some_iff.1 hx).1
    obtain ⟨y, hy⟩ := list_get_of_lt gs i gs.length rfl (by omega)
    have h3 := h2 y hy
    have h4 : ¬ ltG y t := fun h => by have := ordI_lt.2 h; omega
    by_cases e : j = i
    · subst e
      have := hy.symm.trans hx
      cases this
      exact h4 hlt
    · exact h4 (ltG_trans (sorted_get hs (by omega) hy hx) hlt)
theorem sameKey_not_lt {t g : G} (h : sameKey t g = true) : ¬ ltG g t ∧ ¬ ltG t g := by
  have := ordI_zero.1 (sameKey_iff.1 h)
  unfold ltG
  omega
theorem find_hit {gs : List G} {t x : G} {i : Nat} (hs : sortedG gs) (hx : gs[i]? = some x) (h : ordI x t = 0) : gs.find? (sameKey t) = some x := by
  have hk := sameKey_iff.2 h
  rw [List.find?_eq_some_iff_append]
  obtain ⟨h1, rfl⟩ := List.getElem?_eq_some_iff.1 hx
  refine ⟨hk, gs.take i, gs.drop (i + 1), ?_, fun y hy => ?_⟩
  · rw [List.append_cons, ← List.take_succ_eq_append_getElem h1, List.take_append_drop]
  · obtain ⟨j, hj⟩ := List.mem_iff_getElem?.1 hy
    rw [List.getElem?_take] at hj
    by_cases hlt : j < i
    · rw [if_pos hlt] at hj
      have h2 := sorted_get hs hlt hj hx
      cases hc : sameKey t y with
      | false => rfl
      | true =>
        exfalso
        have a1 := ordI_zero.1 (sameKey_iff.1 hc)
        have a2 := ordI_zero.1 h
        unfold ltG at h2
        omega
    · rw [if_neg hlt] at hj; cases hj
theorem find_miss {gs : List G} {t : G} {i : Nat} (hs : sortedG gs) (hf : Found gs t i) (h : ∀ x, gs[i]? = some x → ordI x t ≠ 0) : gs.find? (sameKey t) = none := by
  rw [List.find?_eq_none]
  intro y hy hc
  obtain ⟨j, hj⟩ := List.mem_iff_getElem?.1 hy
  have hk := sameKey_not_lt hc
  have hz := sameKey_iff.1 hc
  by_cases h1 : j < i
  · exact hk.1 (hf.before j y h1 hj)
  · by_cases h2 : j = i
    · subst h2
      exact h y hj hz
    · have hjl := (List.getElem?_eq_some_iff.1 hj).1
      obtain ⟨x, hx⟩ := list_get_of_lt gs i gs.length rfl (by omega)
      have h3 := sorted_get hs (show i < j by omega) hx hj
      have h4 := hf.behind i x (Nat.le_refl _) hx
      have h5 := ordI_zero.1 hz
      have h6 := h x hx
      apply h6
      rw [ordI_zero]
      unfold ltG at h3 h4
      omega
theorem modeF_hit {gs : List G} {t x : G} {i : Nat} (hs : sortedG gs) (hx : gs[i]? = some x) (h : ordI x t = 0) : modeF gs t = x.mode := by unfold modeF; rw [find_hit hs hx h]
theorem modeF_miss {gs : List G} {t : G} {i : Nat} (hs : sortedG gs) (hf : Found gs t i) (h : ∀ x, gs[i]? = some x → ordI x t ≠ 0) : modeF gs t = 0 := by unfold modeF; rw [find_miss hs hf h]
theorem modeF_key (gs : List G) (a b : G) (h1 : a.tx = b.tx) (h2 : a.page = b.page) (h3 : a.slot = b.slot) : modeF gs a = modeF gs b := by
  have : sameKey a = sameKey b := by funext g; unfold sameKey sameLock; rw [h1, h2, h3]
  unfold modeF
  rw [this]
/-- The first k of a slice. -/
theorem GsAt.take {w : World} {ao : Option Addr} {n cap k : Nat} {gs : List G} (h : GsAt w (.slice ao n cap) gs) (hk : k ≤ n) : GsAt w (sliced ao 0 k cap 4) (gs.take k) := by
  obtain ⟨ao', cap', h1, h2, h3, h4⟩ := h
  simp only [Value.slice.injEq] at h1
  obtain ⟨rfl, h1, rfl⟩ := h1
  rw [List.length_map] at h1 h2
  have hl : ((gs.take k).map G.lst).length = k := by rw [List.length_map, List.length_take]; omega
  have hsl : sliced ao 0 k cap 4 = .slice ao k cap := by
    unfold sliced
    cases ao with
    | none => split <;> simp
    | some a =>
      obtain ⟨b, o, s⟩ := a
      split
      · simp
      · simp [Addr.add]
  refine ⟨ao, cap, by rw [hl, hsl], by omega, h3, fun hne => ?_⟩
  obtain ⟨g, off, h5, h6⟩ := h4 (fun e => hne (by rw [List.map_take, e]; simp))
  refine ⟨g, off, h5, fun i r hi => h6 i r ?_⟩
  rw [List.map_take, List.getElem?_take] at hi
  by_cases hlt : i < k
  · rw [if_pos hlt] at hi; exact hi
  · rw [if_neg hlt] at hi; cases hi
section
variable {P : Program} {ops : Array Oper} {Q : Exit → Act → World → Prop} {a : Act} {w : World} {cc : Option Nat} {q : CodeRow} {w0 : World} {l : List (Nat × TypeId × List Value)} {o : Oper} {rest : List Oper}
/-- A variable of one cell. -/
theorem sx_box1 (HS : Hid (St cc q w0 w l)) (hw : Region.wanted o (yielded ops a.tmps) = true) (ty : TypeId) (x : Operand) (ho : o.op = .box ty x) (v : Value) (hx : a.eval x = v) (hc : v.cells = #[v])
    (h : ∀ w' b, Hid (St cc q w0 w' ((b, ty, [v]) :: l)) → wpList P ops Q rest (a.put o.dst (.pointer (some ⟨b, 0, none⟩))) w') : wpList P ops Q (o :: rest) a w :=
  wpList_wanted hw fun _ hK => by
    have hcs : (a.eval x).cells = [v].toArray := by rw [hx, hc]
    unfold Oper.wp execOp
    simp only [ho]
    have hr : (Instr.box ty (a.eval x)).run P w = .ok (.pointer (some ⟨w.heap.size, 0, none⟩)) (w.alloc (.cells (a.eval x).cells ty)) := by
      simp [Instr.box, newVar, newRow]
    simp only [Sem.run_bind, hr, Result.andThen_ok, Sem.run_pure]
    exact hK _ _ (h _ _ (HS.out.new (by have := NewBox.of w ty (a.eval x).cells; rw [hcs] at this ⊢; exact this)))
end
set_option maxHeartbeats 1000000 in
theorem lk_find (w0 : World) (v : Value) (gs : List G) (tx p s : Int) (h : GsAt w0 v gs) (hb : gs.length ≤ 1000000) : Calls Tryz.prog 64 #[v, .int .i64 tx, .agg #[.int .i64 p, .int .i64 s]] w0 (BsPost gs ⟨tx, p, s, 0⟩ w0) := by
  have HG := Lib.hid h
  clear h
  have HS : Hid (St none default w0 w0 []) := St.start w0
  go_enter Tryz.func64, Tryz.ntmps64
  go_wp2_with (first | (refine sx_box HS rfl _ _ rfl [.int .i64 p, .int .i64 s] rfl ?_; clear HS; intro w b5 HS) | (refine sx_loads HS rfl 27 _ rfl 0 _ _ _ rfl 0 rfl 2 sh27 [.int .i64 p, .int .i64 s] rfl ⟨rfl, rfl, trivial⟩ ?_))
  refine (bsearch_any _ v gs ⟨tx, p, s, 0⟩ (HG.out.ext HS.out.isExt) hb).mono ?_
  rintro e w ⟨i, h1, h2, h3, rfl, hx⟩
  have HF : Hid (BsPost gs ⟨tx, p, s, 0⟩ w0 (.returned (.tuple #[.int .i64 i, .bool (hitB gs ⟨tx, p, s, 0⟩ i)])) w) := ⟨i, h1, h2, h3, rfl, HS.out.isExt.trans hx⟩
  clear h1 h2 h3 hx HS
  go_wp2_with fail
  go_ret2
  exact HF.out
/-- A table of locks by value. -/
def locksArr (vh vw : Value) : Array Value := #[vh, vw]
set_option maxHeartbeats 2000000 in
set_option maxRecDepth 100000 in
theorem lk_mode (w0 : World) (vh vw : Value) (hs : List G) (tx p s : Int) (h : GsAt w0 vh hs) (hb : hs.length ≤ 1000000) (hsort : sortedG hs) (hone : vw.oneCell' = true) : Calls Tryz.prog 43 #[.agg #[vh, vw], .int .i64 tx, .agg #[.int .i64 p, .int .i64 s]] w0 fun e w' => e = .returned (.int .i64 (modeF hs ⟨tx, p, s, 0⟩)) ∧ Ext w0 w' := by
  obtain ⟨ao, cap, rfl, hc1, hc2, hat⟩ := h.get
  have HG := Lib.hid h
  have HB := Lib.hid hb
  have HSO := Lib.hid hsort
  obtain ⟨n, hn⟩ : ∃ n, n = hs.length := ⟨_, rfl⟩
  rw [← hn] at hc1 hat HG ⊢
  have HN := Lib.hid hn
  have HAT := Lib.hid hat
  clear hn hat h hb hsort
  have HS : Hid (St none default w0 w0 []) := St.start w0
  go_enter Tryz.func43, Tryz.ntmps43
  go_wp2_with (first | (refine sx_box HS rfl _ _ rfl [.slice ao n cap, vw] rfl ?_; clear HS; intro w b3 HS) | (refine sx_box HS rfl _ _ rfl [.int .i64 p, .int .i64 s] rfl ?_; clear HS; intro w b5 HS) | (refine sx_load HS rfl 23 _ rfl 1 _ _ _ rfl 0 rfl _ sh23 (.slice ao n cap) rfl ?_) | (refine sx_loads HS rfl 27 _ rfl 0 _ _ _ rfl 0 rfl 2 sh27 [.int .i64 p, .int .i64 s] rfl ⟨rfl, rfl, trivial⟩ ?_))
  replace HS : Hid (St none default w0 w [(b5, 27, [.int .i64 p, .int .i64 s]), (b3, 25, [.slice ao n cap, vw])]) := HS
  refine (lk_find _ _ hs tx p s (HG.out.ext HS.out.isExt) HB.out).mono ?_
  rintro e w ⟨i, h1, h2, h3, rfl, hx⟩
  replace HS := Lib.hid (HS.out.ext hx)
  have hfo := found_of HSO.out h1 h2 h3
  have HFO := Lib.hid hfo
  clear hx h1 h2 h3 hfo
  cases hh : hitB hs ⟨tx, p, s, 0⟩ i with
  | false =>
    have hm : modeF hs ⟨tx, p, s, 0⟩ = 0 := modeF_miss HSO.out HFO.out (fun x hx e => by unfold hitB at hh; rw [hx] at hh; simp [e] at hh)
    have HM := Lib.hid hm
    clear hm hh
    go_wp2_with fail
    go_ret
    exact ⟨by rw [HM.out]; rfl, HS.out.isExt⟩
  | true =>
    obtain ⟨x, hx, ho⟩ : ∃ x, hs[i]? = some x ∧ ordI x ⟨tx, p, s, 0⟩ = 0 := by
      unfold hitB at hh
      cases hx : hs[i]? with
      | none => rw [hx] at hh; cases hh
      | some x => rw [hx] at hh; exact ⟨x, rfl, by simpa using hh⟩
    have HM := Lib.hid (modeF_hit HSO.out hx ho)
    have hin : i < n := by rw [HN.out]; exact (List.getElem?_eq_some_iff.1 hx).1
    obtain ⟨g, off, rfl, hcell⟩ := HAT.out (by omega)
    have HC : Hid (∀ w, Ext w0 w → w.cell? ⟨g, off + i * 4 + 3, none⟩ = some (.int .i64 x.mode)) := fun w k => hcell i x hx w k 3 _ rfl
    clear hcell hx ho hh
    have hcm := HC.out _ HS.out.isExt
    go_wp2_with (refine sx_load HS rfl 23 _ rfl 1 _ _ _ rfl 0 rfl _ sh23 (.slice (some ⟨g, off, none⟩) n cap) rfl ?_)
    go_ret
    exact ⟨by rw [HM.out]; rfl, HS.out.isExt⟩
set_option maxHeartbeats 400000 in
theorem lk_valid1 (x g : G) (b : Nat) (w : World) (hB : PBox w b 29 g.lst) : Calls Tryz.prog 45 #[.agg x.arr, .pointer (some ⟨b, 0, none⟩)] w fun e w' => e = .returned (.bool (x.tx == g.tx)) ∧ Ext w w' := by
  have hlt := hB.lt
  have h0 : w.cell? ⟨b, 0, none⟩ = some (.int .i64 g.tx) := hB.cell rfl
  clear hB
  obtain ⟨x1, x2, x3, x4⟩ := x
  unfold G.arr G.lst
  dsimp only
  go_enter Tryz.func45, Tryz.ntmps45
  go_wp2
  go_ret
  exact ⟨rfl, (Ext.refl _).alloc _⟩
/-- A closure that asks whether a grant is the transaction's: the transaction lies in a cell. -/
theorem lk_waiting1 (x : G) (tx : Int) (b : Nat) (w : World) (h0 : w.cell? ⟨b, 0, none⟩ = some (.int .i64 tx)) : Calls Tryz.prog 77 #[.agg x.arr, .pointer (some ⟨b, 0, none⟩)] w fun e w' => e = .returned (.bool (x.tx == tx)) ∧ Ext w w' := by
  have hlt : b < w.heap.size := block_lt_of_cell h0
  obtain ⟨x1, x2, x3, x4⟩ := x
  unfold G.arr G.lst
  dsimp only
  go_enter Tryz.func77, Tryz.ntmps77
  go_wp2
  go_ret
  exact ⟨rfl, (Ext.refl _).alloc _⟩
end Go.Proofs.YtnfkplohpjfocaaGreat

namespace Go.Proofs.YtnfkplohpjfocaaGreat
open Go.RowKit
def heldAt (hs : List G) (i : Nat) : Bool := match hs[i]? with
  | some g => validG g && (match i with | 0 => true | k + 1 => match hs[k]? with | some y => decide (ordI y g < 0) && !conflictB y g | none => true)
  | none => true
def waitAt (hs ws : List G) (i : Nat) : Bool := match ws[i]? with
  | some g => validG g && decide (modeF hs g < g.mode) && !((ws.take i).any fun x => x.tx == g.tx)
  | none => true
def heldOk (hs : List G) : Bool := (List.range hs.length).all (heldAt hs)
def waitOk (hs ws : List G) : Bool := (List.range ws.length).all (waitAt hs ws)
def validT (hs ws : List G) : Bool := decide (hs.length + ws.length ≤ 1024) && heldOk hs && waitOk hs ws
theorem heldOk_of {hs : List G} (h : ∀ j, j < hs.length → heldAt hs j = true) : heldOk hs = true := by
  unfold heldOk; rw [List.all_eq_true]; intro j hj; exact h j (by simpa using hj)
theorem heldOk_no {hs : List G} {i : Nat} (hi : i < hs.length) (h : heldAt hs i = false) : heldOk hs = false := by
  unfold heldOk; rw [List.all_eq_false]; exact ⟨i, by simpa using hi, by simp [h]⟩
theorem waitOk_of {hs ws : List G} (h : ∀ j, j < ws.length → waitAt hs ws j = true) : waitOk hs ws = true := by
  unfold waitOk; rw [List.all_eq_true]; intro j hj; exact h j (by simpa using hj)
theorem waitOk_no {hs ws : List G} {i : Nat} (hi : i < ws.length) (h : waitAt hs ws i = false) : waitOk hs ws = false := by
  unfold waitOk; rw [List.all_eq_false]; exact ⟨i, by simpa using hi, by simp [h]⟩
theorem sorted_of {hs : List G} (h : ∀ (i : Nat) (x y : G), hs[i]? = some x → hs[i + 1]? = some y → ltG x y) : sortedG hs := by
  unfold sortedG
  rw [List.pairwise_iff_getElem]
  intro i j hi hj hij
  obtain ⟨d, rfl⟩ : ∃ d, j = i + 1 + d := ⟨j - i - 1, by omega⟩
  induction d with
  | zero => exact h i _ _ (List.getElem?_eq_getElem hi) (List.getElem?_eq_getElem hj)
  | succ d ih =>
    have h1 := ih (by omega) (by omega)
    have h2 := h (i + 1 + d) _ _ (List.getElem?_eq_getElem (by omega)) (List.getElem?_eq_getElem (show i + 1 + d + 1 < hs.length by omega))
    exact ltG_trans h1 h2
theorem heldAt_sorted {hs : List G} (h : ∀ j, j < hs.length → heldAt hs j = true) : sortedG hs := by
  refine sorted_of fun i x y hx hy => ?_
  have := h (i + 1) (List.getElem?_eq_some_iff.1 hy).1
  unfold heldAt at this
  rw [hy] at this
  simp only [hx, Bool.and_eq_true, decide_eq_true_eq] at this
  exact ordI_lt.1 this.2.1
theorem heldOk_all {hs : List G} (h : heldOk hs = true) : ∀ j, j < hs.length → heldAt hs j = true := by
  unfold heldOk at h; rw [List.all_eq_true] at h; intro j hj; exact h j (by simpa using hj)
theorem validT_sorted {hs ws : List G} (h : validT hs ws = true) : sortedG hs := by
  unfold validT at h
  simp only [Bool.and_eq_true] at h
  exact heldAt_sorted (heldOk_all h.1.2)
theorem validT_len {hs ws : List G} (h : validT hs ws = true) : hs.length + ws.length ≤ 1024 := by
  unfold validT at h
  simp only [Bool.and_eq_true, decide_eq_true_eq] at h
  exact h.1.1
theorem validT_no1 {hs ws : List G} (h : ¬ hs.length + ws.length ≤ 1024) : validT hs ws = false := by simp [validT, h]
theorem validT_no2 {hs ws : List G} (h : heldOk hs = false) : validT hs ws = false := by simp [validT, h]
theorem validT_no3 {hs ws : List G} (h : waitOk hs ws = false) : validT hs ws = false := by simp [validT, h]
theorem validT_yes {hs ws : List G} (h1 : hs.length + ws.length ≤ 1024) (h2 : heldOk hs = true) (h3 : waitOk hs ws = true) : validT hs ws = true := by simp [validT, h1, h2, h3]
section
variable {hs ws : List G} {i : Nat} {x y : G}
theorem heldAt_bad1 (hx : hs[i]? = some x) (h : validG x = false) : heldAt hs i = false := by unfold heldAt; rw [hx]; simp [h]
theorem heldAt_zero (hx : hs[0]? = some x) (h : validG x = true) : heldAt hs 0 = true := by unfold heldAt; rw [hx]; simp [h]
theorem heldAt_bad2 (hx : hs[i + 1]? = some x) (hy : hs[i]? = some y) (h : 0 ≤ ordI y x) : heldAt hs (i + 1) = false := by
  unfold heldAt; rw [hx]
  have : ¬ ordI y x < 0 := by omega
  simp [hy, this]
theorem heldAt_bad3 (hx : hs[i + 1]? = some x) (hy : hs[i]? = some y) (h : conflictB y x = true) : heldAt hs (i + 1) = false := by unfold heldAt; rw [hx]; simp [hy, h]
theorem heldAt_good (hx : hs[i + 1]? = some x) (hy : hs[i]? = some y) (h0 : validG x = true) (h1 : ordI y x < 0) (h : conflictB y x = false) : heldAt hs (i + 1) = true := by unfold heldAt; rw [hx]; simp [hy, h, h0, h1]
theorem waitAt_bad1 (hx : ws[i]? = some x) (h : validG x = false) : waitAt hs ws i = false := by unfold waitAt; rw [hx]; simp [h]
theorem waitAt_bad2 (hx : ws[i]? = some x) (h : x.mode ≤ modeF hs x) : waitAt hs ws i = false := by
  unfold waitAt; rw [hx]
  have : ¬ modeF hs x < x.mode := by omega
  simp [this]
theorem waitAt_bad3 (hx : ws[i]? = some x) (h : ((ws.take i).any fun z => z.tx == x.tx) = true) : waitAt hs ws i = false := by unfold waitAt; rw [hx]; simp only [h]; simp
theorem waitAt_good (hx : ws[i]? = some x) (h0 : validG x = true) (h1 : modeF hs x < x.mode) (h : ((ws.take i).any fun z => z.tx == x.tx) = false) : waitAt hs ws i = true := by unfold waitAt; rw [hx]; simp only [h, h0, h1]; simp
theorem all_next {p : Nat → Bool} {k : Nat} (h : ∀ j, j < k → p j = true) (hk : p k = true) : ∀ j, j < k + 1 → p j = true := fun j hj => by
  by_cases e : j = k
  · subst e; exact hk
  · exact h j (by omega)
end

theorem Ext.pbox {w w' : World} (k : Ext w w') {b : Nat} {T : TypeId} {cs : List Value} (h : PBox w b T cs) : PBox w' b T cs := h.same (k.block b h.lt)
end Go.Proofs.YtnfkplohpjfocaaGreat
