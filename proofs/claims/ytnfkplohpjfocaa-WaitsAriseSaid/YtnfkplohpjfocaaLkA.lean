/-
  The contracts of order, conflict and valid of the table of locks.
-/
import Derived.Test.YtnfkplohpjfocaaGrant
set_option linter.unusedVariables false
set_option linter.unusedSimpArgs false
namespace Go.Proofs.Ytnfkplohpjfocaa
open Go.RowKit
set_option maxHeartbeats 2000000 in
set_option maxRecDepth 100000 in
theorem order_any (a b : G) (w0 : World) : Calls Try.prog 40 #[.agg a.arr, .agg b.arr] w0 fun e w' => e = .returned (.int .i64 (ordI a b)) ∧ Ext w0 w' := by
  have HS : Hid (St none default w0 w0 []) := St.start w0
  go_enter Try.func40, Try.ntmps40
  go_wp2_with (first | (refine sx_box HS rfl _ _ rfl a.lst rfl ?_; clear HS; intro w b2 HS) | (refine sx_box HS rfl _ _ rfl b.lst rfl ?_; clear HS; intro w b3 HS))
  try simp only [Act.put, List.setIfInBounds_toArray, List.set_cons_zero, List.set_cons_succ]
  replace HS : Hid (St none default w0 w [(b3, 29, [.int .i64 b.tx, .int .i64 b.page, .int .i64 b.slot, .int .i64 b.mode]), (b2, 29, [.int .i64 a.tx, .int .i64 a.page, .int .i64 a.slot, .int .i64 a.mode])]) := HS
  refine hg_begin [(b3, 29, [.int .i64 b.tx, .int .i64 b.page, .int .i64 b.slot, .int .i64 b.mode]), (b2, 29, [.int .i64 a.tx, .int .i64 a.page, .int .i64 a.slot, .int .i64 a.mode])] HS (by kernel_rfl) ?_
  clear HS; intro w HS
  refine hg_reg 0 (some 5) rfl rfl (by kernel_rfl) (by kernel_rfl) (by kernel_rfl) (fun _ _ _ _ h => h) HS (by simp) (.pointer (some ⟨b2, 1, none⟩)) rfl (fun _ => by go_simp) ?_
  try simp only [Act.put, List.setIfInBounds_toArray, List.set_cons_zero, List.set_cons_succ]
  refine hg_reg 1 (some 6) rfl rfl (by kernel_rfl) (by kernel_rfl) (by kernel_rfl) (fun _ _ _ _ h => h) HS (by simp) (.pointer (some ⟨b2, 1, none⟩)) rfl (fun _ => by go_simp) ?_
  try simp only [Act.put, List.setIfInBounds_toArray, List.set_cons_zero, List.set_cons_succ]
  refine hg_load 2 (some 7) rfl rfl (by kernel_rfl) (by kernel_rfl) (by kernel_rfl) (fun _ _ _ _ h => h) HS (by simp) rfl 3 _ rfl 1 _ _ _ rfl 1 rfl _ sh3 (.int .i64 a.page) rfl ?_
  try simp only [Act.put, List.setIfInBounds_toArray, List.set_cons_zero, List.set_cons_succ]
  refine hg_reg 3 (some 8) rfl rfl (by kernel_rfl) (by kernel_rfl) (by kernel_rfl) (fun _ _ _ _ h => h) HS (by simp) (.pointer (some ⟨b3, 1, none⟩)) rfl (fun _ => by go_simp) ?_
  try simp only [Act.put, List.setIfInBounds_toArray, List.set_cons_zero, List.set_cons_succ]
  refine hg_reg 4 (some 9) rfl rfl (by kernel_rfl) (by kernel_rfl) (by kernel_rfl) (fun _ _ _ _ h => h) HS (by simp) (.pointer (some ⟨b3, 1, none⟩)) rfl (fun _ => by go_simp) ?_
  try simp only [Act.put, List.setIfInBounds_toArray, List.set_cons_zero, List.set_cons_succ]
  refine hg_load 5 (some 10) rfl rfl (by kernel_rfl) (by kernel_rfl) (by kernel_rfl) (fun _ _ _ _ h => h) HS (by simp) rfl 3 _ rfl 0 _ _ _ rfl 1 rfl _ sh3 (.int .i64 b.page) rfl ?_
  try simp only [Act.put, List.setIfInBounds_toArray, List.set_cons_zero, List.set_cons_succ]
  refine hg_reg 7 (some 12) rfl rfl (by kernel_rfl) (by kernel_rfl) (by kernel_rfl) (fun _ _ _ _ h => h) HS (by simp) (.pointer (some ⟨b2, 1, none⟩)) rfl (fun _ => by go_simp) ?_
  try simp only [Act.put, List.setIfInBounds_toArray, List.set_cons_zero, List.set_cons_succ]
  refine hg_reg 8 (some 13) rfl rfl (by kernel_rfl) (by kernel_rfl) (by kernel_rfl) (fun _ _ _ _ h => h) HS (by simp) (.pointer (some ⟨b2, 2, none⟩)) rfl (fun _ => by go_simp) ?_
  try simp only [Act.put, List.setIfInBounds_toArray, List.set_cons_zero, List.set_cons_succ]
  refine hg_load 9 (some 14) rfl rfl (by kernel_rfl) (by kernel_rfl) (by kernel_rfl) (fun _ _ _ _ h => h) HS (by simp) rfl 3 _ rfl 1 _ _ _ rfl 2 rfl _ sh3 (.int .i64 a.slot) rfl ?_
  try simp only [Act.put, List.setIfInBounds_toArray, List.set_cons_zero, List.set_cons_succ]
  refine hg_reg 10 (some 15) rfl rfl (by kernel_rfl) (by kernel_rfl) (by kernel_rfl) (fun _ _ _ _ h => h) HS (by simp) (.pointer (some ⟨b3, 1, none⟩)) rfl (fun _ => by go_simp) ?_
  try simp only [Act.put, List.setIfInBounds_toArray, List.set_cons_zero, List.set_cons_succ]
  refine hg_reg 11 (some 16) rfl rfl (by kernel_rfl) (by kernel_rfl) (by kernel_rfl) (fun _ _ _ _ h => h) HS (by simp) (.pointer (some ⟨b3, 2, none⟩)) rfl (fun _ => by go_simp) ?_
  try simp only [Act.put, List.setIfInBounds_toArray, List.set_cons_zero, List.set_cons_succ]
  refine hg_load 12 (some 17) rfl rfl (by kernel_rfl) (by kernel_rfl) (by kernel_rfl) (fun _ _ _ _ h => h) HS (by simp) rfl 3 _ rfl 0 _ _ _ rfl 2 rfl _ sh3 (.int .i64 b.slot) rfl ?_
  try simp only [Act.put, List.setIfInBounds_toArray, List.set_cons_zero, List.set_cons_succ]
  refine hg_reg 14 (some 19) rfl rfl (by kernel_rfl) (by kernel_rfl) (by kernel_rfl) (fun _ _ _ _ h => h) HS (by simp) (.pointer (some ⟨b2, 0, none⟩)) rfl (fun _ => by go_simp) ?_
  try simp only [Act.put, List.setIfInBounds_toArray, List.set_cons_zero, List.set_cons_succ]
  refine hg_load 15 (some 20) rfl rfl (by kernel_rfl) (by kernel_rfl) (by kernel_rfl) (fun _ _ _ _ h => h) HS (by simp) rfl 3 _ rfl 1 _ _ _ rfl 0 rfl _ sh3 (.int .i64 a.tx) rfl ?_
  try simp only [Act.put, List.setIfInBounds_toArray, List.set_cons_zero, List.set_cons_succ]
  refine hg_reg 16 (some 21) rfl rfl (by kernel_rfl) (by kernel_rfl) (by kernel_rfl) (fun _ _ _ _ h => h) HS (by simp) (.pointer (some ⟨b3, 0, none⟩)) rfl (fun _ => by go_simp) ?_
  try simp only [Act.put, List.setIfInBounds_toArray, List.set_cons_zero, List.set_cons_succ]
  refine hg_load 17 (some 22) rfl rfl (by kernel_rfl) (by kernel_rfl) (by kernel_rfl) (fun _ _ _ _ h => h) HS (by simp) rfl 3 _ rfl 0 _ _ _ rfl 0 rfl _ sh3 (.int .i64 b.tx) rfl ?_
  try simp only [Act.put, List.setIfInBounds_toArray, List.set_cons_zero, List.set_cons_succ]
  refine hk_x1 6 (by kernel_rfl) ?_
  refine hg_call 6 (some 11) rfl rfl rfl HS (by simp) 59 _ _ rfl Try.func59 (by kernel_rfl) rfl _ (fun v => v = .int .i64 (cmpI a.page b.page)) ((compare_any a.page b.page _).mono (fun e w1 h => by obtain ⟨rfl, rfl⟩ := h; exact ⟨_, rfl, rfl, HS.out⟩)) rfl ?_
  clear HS; rintro _ w rfl HS
  try simp only [Act.put, List.setIfInBounds_toArray, List.set_cons_zero, List.set_cons_succ]
  refine hk_x1 13 (by kernel_rfl) ?_
  refine hg_call 13 (some 18) rfl rfl rfl HS (by simp) 59 _ _ rfl Try.func59 (by kernel_rfl) rfl _ (fun v => v = .int .i64 (cmpI a.slot b.slot)) ((compare_any a.slot b.slot _).mono (fun e w1 h => by obtain ⟨rfl, rfl⟩ := h; exact ⟨_, rfl, rfl, HS.out⟩)) rfl ?_
  clear HS; rintro _ w rfl HS
  try simp only [Act.put, List.setIfInBounds_toArray, List.set_cons_zero, List.set_cons_succ]
  refine hk_x1 18 (by kernel_rfl) ?_
  refine hg_call 18 (some 23) rfl rfl rfl HS (by simp) 59 _ _ rfl Try.func59 (by kernel_rfl) rfl _ (fun v => v = .int .i64 (cmpI a.tx b.tx)) ((compare_any a.tx b.tx _).mono (fun e w1 h => by obtain ⟨rfl, rfl⟩ := h; exact ⟨_, rfl, rfl, HS.out⟩)) rfl ?_
  clear HS; rintro _ w rfl HS
  try simp only [Act.put, List.setIfInBounds_toArray, List.set_cons_zero, List.set_cons_succ]
  refine hk_x1 19 (by kernel_rfl) ?_
  refine hg_build 19 (some 24) rfl rfl rfl HS (by simp) 30 3 3 [(0, .tmp 11), (1, .tmp 18), (2, .tmp 23)] rfl [(0, .int .i64 (cmpI a.page b.page)), (1, .int .i64 (cmpI a.slot b.slot)), (2, .int .i64 (cmpI a.tx b.tx))] rfl [.int .i64 (cmpI a.page b.page), .int .i64 (cmpI a.slot b.slot), .int .i64 (cmpI a.tx b.tx)] (fun w => build_ints3 _ _ _ w) ?_
  clear HS; intro w b24 HS
  try simp only [Act.put, List.setIfInBounds_toArray, List.set_cons_zero, List.set_cons_succ]
  refine hk_x1 20 (by kernel_rfl) ?_
  refine hg_call 20 (some 25) rfl rfl rfl HS (by simp) 58 _ _ rfl Try.func58 (by kernel_rfl) rfl _ (fun v => v = .int .i64 (or3 (cmpI a.page b.page) (cmpI a.slot b.slot) (cmpI a.tx b.tx))) ((or_any b24 (cmpI a.page b.page) (cmpI a.slot b.slot) (cmpI a.tx b.tx) _ ((HS.out.box (i := 0) rfl).cell (o := 0) rfl) ((HS.out.box (i := 0) rfl).cell (o := 1) rfl) ((HS.out.box (i := 0) rfl).cell (o := 2) rfl)).mono (fun e w1 h => by obtain ⟨rfl, rfl⟩ := h; exact ⟨_, rfl, rfl, HS.out⟩)) rfl ?_
  clear HS; rintro _ w rfl HS
  try simp only [Act.put, List.setIfInBounds_toArray, List.set_cons_zero, List.set_cons_succ]
  refine hg_reg 21 (some 4) rfl rfl (by kernel_rfl) (by kernel_rfl) (by kernel_rfl) (fun _ _ _ _ h => h) HS (by simp) (.int .i64 (or3 (cmpI a.page b.page) (cmpI a.slot b.slot) (cmpI a.tx b.tx))) rfl (fun _ => by rfl) ?_
  try simp only [Act.put, List.setIfInBounds_toArray, List.set_cons_zero, List.set_cons_succ]
  refine hk_done (by kernel_rfl) ?_
  go_wp2_with fail
  go_ret
  exact ⟨rfl, HS.out.isExt⟩
theorem eql_lock (p s p2 s2 : Int) (w : World) : (binOp .eql 27 (.agg #[.int .i64 p, .int .i64 s]) (.agg #[.int .i64 p2, .int .i64 s2])).run Try.prog w = .ok (.bool ((p == p2) && (s == s2))) w := by
  cases h1 : (p == p2) <;> cases h2 : (s == s2) <;> simp [go_sem, h1, h2, Try.underlying27]
set_option maxHeartbeats 2000000 in
theorem lk_conflict (a b : G) (w0 : World) : Calls Try.prog 41 #[.agg a.arr, .agg b.arr] w0 fun e w' => e = .returned (.bool (conflictB a b)) ∧ Ext w0 w' := by
  obtain ⟨a1, a2, a3, a4⟩ := a
  obtain ⟨b1, b2, b3, b4⟩ := b
  unfold G.arr G.lst
  dsimp only
  have hq := eql_lock a2 a3 b2 b3
  cases h1 : (a1 == b1) with
  | true =>
    have h1 : (a1 != b1) = false := by simp [bne, h1]
    go_enter Try.func41, Try.ntmps41
    go_wp2
    go_ret
    exact ⟨ret_bool (by simp [conflictB, h1]), ((Ext.refl _).alloc _).alloc _⟩
  | false =>
    have h1 : (a1 != b1) = true := by simp [bne, h1]
    cases h2 : ((a2 == b2) && (a3 == b3)) with
    | false =>
      rw [h2] at hq
      go_enter Try.func41, Try.ntmps41
      go_wp2
      go_ret
      exact ⟨ret_bool (by simp [conflictB, sameLock, h1, h2]), ((Ext.refl _).alloc _).alloc _⟩
    | true =>
      rw [h2] at hq
      cases h3 : (a4 == 2)
      all_goals go_enter Try.func41, Try.ntmps41
      all_goals go_wp2
      all_goals go_ret
      all_goals exact ⟨ret_bool (by simp [conflictB, sameLock, h1, h2, h3]), ((Ext.refl _).alloc _).alloc _⟩
set_option maxHeartbeats 2000000 in
theorem wt_conflict (a b : G) (w0 : World) : Calls Try.prog 46 #[.agg a.arr, .agg b.arr] w0 fun e w' => e = .returned (.bool (conflictB a b)) ∧ Ext w0 w' := by
  obtain ⟨a1, a2, a3, a4⟩ := a
  obtain ⟨b1, b2, b3, b4⟩ := b
  unfold G.arr G.lst
  dsimp only
  have hq := eql_lock a2 a3 b2 b3
  cases h1 : (a1 == b1) with
  | true =>
    have h1 : (a1 != b1) = false := by simp [bne, h1]
    go_enter Try.func46, Try.ntmps46
    go_wp2
    go_ret
    exact ⟨ret_bool (by simp [conflictB, h1]), ((Ext.refl _).alloc _).alloc _⟩
  | false =>
    have h1 : (a1 != b1) = true := by simp [bne, h1]
    cases h2 : ((a2 == b2) && (a3 == b3)) with
    | false =>
      rw [h2] at hq
      go_enter Try.func46, Try.ntmps46
      go_wp2
      go_ret
      exact ⟨ret_bool (by simp [conflictB, sameLock, h1, h2]), ((Ext.refl _).alloc _).alloc _⟩
    | true =>
      rw [h2] at hq
      cases h3 : (a4 == 2)
      all_goals go_enter Try.func46, Try.ntmps46
      all_goals go_wp2
      all_goals go_ret
      all_goals exact ⟨ret_bool (by simp [conflictB, sameLock, h1, h2, h3]), ((Ext.refl _).alloc _).alloc _⟩
set_option maxHeartbeats 2000000 in
theorem lk_validG (g : G) (w0 : World) : Calls Try.prog 29 #[.agg g.arr] w0 fun e w' => e = .returned (.bool (validG g)) ∧ Ext w0 w' := by
  obtain ⟨a1, a2, a3, a4⟩ := g
  unfold G.arr G.lst
  dsimp only
  go_enter Try.func29, Try.ntmps29
  go_wp2
  all_goals go_ret
  all_goals refine ⟨ret_bool ?_, (Ext.refl _).alloc _⟩
  all_goals simp_all [validG]
  all_goals omega
end Go.Proofs.Ytnfkplohpjfocaa
