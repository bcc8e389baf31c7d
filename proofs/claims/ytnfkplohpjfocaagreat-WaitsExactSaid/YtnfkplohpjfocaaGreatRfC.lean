/-
  The contracts of grant and Conflict of the reference of the table of locks.
-/
import Derived.Test.YtnfkplohpjfocaaGreatLkE
set_option linter.unusedVariables false
set_option linter.unusedSimpArgs false
namespace Go.Proofs.YtnfkplohpjfocaaGreat
open Go.RowKit
set_option maxHeartbeats 2000000 in
theorem rf_conflict (a b : G) (w0 : World) : Calls Tryz.prog 28 #[.agg a.arr, .agg b.arr] w0 fun e w' => e = .returned (.bool (conflictB a b)) ∧ Ext w0 w' := by
  obtain ⟨a1, a2, a3, a4⟩ := a
  obtain ⟨b1, b2, b3, b4⟩ := b
  unfold G.arr G.lst
  dsimp only
  have hq := eql_lock a2 a3 b2 b3
  cases h1 : (a1 == b1) with
  | true =>
    have h1 : (a1 != b1) = false := by simp [bne, h1]
    go_enter Tryz.func28, Tryz.ntmps28
    go_wp2
    go_ret
    exact ⟨ret_bool (by simp [conflictB, h1]), ((Ext.refl _).alloc _).alloc _⟩
  | false =>
    have h1 : (a1 != b1) = true := by simp [bne, h1]
    cases h2 : ((a2 == b2) && (a3 == b3)) with
    | false =>
      rw [h2] at hq
      go_enter Tryz.func28, Tryz.ntmps28
      go_wp2
      go_ret
      exact ⟨ret_bool (by simp [conflictB, sameLock, h1, h2]), ((Ext.refl _).alloc _).alloc _⟩
    | true =>
      rw [h2] at hq
      cases h3 : (a4 == 2)
      all_goals go_enter Tryz.func28, Tryz.ntmps28
      all_goals go_wp2
      all_goals go_ret
      all_goals exact ⟨ret_bool (by simp [conflictB, sameLock, h1, h2, h3]), ((Ext.refl _).alloc _).alloc _⟩
set_option maxHeartbeats 2000000 in
theorem rf_grant (g : G) (w0 : World) : Calls Tryz.prog 37 #[.agg g.arr] w0 fun e w' => e = .returned (.bool (validG g)) ∧ Ext w0 w' := by
  obtain ⟨a1, a2, a3, a4⟩ := g
  unfold G.arr G.lst
  dsimp only
  go_enter Tryz.func37, Tryz.ntmps37
  go_wp2
  all_goals go_ret
  all_goals refine ⟨ret_bool ?_, (Ext.refl _).alloc _⟩
  all_goals simp_all [validG]
  all_goals omega
end Go.Proofs.YtnfkplohpjfocaaGreat
