/-
  Closed facts on the row of RollbackOrder (the kernel's).
-/
import Derived.Test.YtnofmmceafkkoaaGreatRows
import Derived.JoinedOf
import Derived.KernelRfl
set_option linter.unusedVariables false
set_option linter.unusedSimpArgs false
namespace Go.Proofs.YtnofmmceafkkoaaGreat.rollbackOrder
set_option maxHeartbeats 8000000 in
theorem k_inPlace : (Rows.rollbackOrderRow.inPlace == Tryz.pinned.checked.prog.inPlace 5) = true := by kernel_rfl
set_option maxHeartbeats 8000000 in
theorem k_unfollowed : (Rows.rollbackOrderRow.unfollowed == Tryz.pinned.checked.prog.unfollowed 5) = true := by kernel_rfl
set_option maxHeartbeats 8000000 in
theorem k_recurses : (Rows.rollbackOrderRow.recurses == Tryz.pinned.checked.prog.recurses 5) = true := by kernel_rfl
set_option maxHeartbeats 8000000 in
theorem k_named : (Rows.rollbackOrderRow.named == Tryz.pinned.checked.prog.varsNamed 5) = true := by kernel_rfl
end Go.Proofs.YtnofmmceafkkoaaGreat.rollbackOrder
