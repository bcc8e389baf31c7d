/-
  Closed facts on the row of RollbackCells (the kernel's).
-/
import Derived.Test.YtnofmmceafkkoaaGreatRows
import Derived.JoinedOf
import Derived.KernelRfl
set_option linter.unusedVariables false
set_option linter.unusedSimpArgs false
namespace Go.Proofs.YtnofmmceafkkoaaGreat.rollbackCells
set_option maxHeartbeats 8000000 in
theorem k_inPlace : (Rows.rollbackCellsRow.inPlace == Tryz.pinned.checked.prog.inPlace 6) = true := by kernel_rfl
set_option maxHeartbeats 8000000 in
theorem k_unfollowed : (Rows.rollbackCellsRow.unfollowed == Tryz.pinned.checked.prog.unfollowed 6) = true := by kernel_rfl
set_option maxHeartbeats 8000000 in
theorem k_recurses : (Rows.rollbackCellsRow.recurses == Tryz.pinned.checked.prog.recurses 6) = true := by kernel_rfl
set_option maxHeartbeats 8000000 in
theorem k_named : (Rows.rollbackCellsRow.named == Tryz.pinned.checked.prog.varsNamed 6) = true := by kernel_rfl
end Go.Proofs.YtnofmmceafkkoaaGreat.rollbackCells
