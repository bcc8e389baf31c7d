/-
  Closed facts on the row of RollbackEnds (the kernel's).
-/
import Derived.Test.YtnofmmceafkkoaaGreatRows
import Derived.JoinedOf
import Derived.KernelRfl
set_option linter.unusedVariables false
set_option linter.unusedSimpArgs false
namespace Go.Proofs.YtnofmmceafkkoaaGreat.rollbackEnds
set_option maxHeartbeats 8000000 in
theorem k_inPlace : (Rows.rollbackEndsRow.inPlace == Tryz.pinned.checked.prog.inPlace 3) = true := by kernel_rfl
set_option maxHeartbeats 8000000 in
theorem k_unfollowed : (Rows.rollbackEndsRow.unfollowed == Tryz.pinned.checked.prog.unfollowed 3) = true := by kernel_rfl
set_option maxHeartbeats 8000000 in
theorem k_recurses : (Rows.rollbackEndsRow.recurses == Tryz.pinned.checked.prog.recurses 3) = true := by kernel_rfl
set_option maxHeartbeats 8000000 in
theorem k_named : (Rows.rollbackEndsRow.named == Tryz.pinned.checked.prog.varsNamed 3) = true := by kernel_rfl
end Go.Proofs.YtnofmmceafkkoaaGreat.rollbackEnds
