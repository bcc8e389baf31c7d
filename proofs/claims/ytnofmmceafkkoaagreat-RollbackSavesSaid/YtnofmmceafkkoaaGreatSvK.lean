/-
  Closed facts on the row of RollbackSaves (the kernel's).
-/
import Derived.Test.YtnofmmceafkkoaaGreatRows
import Derived.JoinedOf
import Derived.KernelRfl
set_option linter.unusedVariables false
set_option linter.unusedSimpArgs false
namespace Go.Proofs.YtnofmmceafkkoaaGreat.rollbackSaves
set_option maxHeartbeats 8000000 in
theorem k_inPlace : (Rows.rollbackSavesRow.inPlace == Tryz.pinned.checked.prog.inPlace 4) = true := by kernel_rfl
set_option maxHeartbeats 8000000 in
theorem k_unfollowed : (Rows.rollbackSavesRow.unfollowed == Tryz.pinned.checked.prog.unfollowed 4) = true := by kernel_rfl
set_option maxHeartbeats 8000000 in
theorem k_recurses : (Rows.rollbackSavesRow.recurses == Tryz.pinned.checked.prog.recurses 4) = true := by kernel_rfl
set_option maxHeartbeats 8000000 in
theorem k_named : (Rows.rollbackSavesRow.named == Tryz.pinned.checked.prog.varsNamed 4) = true := by kernel_rfl
end Go.Proofs.YtnofmmceafkkoaaGreat.rollbackSaves
