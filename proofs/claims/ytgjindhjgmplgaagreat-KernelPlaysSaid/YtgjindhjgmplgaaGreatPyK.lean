/-
  Closed facts on the row of KernelPlays (the kernel's).
-/
import Derived.Test.YtgjindhjgmplgaaGreatRows
import Derived.JoinedOf
import Derived.KernelRfl
set_option linter.unusedVariables false
set_option linter.unusedSimpArgs false
namespace Go.Proofs.YtgjindhjgmplgaaGreat.kernelPlays
set_option maxHeartbeats 8000000 in
theorem k_inPlace : (Rows.kernelPlaysRow.inPlace == Tryz.pinned.checked.prog.inPlace 3) = true := by kernel_rfl
set_option maxHeartbeats 8000000 in
theorem k_unfollowed : (Rows.kernelPlaysRow.unfollowed == Tryz.pinned.checked.prog.unfollowed 3) = true := by kernel_rfl
set_option maxHeartbeats 8000000 in
theorem k_recurses : (Rows.kernelPlaysRow.recurses == Tryz.pinned.checked.prog.recurses 3) = true := by kernel_rfl
set_option maxHeartbeats 8000000 in
theorem k_named : (Rows.kernelPlaysRow.named == Tryz.pinned.checked.prog.varsNamed 3) = true := by kernel_rfl
end Go.Proofs.YtgjindhjgmplgaaGreat.kernelPlays
