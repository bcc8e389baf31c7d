/-
  A closed fact on the row of KernelLocks (the kernel's).
-/
import Derived.Test.YtmbbciidknchiaaGreatRows
import Derived.JoinedOf
import Derived.KernelRfl
namespace Go.Proofs.YtmbbciidknchiaaGreat.kernelLocks
set_option maxHeartbeats 8000000 in
theorem k_named : (Rows.kernelLocksRow.named == Tryz.pinned.checked.prog.varsNamed 4) = true := by kernel_rfl
end Go.Proofs.YtmbbciidknchiaaGreat.kernelLocks
