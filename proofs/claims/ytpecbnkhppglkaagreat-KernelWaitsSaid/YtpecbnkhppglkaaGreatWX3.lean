/-
  A closed fact on the row of KernelWaits (the kernel's).
-/
import Derived.Test.YtpecbnkhppglkaaGreatRows
import Derived.JoinedOf
import Derived.KernelRfl
namespace Go.Proofs.YtpecbnkhppglkaaGreat.kernelWaits
set_option maxHeartbeats 8000000 in
theorem k_named : (Rows.kernelWaitsRow.named == Tryz.pinned.checked.prog.varsNamed 5) = true := by kernel_rfl
end Go.Proofs.YtpecbnkhppglkaaGreat.kernelWaits
