/-
  A closed fact on the row of KernelVictims (the kernel's).
-/
import Derived.Test.YtmbbciidknchiaaGreatRows
import Derived.JoinedOf
import Derived.KernelRfl
namespace Go.Proofs.YtmbbciidknchiaaGreat.kernelVictims
set_option maxHeartbeats 8000000 in
theorem k_inPlace : (Rows.kernelVictimsRow.inPlace == Tryz.pinned.checked.prog.inPlace 5) = true := by kernel_rfl
end Go.Proofs.YtmbbciidknchiaaGreat.kernelVictims
