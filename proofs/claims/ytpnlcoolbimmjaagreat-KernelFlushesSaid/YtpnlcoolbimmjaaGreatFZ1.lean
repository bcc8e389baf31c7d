/-
  A closed fact on the row of KernelFlushes (the kernel's).
-/
import Derived.Test.YtpnlcoolbimmjaaGreatRows
import Derived.JoinedOf
import Derived.KernelRfl
namespace Go.Proofs.YtpnlcoolbimmjaaGreat.kernelFlushes
set_option maxHeartbeats 8000000 in
theorem k_unfollowed : (Rows.kernelFlushesRow.unfollowed == Tryz.pinned.checked.prog.unfollowed 3) = true := by kernel_rfl
end Go.Proofs.YtpnlcoolbimmjaaGreat.kernelFlushes
