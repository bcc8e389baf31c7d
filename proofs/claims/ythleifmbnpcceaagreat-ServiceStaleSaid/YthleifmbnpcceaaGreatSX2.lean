/-
  A closed fact on the row of ServiceStale (the kernel's).
-/
import Derived.Test.YthleifmbnpcceaaGreatRows
import Derived.JoinedOf
import Derived.KernelRfl
namespace Go.Proofs.YthleifmbnpcceaaGreat.serviceStale
set_option maxHeartbeats 8000000 in
theorem k_recurses : (Rows.serviceStaleRow.recurses == Tryz.pinned.checked.prog.recurses 10) = true := by kernel_rfl
end Go.Proofs.YthleifmbnpcceaaGreat.serviceStale
