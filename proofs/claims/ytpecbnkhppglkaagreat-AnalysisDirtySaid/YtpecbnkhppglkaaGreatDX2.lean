/-
  A closed fact on the row of AnalysisDirty (the kernel's).
-/
import Derived.Test.YtpecbnkhppglkaaGreatRows
import Derived.JoinedOf
import Derived.KernelRfl
namespace Go.Proofs.YtpecbnkhppglkaaGreat.analysisDirty
set_option maxHeartbeats 8000000 in
theorem k_recurses : (Rows.analysisDirtyRow.recurses == Tryz.pinned.checked.prog.recurses 3) = true := by kernel_rfl
end Go.Proofs.YtpecbnkhppglkaaGreat.analysisDirty
