/-
  Closed facts on the row of ServiceEvicts (the kernel's).
-/
import Derived.Test.YtjnfgapfhpihmaaGreatRows
import Derived.JoinedOf
import Derived.KernelRfl
set_option linter.unusedVariables false
set_option linter.unusedSimpArgs false
namespace Go.Proofs.YtjnfgapfhpihmaaGreat.serviceEvicts
set_option maxHeartbeats 8000000 in
theorem k_inPlace : (Rows.serviceEvictsRow.inPlace == Tryz.pinned.checked.prog.inPlace 3) = true := by kernel_rfl
set_option maxHeartbeats 8000000 in
theorem k_unfollowed : (Rows.serviceEvictsRow.unfollowed == Tryz.pinned.checked.prog.unfollowed 3) = true := by kernel_rfl
set_option maxHeartbeats 8000000 in
theorem k_recurses : (Rows.serviceEvictsRow.recurses == Tryz.pinned.checked.prog.recurses 3) = true := by kernel_rfl
set_option maxHeartbeats 8000000 in
theorem k_named : (Rows.serviceEvictsRow.named == Tryz.pinned.checked.prog.varsNamed 3) = true := by kernel_rfl
end Go.Proofs.YtjnfgapfhpihmaaGreat.serviceEvicts
