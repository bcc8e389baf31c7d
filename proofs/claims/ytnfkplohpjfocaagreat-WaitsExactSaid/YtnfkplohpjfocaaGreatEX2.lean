/-
  A closed fact on the row of WaitsExact (the kernel's).
-/
import Derived.Test.YtnfkplohpjfocaaGreatRows
import Derived.JoinedOf
import Derived.KernelRfl
set_option linter.unusedVariables false
set_option linter.unusedSimpArgs false
namespace Go.Proofs.YtnfkplohpjfocaaGreat.waitsExact
set_option maxHeartbeats 8000000 in
theorem k_recurses : (Rows.waitsExactRow.recurses == Tryz.pinned.checked.prog.recurses 3) = true := by kernel_rfl
end Go.Proofs.YtnfkplohpjfocaaGreat.waitsExact
