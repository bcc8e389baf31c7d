/-
  A run of KernelLocks.
-/
import Derived.Test.YtmbbciidknchiaaGreatLD
import Derived.KernelRfl
namespace Go.Proofs.YtmbbciidknchiaaGreat
set_option maxRecDepth 100000
theorem l_2_0 : lrun (nat_lit 2) (nat_lit 0) = true := by kernel_rfl
end Go.Proofs.YtmbbciidknchiaaGreat
