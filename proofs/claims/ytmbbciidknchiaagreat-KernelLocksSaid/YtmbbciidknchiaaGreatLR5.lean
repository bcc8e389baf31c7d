/-
  A run of KernelLocks.
-/
import Derived.Test.YtmbbciidknchiaaGreatLD
import Derived.KernelRfl
namespace Go.Proofs.YtmbbciidknchiaaGreat
set_option maxRecDepth 100000
theorem l_1_2 : lrun (nat_lit 1) (nat_lit 2) = true := by kernel_rfl
end Go.Proofs.YtmbbciidknchiaaGreat
