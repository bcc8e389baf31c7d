/-
  Runs of KernelVictims, part 4.
-/
import Derived.Test.YtmbbciidknchiaaGreatVD
import Derived.KernelRfl
namespace Go.Proofs.YtmbbciidknchiaaGreat
set_option maxRecDepth 100000
theorem v_t_0 : vrun true (nat_lit 0) = true := by kernel_rfl
end Go.Proofs.YtmbbciidknchiaaGreat
