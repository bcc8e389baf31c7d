/-
  Runs of KernelVictims, part 1.
-/
import Derived.Test.YtmbbciidknchiaaGreatVD
import Derived.KernelRfl
namespace Go.Proofs.YtmbbciidknchiaaGreat
set_option maxRecDepth 100000
theorem v_f_1 : vrun false (nat_lit 1) = true := by kernel_rfl
end Go.Proofs.YtmbbciidknchiaaGreat
