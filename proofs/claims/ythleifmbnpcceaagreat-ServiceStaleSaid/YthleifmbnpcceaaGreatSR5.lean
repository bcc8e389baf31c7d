/-
  Runs of ServiceStale.
-/
import Derived.Test.YthleifmbnpcceaaGreatStA
import Derived.KernelRfl
namespace Go.Proofs.YthleifmbnpcceaaGreat
set_option maxRecDepth 100000
theorem run_false_5 : staleRun false (nat_lit 5) = true := by kernel_rfl
theorem run_true_5 : staleRun true (nat_lit 5) = true := by kernel_rfl
end Go.Proofs.YthleifmbnpcceaaGreat
