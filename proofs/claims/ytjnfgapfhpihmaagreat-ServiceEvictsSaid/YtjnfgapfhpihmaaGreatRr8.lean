/-
  Rounds (printed by a program), part 8.
-/
import Derived.Test.YtjnfgapfhpihmaaGreatSeF
set_option linter.unusedVariables false
set_option linter.unusedSimpArgs false
set_option maxRecDepth 100000
namespace Go.Proofs.YtjnfgapfhpihmaaGreat
theorem r3002 : runP 3 0 0 2 = true := by kernel_rfl
theorem r3221 : runP 3 2 2 1 = true := by kernel_rfl
theorem r4102 : runP 4 1 0 2 = true := by kernel_rfl
theorem r4200 : runP 4 2 0 0 = true := by kernel_rfl
theorem r4232 : runP 4 2 3 2 = true := by kernel_rfl
theorem r5001 : runP 5 0 0 1 = true := by kernel_rfl
theorem r5100 : runP 5 1 0 0 = true := by kernel_rfl
theorem r5120 : runP 5 1 2 0 = true := by kernel_rfl
theorem r5224 : runP 5 2 2 4 = true := by kernel_rfl
theorem r6000 : runP 6 0 0 0 = true := by kernel_rfl
theorem r6112 : runP 6 1 1 2 = true := by kernel_rfl
theorem r6134 : runP 6 1 3 4 = true := by kernel_rfl
theorem r6204 : runP 6 2 0 4 = true := by kernel_rfl
theorem r6230 : runP 6 2 3 0 = true := by kernel_rfl
theorem r6233 : runP 6 2 3 3 = true := by kernel_rfl
theorem r6252 : runP 6 2 5 2 = true := by kernel_rfl
theorem r7000 : runP 7 0 0 0 = true := by kernel_rfl
theorem r7106 : runP 7 1 0 6 = true := by kernel_rfl
theorem r7111 : runP 7 1 1 1 = true := by kernel_rfl
theorem r7126 : runP 7 1 2 6 = true := by kernel_rfl
theorem r7146 : runP 7 1 4 6 = true := by kernel_rfl
theorem r7161 : runP 7 1 6 1 = true := by kernel_rfl
theorem r7214 : runP 7 2 1 4 = true := by kernel_rfl
theorem r7234 : runP 7 2 3 4 = true := by kernel_rfl
theorem r7244 : runP 7 2 4 4 = true := by kernel_rfl
theorem r7253 : runP 7 2 5 3 = true := by kernel_rfl
end Go.Proofs.YtjnfgapfhpihmaaGreat
