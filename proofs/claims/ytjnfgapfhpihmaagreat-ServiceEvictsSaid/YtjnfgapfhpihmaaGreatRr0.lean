/-
  Rounds (printed by a program), part 0.
-/
import Derived.Test.YtjnfgapfhpihmaaGreatSeF
set_option linter.unusedVariables false
set_option linter.unusedSimpArgs false
set_option maxRecDepth 100000
namespace Go.Proofs.YtjnfgapfhpihmaaGreat
theorem r2101 : runP 2 1 0 1 = true := by kernel_rfl
theorem r2200 : runP 2 2 0 0 = true := by kernel_rfl
theorem r3122 : runP 3 1 2 2 = true := by kernel_rfl
theorem r3202 : runP 3 2 0 2 = true := by kernel_rfl
theorem r4001 : runP 4 0 0 1 = true := by kernel_rfl
theorem r4130 : runP 4 1 3 0 = true := by kernel_rfl
theorem r4221 : runP 4 2 2 1 = true := by kernel_rfl
theorem r5110 : runP 5 1 1 0 = true := by kernel_rfl
theorem r5140 : runP 5 1 4 0 = true := by kernel_rfl
theorem r5214 : runP 5 2 1 4 = true := by kernel_rfl
theorem r5233 : runP 5 2 3 3 = true := by kernel_rfl
theorem r5243 : runP 5 2 4 3 = true := by kernel_rfl
theorem r6103 : runP 6 1 0 3 = true := by kernel_rfl
theorem r6122 : runP 6 1 2 2 = true := by kernel_rfl
theorem r6125 : runP 6 1 2 5 = true := by kernel_rfl
theorem r6151 : runP 6 1 5 1 = true := by kernel_rfl
theorem r6221 : runP 6 2 2 1 = true := by kernel_rfl
theorem r6243 : runP 6 2 4 3 = true := by kernel_rfl
theorem r7102 : runP 7 1 0 2 = true := by kernel_rfl
theorem r7121 : runP 7 1 2 1 = true := by kernel_rfl
theorem r7141 : runP 7 1 4 1 = true := by kernel_rfl
theorem r7206 : runP 7 2 0 6 = true := by kernel_rfl
theorem r7226 : runP 7 2 2 6 = true := by kernel_rfl
theorem r7246 : runP 7 2 4 6 = true := by kernel_rfl
theorem r7265 : runP 7 2 6 5 = true := by kernel_rfl
end Go.Proofs.YtjnfgapfhpihmaaGreat
