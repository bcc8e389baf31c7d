/-
  Rounds (printed by a program), part 6.
-/
import Derived.Test.YtjnfgapfhpihmaaGreatSeF
set_option linter.unusedVariables false
set_option linter.unusedSimpArgs false
set_option maxRecDepth 100000
namespace Go.Proofs.YtjnfgapfhpihmaaGreat
theorem r3102 : runP 3 1 0 2 = true := by kernel_rfl
theorem r4110 : runP 4 1 1 0 = true := by kernel_rfl
theorem r4202 : runP 4 2 0 2 = true := by kernel_rfl
theorem r4222 : runP 4 2 2 2 = true := by kernel_rfl
theorem r5003 : runP 5 0 0 3 = true := by kernel_rfl
theorem r5122 : runP 5 1 2 2 = true := by kernel_rfl
theorem r5123 : runP 5 1 2 3 = true := by kernel_rfl
theorem r5202 : runP 5 2 0 2 = true := by kernel_rfl
theorem r5231 : runP 5 2 3 1 = true := by kernel_rfl
theorem r6002 : runP 6 0 0 2 = true := by kernel_rfl
theorem r6114 : runP 6 1 1 4 = true := by kernel_rfl
theorem r6140 : runP 6 1 4 0 = true := by kernel_rfl
theorem r6210 : runP 6 2 1 0 = true := by kernel_rfl
theorem r6232 : runP 6 2 3 2 = true := by kernel_rfl
theorem r6254 : runP 6 2 5 4 = true := by kernel_rfl
theorem r6255 : runP 6 2 5 5 = true := by kernel_rfl
theorem r7002 : runP 7 0 0 2 = true := by kernel_rfl
theorem r7112 : runP 7 1 1 2 = true := by kernel_rfl
theorem r7131 : runP 7 1 3 1 = true := by kernel_rfl
theorem r7133 : runP 7 1 3 3 = true := by kernel_rfl
theorem r7151 : runP 7 1 5 1 = true := by kernel_rfl
theorem r7163 : runP 7 1 6 3 = true := by kernel_rfl
theorem r7216 : runP 7 2 1 6 = true := by kernel_rfl
theorem r7236 : runP 7 2 3 6 = true := by kernel_rfl
theorem r7256 : runP 7 2 5 6 = true := by kernel_rfl
theorem r7266 : runP 7 2 6 6 = true := by kernel_rfl
end Go.Proofs.YtjnfgapfhpihmaaGreat
