/-
  Rounds (printed by a program), part 5.
-/
import Derived.Test.YtjnfgapfhpihmaaGreatSeF
set_option linter.unusedVariables false
set_option linter.unusedSimpArgs false
set_option maxRecDepth 100000
namespace Go.Proofs.YtjnfgapfhpihmaaGreat
theorem r2100 : runP 2 1 0 0 = true := by kernel_rfl
theorem r3110 : runP 3 1 1 0 = true := by kernel_rfl
theorem r4112 : runP 4 1 1 2 = true := by kernel_rfl
theorem r4203 : runP 4 2 0 3 = true := by kernel_rfl
theorem r4233 : runP 4 2 3 3 = true := by kernel_rfl
theorem r5004 : runP 5 0 0 4 = true := by kernel_rfl
theorem r5124 : runP 5 1 2 4 = true := by kernel_rfl
theorem r5133 : runP 5 1 3 3 = true := by kernel_rfl
theorem r5203 : runP 5 2 0 3 = true := by kernel_rfl
theorem r5232 : runP 5 2 3 2 = true := by kernel_rfl
theorem r6003 : runP 6 0 0 3 = true := by kernel_rfl
theorem r6115 : runP 6 1 1 5 = true := by kernel_rfl
theorem r6141 : runP 6 1 4 1 = true := by kernel_rfl
theorem r6212 : runP 6 2 1 2 = true := by kernel_rfl
theorem r6234 : runP 6 2 3 4 = true := by kernel_rfl
theorem r7003 : runP 7 0 0 3 = true := by kernel_rfl
theorem r7113 : runP 7 1 1 3 = true := by kernel_rfl
theorem r7132 : runP 7 1 3 2 = true := by kernel_rfl
theorem r7144 : runP 7 1 4 4 = true := by kernel_rfl
theorem r7152 : runP 7 1 5 2 = true := by kernel_rfl
theorem r7164 : runP 7 1 6 4 = true := by kernel_rfl
theorem r7201 : runP 7 2 0 1 = true := by kernel_rfl
theorem r7220 : runP 7 2 2 0 = true := by kernel_rfl
theorem r7240 : runP 7 2 4 0 = true := by kernel_rfl
theorem r7260 : runP 7 2 6 0 = true := by kernel_rfl
end Go.Proofs.YtjnfgapfhpihmaaGreat
