/-
  Rounds (printed by a program), part 2.
-/
import Derived.Test.YtjnfgapfhpihmaaGreatSeF
set_option linter.unusedVariables false
set_option linter.unusedSimpArgs false
set_option maxRecDepth 100000
namespace Go.Proofs.YtjnfgapfhpihmaaGreat
theorem r2000 : runP 2 0 0 0 = true := by kernel_rfl
theorem r2210 : runP 2 2 1 0 = true := by kernel_rfl
theorem r3100 : runP 3 1 0 0 = true := by kernel_rfl
theorem r3121 : runP 3 1 2 1 = true := by kernel_rfl
theorem r4121 : runP 4 1 2 1 = true := by kernel_rfl
theorem r4213 : runP 4 2 1 3 = true := by kernel_rfl
theorem r5103 : runP 5 1 0 3 = true := by kernel_rfl
theorem r5132 : runP 5 1 3 2 = true := by kernel_rfl
theorem r5211 : runP 5 2 1 1 = true := by kernel_rfl
theorem r5212 : runP 5 2 1 2 = true := by kernel_rfl
theorem r5241 : runP 5 2 4 1 = true := by kernel_rfl
theorem r6100 : runP 6 1 0 0 = true := by kernel_rfl
theorem r6101 : runP 6 1 0 1 = true := by kernel_rfl
theorem r6123 : runP 6 1 2 3 = true := by kernel_rfl
theorem r6145 : runP 6 1 4 5 = true := by kernel_rfl
theorem r6215 : runP 6 2 1 5 = true := by kernel_rfl
theorem r6241 : runP 6 2 4 1 = true := by kernel_rfl
theorem r7006 : runP 7 0 0 6 = true := by kernel_rfl
theorem r7116 : runP 7 1 1 6 = true := by kernel_rfl
theorem r7136 : runP 7 1 3 6 = true := by kernel_rfl
theorem r7204 : runP 7 2 0 4 = true := by kernel_rfl
theorem r7224 : runP 7 2 2 4 = true := by kernel_rfl
theorem r7243 : runP 7 2 4 3 = true := by kernel_rfl
theorem r7263 : runP 7 2 6 3 = true := by kernel_rfl
end Go.Proofs.YtjnfgapfhpihmaaGreat
