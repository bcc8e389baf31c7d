/-
  Rounds (printed by a program), part 3.
-/
import Derived.Test.YtjnfgapfhpihmaaGreatSeF
set_option linter.unusedVariables false
set_option linter.unusedSimpArgs false
set_option maxRecDepth 100000
namespace Go.Proofs.YtjnfgapfhpihmaaGreat
theorem r2201 : runP 2 2 0 1 = true := by kernel_rfl
theorem r2211 : runP 2 2 1 1 = true := by kernel_rfl
theorem r3120 : runP 3 1 2 0 = true := by kernel_rfl
theorem r4100 : runP 4 1 0 0 = true := by kernel_rfl
theorem r4120 : runP 4 1 2 0 = true := by kernel_rfl
theorem r4212 : runP 4 2 1 2 = true := by kernel_rfl
theorem r5102 : runP 5 1 0 2 = true := by kernel_rfl
theorem r5131 : runP 5 1 3 1 = true := by kernel_rfl
theorem r5210 : runP 5 2 1 0 = true := by kernel_rfl
theorem r5240 : runP 5 2 4 0 = true := by kernel_rfl
theorem r5244 : runP 5 2 4 4 = true := by kernel_rfl
theorem r6005 : runP 6 0 0 5 = true := by kernel_rfl
theorem r6121 : runP 6 1 2 1 = true := by kernel_rfl
theorem r6133 : runP 6 1 3 3 = true := by kernel_rfl
theorem r6143 : runP 6 1 4 3 = true := by kernel_rfl
theorem r6214 : runP 6 2 1 4 = true := by kernel_rfl
theorem r6240 : runP 6 2 4 0 = true := by kernel_rfl
theorem r7005 : runP 7 0 0 5 = true := by kernel_rfl
theorem r7115 : runP 7 1 1 5 = true := by kernel_rfl
theorem r7135 : runP 7 1 3 5 = true := by kernel_rfl
theorem r7166 : runP 7 1 6 6 = true := by kernel_rfl
theorem r7200 : runP 7 2 0 0 = true := by kernel_rfl
theorem r7203 : runP 7 2 0 3 = true := by kernel_rfl
theorem r7223 : runP 7 2 2 3 = true := by kernel_rfl
theorem r7242 : runP 7 2 4 2 = true := by kernel_rfl
theorem r7262 : runP 7 2 6 2 = true := by kernel_rfl
end Go.Proofs.YtjnfgapfhpihmaaGreat
