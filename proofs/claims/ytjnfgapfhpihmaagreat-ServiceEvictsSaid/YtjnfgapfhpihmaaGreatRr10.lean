/-
  Rounds (printed by a program), part 10.
-/
import Derived.Test.YtjnfgapfhpihmaaGreatSeF
set_option linter.unusedVariables false
set_option linter.unusedSimpArgs false
set_option maxRecDepth 100000
namespace Go.Proofs.YtjnfgapfhpihmaaGreat
theorem r3000 : runP 3 0 0 0 = true := by kernel_rfl
theorem r3211 : runP 3 2 1 1 = true := by kernel_rfl
theorem r3212 : runP 3 2 1 2 = true := by kernel_rfl
theorem r4003 : runP 4 0 0 3 = true := by kernel_rfl
theorem r4122 : runP 4 1 2 2 = true := by kernel_rfl
theorem r4132 : runP 4 1 3 2 = true := by kernel_rfl
theorem r4230 : runP 4 2 3 0 = true := by kernel_rfl
theorem r5113 : runP 5 1 1 3 = true := by kernel_rfl
theorem r5142 : runP 5 1 4 2 = true := by kernel_rfl
theorem r5221 : runP 5 2 2 1 = true := by kernel_rfl
theorem r6105 : runP 6 1 0 5 = true := by kernel_rfl
theorem r6131 : runP 6 1 3 1 = true := by kernel_rfl
theorem r6153 : runP 6 1 5 3 = true := by kernel_rfl
theorem r6155 : runP 6 1 5 5 = true := by kernel_rfl
theorem r6202 : runP 6 2 0 2 = true := by kernel_rfl
theorem r6211 : runP 6 2 1 1 = true := by kernel_rfl
theorem r6224 : runP 6 2 2 4 = true := by kernel_rfl
theorem r6250 : runP 6 2 5 0 = true := by kernel_rfl
theorem r7104 : runP 7 1 0 4 = true := by kernel_rfl
theorem r7124 : runP 7 1 2 4 = true := by kernel_rfl
theorem r7143 : runP 7 1 4 3 = true := by kernel_rfl
theorem r7156 : runP 7 1 5 6 = true := by kernel_rfl
theorem r7212 : runP 7 2 1 2 = true := by kernel_rfl
theorem r7222 : runP 7 2 2 2 = true := by kernel_rfl
theorem r7231 : runP 7 2 3 1 = true := by kernel_rfl
theorem r7251 : runP 7 2 5 1 = true := by kernel_rfl
end Go.Proofs.YtjnfgapfhpihmaaGreat
