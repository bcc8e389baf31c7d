/-
  Rounds (printed by a program), part 11.
-/
import Derived.Test.YtjnfgapfhpihmaaGreatSeF
set_option linter.unusedVariables false
set_option linter.unusedSimpArgs false
set_option maxRecDepth 100000
namespace Go.Proofs.YtjnfgapfhpihmaaGreat
theorem r2110 : runP 2 1 1 0 = true := by kernel_rfl
theorem r3200 : runP 3 2 0 0 = true := by kernel_rfl
theorem r3210 : runP 3 2 1 0 = true := by kernel_rfl
theorem r4002 : runP 4 0 0 2 = true := by kernel_rfl
theorem r4111 : runP 4 1 1 1 = true := by kernel_rfl
theorem r4131 : runP 4 1 3 1 = true := by kernel_rfl
theorem r4223 : runP 4 2 2 3 = true := by kernel_rfl
theorem r5112 : runP 5 1 1 2 = true := by kernel_rfl
theorem r5141 : runP 5 1 4 1 = true := by kernel_rfl
theorem r5220 : runP 5 2 2 0 = true := by kernel_rfl
theorem r6104 : runP 6 1 0 4 = true := by kernel_rfl
theorem r6130 : runP 6 1 3 0 = true := by kernel_rfl
theorem r6144 : runP 6 1 4 4 = true := by kernel_rfl
theorem r6152 : runP 6 1 5 2 = true := by kernel_rfl
theorem r6200 : runP 6 2 0 0 = true := by kernel_rfl
theorem r6201 : runP 6 2 0 1 = true := by kernel_rfl
theorem r6223 : runP 6 2 2 3 = true := by kernel_rfl
theorem r6245 : runP 6 2 4 5 = true := by kernel_rfl
theorem r7103 : runP 7 1 0 3 = true := by kernel_rfl
theorem r7123 : runP 7 1 2 3 = true := by kernel_rfl
theorem r7142 : runP 7 1 4 2 = true := by kernel_rfl
theorem r7154 : runP 7 1 5 4 = true := by kernel_rfl
theorem r7210 : runP 7 2 1 0 = true := by kernel_rfl
theorem r7211 : runP 7 2 1 1 = true := by kernel_rfl
theorem r7230 : runP 7 2 3 0 = true := by kernel_rfl
theorem r7250 : runP 7 2 5 0 = true := by kernel_rfl
end Go.Proofs.YtjnfgapfhpihmaaGreat
