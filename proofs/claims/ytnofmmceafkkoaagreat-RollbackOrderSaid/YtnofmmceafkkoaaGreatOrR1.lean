/-
  RollbackOrder: runs, part 1 (printed by a program).
-/
import Derived.Test.YtnofmmceafkkoaaGreatOrA
set_option linter.unusedVariables false
set_option linter.unusedSimpArgs false
set_option maxRecDepth 100000
namespace Go.Proofs.YtnofmmceafkkoaaGreat
theorem ru1_5_3 : run1 5 3 = true := by kernel_rfl
theorem ru1x_5 : run1q 5 = true := by kernel_rfl
theorem ru5_5_0 : run5 5 0 = true := by kernel_rfl
theorem ru5_5_2 : run5 5 2 = true := by kernel_rfl
theorem ru1_6_0 : run1 6 0 = true := by kernel_rfl
theorem ru1_6_1 : run1 6 1 = true := by kernel_rfl
theorem ru1_6_2 : run1 6 2 = true := by kernel_rfl
theorem ru1_6_3 : run1 6 3 = true := by kernel_rfl
theorem ru1x_6 : run1q 6 = true := by kernel_rfl
theorem ru5_6_1 : run5 6 1 = true := by kernel_rfl
theorem ru5_6_2 : run5 6 2 = true := by kernel_rfl
theorem ru1_7_0 : run1 7 0 = true := by kernel_rfl
theorem ru1_7_1 : run1 7 1 = true := by kernel_rfl
theorem ru1_7_2 : run1 7 2 = true := by kernel_rfl
theorem ru1_7_3 : run1 7 3 = true := by kernel_rfl
theorem ru1x_7 : run1q 7 = true := by kernel_rfl
theorem ru5_7_0 : run5 7 0 = true := by kernel_rfl
theorem ru5_7_1 : run5 7 1 = true := by kernel_rfl
theorem ru5_7_2 : run5 7 2 = true := by kernel_rfl
theorem ru1_8_0 : run1 8 0 = true := by kernel_rfl
theorem ru1_8_1 : run1 8 1 = true := by kernel_rfl
theorem ru1_8_2 : run1 8 2 = true := by kernel_rfl
theorem ru1_8_3 : run1 8 3 = true := by kernel_rfl
theorem ru1x_8 : run1q 8 = true := by kernel_rfl
theorem ru5_8_3 : run5 8 3 = true := by kernel_rfl
theorem ru1_9_0 : run1 9 0 = true := by kernel_rfl
theorem ru1_9_1 : run1 9 1 = true := by kernel_rfl
theorem ru1_9_2 : run1 9 2 = true := by kernel_rfl
end Go.Proofs.YtnofmmceafkkoaaGreat
