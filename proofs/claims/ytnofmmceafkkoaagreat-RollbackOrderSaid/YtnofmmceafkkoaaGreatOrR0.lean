/-
  RollbackOrder: runs, part 0 (printed by a program).
-/
import Derived.Test.YtnofmmceafkkoaaGreatOrA
set_option linter.unusedVariables false
set_option linter.unusedSimpArgs false
set_option maxRecDepth 100000
namespace Go.Proofs.YtnofmmceafkkoaaGreat
theorem ru1_0_0 : run1 0 0 = true := by kernel_rfl
theorem ru1_0_1 : run1 0 1 = true := by kernel_rfl
theorem ru1_0_2 : run1 0 2 = true := by kernel_rfl
theorem ru1_0_3 : run1 0 3 = true := by kernel_rfl
theorem ru1_1_0 : run1 1 0 = true := by kernel_rfl
theorem ru1_1_1 : run1 1 1 = true := by kernel_rfl
theorem ru1_1_2 : run1 1 2 = true := by kernel_rfl
theorem ru1_1_3 : run1 1 3 = true := by kernel_rfl
theorem ru1x_1 : run1q 1 = true := by kernel_rfl
theorem ru5_1_0 : run5 1 0 = true := by kernel_rfl
theorem ru1_2_0 : run1 2 0 = true := by kernel_rfl
theorem ru1_2_1 : run1 2 1 = true := by kernel_rfl
theorem ru1_2_2 : run1 2 2 = true := by kernel_rfl
theorem ru1_2_3 : run1 2 3 = true := by kernel_rfl
theorem ru1x_2 : run1q 2 = true := by kernel_rfl
theorem ru5_2_1 : run5 2 1 = true := by kernel_rfl
theorem ru1_3_0 : run1 3 0 = true := by kernel_rfl
theorem ru1_3_1 : run1 3 1 = true := by kernel_rfl
theorem ru1_3_2 : run1 3 2 = true := by kernel_rfl
theorem ru1_3_3 : run1 3 3 = true := by kernel_rfl
theorem ru1x_3 : run1q 3 = true := by kernel_rfl
theorem ru5_3_0 : run5 3 0 = true := by kernel_rfl
theorem ru5_3_1 : run5 3 1 = true := by kernel_rfl
theorem ru1_4_0 : run1 4 0 = true := by kernel_rfl
theorem ru1_4_1 : run1 4 1 = true := by kernel_rfl
theorem ru1_4_2 : run1 4 2 = true := by kernel_rfl
theorem ru1_4_3 : run1 4 3 = true := by kernel_rfl
theorem ru1x_4 : run1q 4 = true := by kernel_rfl
theorem ru5_4_2 : run5 4 2 = true := by kernel_rfl
theorem ru1_5_0 : run1 5 0 = true := by kernel_rfl
theorem ru1_5_1 : run1 5 1 = true := by kernel_rfl
theorem ru1_5_2 : run1 5 2 = true := by kernel_rfl
end Go.Proofs.YtnofmmceafkkoaaGreat
