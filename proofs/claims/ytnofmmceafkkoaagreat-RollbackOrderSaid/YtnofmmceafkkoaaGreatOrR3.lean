/-
  RollbackOrder: runs, part 3 (printed by a program).
-/
import Derived.Test.YtnofmmceafkkoaaGreatOrA
set_option linter.unusedVariables false
set_option linter.unusedSimpArgs false
set_option maxRecDepth 100000
namespace Go.Proofs.YtnofmmceafkkoaaGreat
theorem ru1_13_1 : run1 13 1 = true := by kernel_rfl
theorem ru1_13_2 : run1 13 2 = true := by kernel_rfl
theorem ru1_13_3 : run1 13 3 = true := by kernel_rfl
theorem ru1x_13 : run1q 13 = true := by kernel_rfl
theorem ru5_13_0 : run5 13 0 = true := by kernel_rfl
theorem ru5_13_2 : run5 13 2 = true := by kernel_rfl
theorem ru5_13_3 : run5 13 3 = true := by kernel_rfl
theorem ru1_14_0 : run1 14 0 = true := by kernel_rfl
theorem ru1_14_1 : run1 14 1 = true := by kernel_rfl
theorem ru1_14_2 : run1 14 2 = true := by kernel_rfl
theorem ru1_14_3 : run1 14 3 = true := by kernel_rfl
theorem ru1x_14 : run1q 14 = true := by kernel_rfl
theorem ru5_14_1 : run5 14 1 = true := by kernel_rfl
theorem ru5_14_2 : run5 14 2 = true := by kernel_rfl
theorem ru5_14_3 : run5 14 3 = true := by kernel_rfl
theorem ru1_15_0 : run1 15 0 = true := by kernel_rfl
theorem ru1_15_1 : run1 15 1 = true := by kernel_rfl
theorem ru1_15_2 : run1 15 2 = true := by kernel_rfl
theorem ru1_15_3 : run1 15 3 = true := by kernel_rfl
theorem ru1x_15 : run1q 15 = true := by kernel_rfl
theorem ru5_15_0 : run5 15 0 = true := by kernel_rfl
theorem ru5_15_1 : run5 15 1 = true := by kernel_rfl
theorem ru5_15_2 : run5 15 2 = true := by kernel_rfl
theorem ru5_15_3 : run5 15 3 = true := by kernel_rfl
end Go.Proofs.YtnofmmceafkkoaaGreat
