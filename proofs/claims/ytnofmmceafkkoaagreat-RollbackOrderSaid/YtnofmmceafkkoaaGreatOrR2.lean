/-
  RollbackOrder: runs, part 2 (printed by a program).
-/
import Derived.Test.YtnofmmceafkkoaaGreatOrA
set_option linter.unusedVariables false
set_option linter.unusedSimpArgs false
set_option maxRecDepth 100000
namespace Go.Proofs.YtnofmmceafkkoaaGreat
theorem ru1_9_3 : run1 9 3 = true := by kernel_rfl
theorem ru1x_9 : run1q 9 = true := by kernel_rfl
theorem ru5_9_0 : run5 9 0 = true := by kernel_rfl
theorem ru5_9_3 : run5 9 3 = true := by kernel_rfl
theorem ru1_10_0 : run1 10 0 = true := by kernel_rfl
theorem ru1_10_1 : run1 10 1 = true := by kernel_rfl
theorem ru1_10_2 : run1 10 2 = true := by kernel_rfl
theorem ru1_10_3 : run1 10 3 = true := by kernel_rfl
theorem ru1x_10 : run1q 10 = true := by kernel_rfl
theorem ru5_10_1 : run5 10 1 = true := by kernel_rfl
theorem ru5_10_3 : run5 10 3 = true := by kernel_rfl
theorem ru1_11_0 : run1 11 0 = true := by kernel_rfl
theorem ru1_11_1 : run1 11 1 = true := by kernel_rfl
theorem ru1_11_2 : run1 11 2 = true := by kernel_rfl
theorem ru1_11_3 : run1 11 3 = true := by kernel_rfl
theorem ru1x_11 : run1q 11 = true := by kernel_rfl
theorem ru5_11_0 : run5 11 0 = true := by kernel_rfl
theorem ru5_11_1 : run5 11 1 = true := by kernel_rfl
theorem ru5_11_3 : run5 11 3 = true := by kernel_rfl
theorem ru1_12_0 : run1 12 0 = true := by kernel_rfl
theorem ru1_12_1 : run1 12 1 = true := by kernel_rfl
theorem ru1_12_2 : run1 12 2 = true := by kernel_rfl
theorem ru1_12_3 : run1 12 3 = true := by kernel_rfl
theorem ru1x_12 : run1q 12 = true := by kernel_rfl
theorem ru5_12_2 : run5 12 2 = true := by kernel_rfl
theorem ru5_12_3 : run5 12 3 = true := by kernel_rfl
theorem ru1_13_0 : run1 13 0 = true := by kernel_rfl
end Go.Proofs.YtnofmmceafkkoaaGreat
