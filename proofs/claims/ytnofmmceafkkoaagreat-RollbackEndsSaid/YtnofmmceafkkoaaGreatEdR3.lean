/-
  RollbackEnds: runs, part 3 (printed by a program).
-/
import Derived.Test.YtnofmmceafkkoaaGreatEdA
set_option maxRecDepth 100000
set_option linter.unusedVariables false
set_option linter.unusedSimpArgs false
namespace Go.Proofs.YtnofmmceafkkoaaGreat
theorem ru5_19_4 : run5 19 4 = true := by kernel_rfl
theorem ru5_20_2 : run5 20 2 = true := by kernel_rfl
theorem ru5_20_4 : run5 20 4 = true := by kernel_rfl
theorem ru5_21_0 : run5 21 0 = true := by kernel_rfl
theorem ru5_21_2 : run5 21 2 = true := by kernel_rfl
theorem ru5_21_4 : run5 21 4 = true := by kernel_rfl
theorem ru5_22_1 : run5 22 1 = true := by kernel_rfl
theorem ru5_22_2 : run5 22 2 = true := by kernel_rfl
theorem ru5_22_4 : run5 22 4 = true := by kernel_rfl
theorem ru5_23_0 : run5 23 0 = true := by kernel_rfl
theorem ru5_23_1 : run5 23 1 = true := by kernel_rfl
theorem ru5_23_2 : run5 23 2 = true := by kernel_rfl
theorem ru5_23_4 : run5 23 4 = true := by kernel_rfl
theorem ru5_24_3 : run5 24 3 = true := by kernel_rfl
theorem ru5_24_4 : run5 24 4 = true := by kernel_rfl
theorem ru5_25_0 : run5 25 0 = true := by kernel_rfl
theorem ru5_25_3 : run5 25 3 = true := by kernel_rfl
theorem ru5_25_4 : run5 25 4 = true := by kernel_rfl
theorem ru5_26_1 : run5 26 1 = true := by kernel_rfl
theorem ru5_26_3 : run5 26 3 = true := by kernel_rfl
theorem ru5_26_4 : run5 26 4 = true := by kernel_rfl
theorem ru5_27_0 : run5 27 0 = true := by kernel_rfl
theorem ru5_27_1 : run5 27 1 = true := by kernel_rfl
theorem ru5_27_3 : run5 27 3 = true := by kernel_rfl
theorem ru5_27_4 : run5 27 4 = true := by kernel_rfl
theorem ru5_28_2 : run5 28 2 = true := by kernel_rfl
theorem ru5_28_3 : run5 28 3 = true := by kernel_rfl
theorem ru5_28_4 : run5 28 4 = true := by kernel_rfl
theorem ru5_29_0 : run5 29 0 = true := by kernel_rfl
theorem ru5_29_2 : run5 29 2 = true := by kernel_rfl
theorem ru5_29_3 : run5 29 3 = true := by kernel_rfl
theorem ru5_29_4 : run5 29 4 = true := by kernel_rfl
theorem ru5_30_1 : run5 30 1 = true := by kernel_rfl
theorem ru5_30_2 : run5 30 2 = true := by kernel_rfl
theorem ru5_30_3 : run5 30 3 = true := by kernel_rfl
theorem ru5_30_4 : run5 30 4 = true := by kernel_rfl
theorem ru5_31_0 : run5 31 0 = true := by kernel_rfl
theorem ru5_31_1 : run5 31 1 = true := by kernel_rfl
theorem ru5_31_2 : run5 31 2 = true := by kernel_rfl
theorem ru5_31_3 : run5 31 3 = true := by kernel_rfl
theorem ru5_31_4 : run5 31 4 = true := by kernel_rfl
end Go.Proofs.YtnofmmceafkkoaaGreat
