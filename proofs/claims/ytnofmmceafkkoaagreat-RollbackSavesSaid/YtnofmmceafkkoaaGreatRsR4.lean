/-
  RollbackSaves: runs, part 4 (printed by a program).
-/
import Derived.Test.YtnofmmceafkkoaaGreatRsA
set_option linter.unusedVariables false
set_option linter.unusedSimpArgs false
set_option maxRecDepth 100000
namespace Go.Proofs.YtnofmmceafkkoaaGreat
theorem ru3x_25 : run3q 25 = true := by kernel_rfl
theorem ru4_25 : run4 25 = true := by kernel_rfl
theorem ru5_25_0 : run5 25 0 = true := by kernel_rfl
theorem ru5_25_3 : run5 25 3 = true := by kernel_rfl
theorem ru5_25_4 : run5 25 4 = true := by kernel_rfl
theorem ru6_25 : run6 25 = true := by kernel_rfl
theorem ru3_26_0 : run3p 26 0 = true := by kernel_rfl
theorem ru3_26_2 : run3p 26 2 = true := by kernel_rfl
theorem ru3_26_4 : run3p 26 4 = true := by kernel_rfl
theorem ru3x_26 : run3q 26 = true := by kernel_rfl
theorem ru4_26 : run4 26 = true := by kernel_rfl
theorem ru5_26_1 : run5 26 1 = true := by kernel_rfl
theorem ru5_26_3 : run5 26 3 = true := by kernel_rfl
theorem ru5_26_4 : run5 26 4 = true := by kernel_rfl
theorem ru6_26 : run6 26 = true := by kernel_rfl
theorem ru3_27_0 : run3p 27 0 = true := by kernel_rfl
theorem ru3_27_2 : run3p 27 2 = true := by kernel_rfl
theorem ru3_27_4 : run3p 27 4 = true := by kernel_rfl
theorem ru3x_27 : run3q 27 = true := by kernel_rfl
theorem ru4_27 : run4 27 = true := by kernel_rfl
theorem ru5_27_0 : run5 27 0 = true := by kernel_rfl
theorem ru5_27_1 : run5 27 1 = true := by kernel_rfl
theorem ru5_27_3 : run5 27 3 = true := by kernel_rfl
theorem ru5_27_4 : run5 27 4 = true := by kernel_rfl
theorem ru6_27 : run6 27 = true := by kernel_rfl
theorem ru3_28_0 : run3p 28 0 = true := by kernel_rfl
theorem ru3_28_2 : run3p 28 2 = true := by kernel_rfl
theorem ru3_28_4 : run3p 28 4 = true := by kernel_rfl
theorem ru3x_28 : run3q 28 = true := by kernel_rfl
theorem ru4_28 : run4 28 = true := by kernel_rfl
theorem ru5_28_2 : run5 28 2 = true := by kernel_rfl
theorem ru5_28_3 : run5 28 3 = true := by kernel_rfl
theorem ru5_28_4 : run5 28 4 = true := by kernel_rfl
theorem ru6_28 : run6 28 = true := by kernel_rfl
theorem ru3_29_0 : run3p 29 0 = true := by kernel_rfl
theorem ru3_29_2 : run3p 29 2 = true := by kernel_rfl
theorem ru3_29_4 : run3p 29 4 = true := by kernel_rfl
theorem ru3x_29 : run3q 29 = true := by kernel_rfl
theorem ru4_29 : run4 29 = true := by kernel_rfl
theorem ru5_29_0 : run5 29 0 = true := by kernel_rfl
theorem ru5_29_2 : run5 29 2 = true := by kernel_rfl
theorem ru5_29_3 : run5 29 3 = true := by kernel_rfl
theorem ru5_29_4 : run5 29 4 = true := by kernel_rfl
theorem ru6_29 : run6 29 = true := by kernel_rfl
theorem ru3_30_0 : run3p 30 0 = true := by kernel_rfl
theorem ru3_30_2 : run3p 30 2 = true := by kernel_rfl
theorem ru3_30_4 : run3p 30 4 = true := by kernel_rfl
theorem ru3x_30 : run3q 30 = true := by kernel_rfl
theorem ru4_30 : run4 30 = true := by kernel_rfl
theorem ru5_30_1 : run5 30 1 = true := by kernel_rfl
theorem ru5_30_2 : run5 30 2 = true := by kernel_rfl
theorem ru5_30_3 : run5 30 3 = true := by kernel_rfl
theorem ru5_30_4 : run5 30 4 = true := by kernel_rfl
theorem ru6_30 : run6 30 = true := by kernel_rfl
theorem ru3_31_0 : run3p 31 0 = true := by kernel_rfl
theorem ru3_31_2 : run3p 31 2 = true := by kernel_rfl
theorem ru3_31_4 : run3p 31 4 = true := by kernel_rfl
theorem ru3x_31 : run3q 31 = true := by kernel_rfl
theorem ru4_31 : run4 31 = true := by kernel_rfl
theorem ru5_31_0 : run5 31 0 = true := by kernel_rfl
theorem ru5_31_1 : run5 31 1 = true := by kernel_rfl
theorem ru5_31_2 : run5 31 2 = true := by kernel_rfl
end Go.Proofs.YtnofmmceafkkoaaGreat
