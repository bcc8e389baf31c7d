/-
  RollbackSaves: runs, part 1 (printed by a program).
-/
import Derived.Test.YtnofmmceafkkoaaGreatRsA
set_option linter.unusedVariables false
set_option linter.unusedSimpArgs false
set_option maxRecDepth 100000
namespace Go.Proofs.YtnofmmceafkkoaaGreat
theorem ru1_15_3 : run1 15 3 = true := by kernel_rfl
theorem ru1x_15 : run1q 15 = true := by kernel_rfl
theorem ru2_15 : run2 15 = true := by kernel_rfl
theorem ru3_0_0 : run3p 0 0 = true := by kernel_rfl
theorem ru3_0_2 : run3p 0 2 = true := by kernel_rfl
theorem ru3_0_4 : run3p 0 4 = true := by kernel_rfl
theorem ru3x_0 : run3q 0 = true := by kernel_rfl
theorem ru3_1_0 : run3p 1 0 = true := by kernel_rfl
theorem ru3_1_2 : run3p 1 2 = true := by kernel_rfl
theorem ru3_1_4 : run3p 1 4 = true := by kernel_rfl
theorem ru3x_1 : run3q 1 = true := by kernel_rfl
theorem ru4_1 : run4 1 = true := by kernel_rfl
theorem ru5_1_0 : run5 1 0 = true := by kernel_rfl
theorem ru6_1 : run6 1 = true := by kernel_rfl
theorem ru3_2_0 : run3p 2 0 = true := by kernel_rfl
theorem ru3_2_2 : run3p 2 2 = true := by kernel_rfl
theorem ru3_2_4 : run3p 2 4 = true := by kernel_rfl
theorem ru3x_2 : run3q 2 = true := by kernel_rfl
theorem ru4_2 : run4 2 = true := by kernel_rfl
theorem ru5_2_1 : run5 2 1 = true := by kernel_rfl
theorem ru6_2 : run6 2 = true := by kernel_rfl
theorem ru3_3_0 : run3p 3 0 = true := by kernel_rfl
theorem ru3_3_2 : run3p 3 2 = true := by kernel_rfl
theorem ru3_3_4 : run3p 3 4 = true := by kernel_rfl
theorem ru3x_3 : run3q 3 = true := by kernel_rfl
theorem ru4_3 : run4 3 = true := by kernel_rfl
theorem ru5_3_0 : run5 3 0 = true := by kernel_rfl
theorem ru5_3_1 : run5 3 1 = true := by kernel_rfl
theorem ru6_3 : run6 3 = true := by kernel_rfl
theorem ru3_4_0 : run3p 4 0 = true := by kernel_rfl
theorem ru3_4_2 : run3p 4 2 = true := by kernel_rfl
theorem ru3_4_4 : run3p 4 4 = true := by kernel_rfl
theorem ru3x_4 : run3q 4 = true := by kernel_rfl
theorem ru4_4 : run4 4 = true := by kernel_rfl
theorem ru5_4_2 : run5 4 2 = true := by kernel_rfl
theorem ru6_4 : run6 4 = true := by kernel_rfl
theorem ru3_5_0 : run3p 5 0 = true := by kernel_rfl
theorem ru3_5_2 : run3p 5 2 = true := by kernel_rfl
theorem ru3_5_4 : run3p 5 4 = true := by kernel_rfl
theorem ru3x_5 : run3q 5 = true := by kernel_rfl
theorem ru4_5 : run4 5 = true := by kernel_rfl
theorem ru5_5_0 : run5 5 0 = true := by kernel_rfl
theorem ru5_5_2 : run5 5 2 = true := by kernel_rfl
theorem ru6_5 : run6 5 = true := by kernel_rfl
theorem ru3_6_0 : run3p 6 0 = true := by kernel_rfl
theorem ru3_6_2 : run3p 6 2 = true := by kernel_rfl
theorem ru3_6_4 : run3p 6 4 = true := by kernel_rfl
theorem ru3x_6 : run3q 6 = true := by kernel_rfl
theorem ru4_6 : run4 6 = true := by kernel_rfl
theorem ru5_6_1 : run5 6 1 = true := by kernel_rfl
theorem ru5_6_2 : run5 6 2 = true := by kernel_rfl
theorem ru6_6 : run6 6 = true := by kernel_rfl
theorem ru3_7_0 : run3p 7 0 = true := by kernel_rfl
theorem ru3_7_2 : run3p 7 2 = true := by kernel_rfl
theorem ru3_7_4 : run3p 7 4 = true := by kernel_rfl
theorem ru3x_7 : run3q 7 = true := by kernel_rfl
theorem ru4_7 : run4 7 = true := by kernel_rfl
theorem ru5_7_0 : run5 7 0 = true := by kernel_rfl
theorem ru5_7_1 : run5 7 1 = true := by kernel_rfl
theorem ru5_7_2 : run5 7 2 = true := by kernel_rfl
theorem ru6_7 : run6 7 = true := by kernel_rfl
theorem ru3_8_0 : run3p 8 0 = true := by kernel_rfl
theorem ru3_8_2 : run3p 8 2 = true := by kernel_rfl
theorem ru3_8_4 : run3p 8 4 = true := by kernel_rfl
theorem ru3x_8 : run3q 8 = true := by kernel_rfl
theorem ru4_8 : run4 8 = true := by kernel_rfl
theorem ru5_8_3 : run5 8 3 = true := by kernel_rfl
theorem ru6_8 : run6 8 = true := by kernel_rfl
theorem ru3_9_0 : run3p 9 0 = true := by kernel_rfl
theorem ru3_9_2 : run3p 9 2 = true := by kernel_rfl
theorem ru3_9_4 : run3p 9 4 = true := by kernel_rfl
theorem ru3x_9 : run3q 9 = true := by kernel_rfl
theorem ru4_9 : run4 9 = true := by kernel_rfl
theorem ru5_9_0 : run5 9 0 = true := by kernel_rfl
theorem ru5_9_3 : run5 9 3 = true := by kernel_rfl
end Go.Proofs.YtnofmmceafkkoaaGreat
