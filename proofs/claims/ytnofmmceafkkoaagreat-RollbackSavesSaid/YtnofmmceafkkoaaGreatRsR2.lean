/-
  RollbackSaves: runs, part 2 (printed by a program).
-/
import Derived.Test.YtnofmmceafkkoaaGreatRsA
set_option linter.unusedVariables false
set_option linter.unusedSimpArgs false
set_option maxRecDepth 100000
namespace Go.Proofs.YtnofmmceafkkoaaGreat
theorem ru6_9 : run6 9 = true := by kernel_rfl
theorem ru3_10_0 : run3p 10 0 = true := by kernel_rfl
theorem ru3_10_2 : run3p 10 2 = true := by kernel_rfl
theorem ru3_10_4 : run3p 10 4 = true := by kernel_rfl
theorem ru3x_10 : run3q 10 = true := by kernel_rfl
theorem ru4_10 : run4 10 = true := by kernel_rfl
theorem ru5_10_1 : run5 10 1 = true := by kernel_rfl
theorem ru5_10_3 : run5 10 3 = true := by kernel_rfl
theorem ru6_10 : run6 10 = true := by kernel_rfl
theorem ru3_11_0 : run3p 11 0 = true := by kernel_rfl
theorem ru3_11_2 : run3p 11 2 = true := by kernel_rfl
theorem ru3_11_4 : run3p 11 4 = true := by kernel_rfl
theorem ru3x_11 : run3q 11 = true := by kernel_rfl
theorem ru4_11 : run4 11 = true := by kernel_rfl
theorem ru5_11_0 : run5 11 0 = true := by kernel_rfl
theorem ru5_11_1 : run5 11 1 = true := by kernel_rfl
theorem ru5_11_3 : run5 11 3 = true := by kernel_rfl
theorem ru6_11 : run6 11 = true := by kernel_rfl
theorem ru3_12_0 : run3p 12 0 = true := by kernel_rfl
theorem ru3_12_2 : run3p 12 2 = true := by kernel_rfl
theorem ru3_12_4 : run3p 12 4 = true := by kernel_rfl
theorem ru3x_12 : run3q 12 = true := by kernel_rfl
theorem ru4_12 : run4 12 = true := by kernel_rfl
theorem ru5_12_2 : run5 12 2 = true := by kernel_rfl
theorem ru5_12_3 : run5 12 3 = true := by kernel_rfl
theorem ru6_12 : run6 12 = true := by kernel_rfl
theorem ru3_13_0 : run3p 13 0 = true := by kernel_rfl
theorem ru3_13_2 : run3p 13 2 = true := by kernel_rfl
theorem ru3_13_4 : run3p 13 4 = true := by kernel_rfl
theorem ru3x_13 : run3q 13 = true := by kernel_rfl
theorem ru4_13 : run4 13 = true := by kernel_rfl
theorem ru5_13_0 : run5 13 0 = true := by kernel_rfl
theorem ru5_13_2 : run5 13 2 = true := by kernel_rfl
theorem ru5_13_3 : run5 13 3 = true := by kernel_rfl
theorem ru6_13 : run6 13 = true := by kernel_rfl
theorem ru3_14_0 : run3p 14 0 = true := by kernel_rfl
theorem ru3_14_2 : run3p 14 2 = true := by kernel_rfl
theorem ru3_14_4 : run3p 14 4 = true := by kernel_rfl
theorem ru3x_14 : run3q 14 = true := by kernel_rfl
theorem ru4_14 : run4 14 = true := by kernel_rfl
theorem ru5_14_1 : run5 14 1 = true := by kernel_rfl
theorem ru5_14_2 : run5 14 2 = true := by kernel_rfl
theorem ru5_14_3 : run5 14 3 = true := by kernel_rfl
theorem ru6_14 : run6 14 = true := by kernel_rfl
theorem ru3_15_0 : run3p 15 0 = true := by kernel_rfl
theorem ru3_15_2 : run3p 15 2 = true := by kernel_rfl
theorem ru3_15_4 : run3p 15 4 = true := by kernel_rfl
theorem ru3x_15 : run3q 15 = true := by kernel_rfl
theorem ru4_15 : run4 15 = true := by kernel_rfl
theorem ru5_15_0 : run5 15 0 = true := by kernel_rfl
theorem ru5_15_1 : run5 15 1 = true := by kernel_rfl
theorem ru5_15_2 : run5 15 2 = true := by kernel_rfl
theorem ru5_15_3 : run5 15 3 = true := by kernel_rfl
theorem ru6_15 : run6 15 = true := by kernel_rfl
theorem ru3_16_0 : run3p 16 0 = true := by kernel_rfl
theorem ru3_16_2 : run3p 16 2 = true := by kernel_rfl
theorem ru3_16_4 : run3p 16 4 = true := by kernel_rfl
theorem ru3x_16 : run3q 16 = true := by kernel_rfl
theorem ru4_16 : run4 16 = true := by kernel_rfl
theorem ru5_16_4 : run5 16 4 = true := by kernel_rfl
theorem ru6_16 : run6 16 = true := by kernel_rfl
theorem ru3_17_0 : run3p 17 0 = true := by kernel_rfl
theorem ru3_17_2 : run3p 17 2 = true := by kernel_rfl
theorem ru3_17_4 : run3p 17 4 = true := by kernel_rfl
theorem ru3x_17 : run3q 17 = true := by kernel_rfl
theorem ru4_17 : run4 17 = true := by kernel_rfl
theorem ru5_17_0 : run5 17 0 = true := by kernel_rfl
theorem ru5_17_4 : run5 17 4 = true := by kernel_rfl
end Go.Proofs.YtnofmmceafkkoaaGreat
