/-
  RollbackSaves: runs, part 3 (printed by a program).
-/
import Derived.Test.YtnofmmceafkkoaaGreatRsA
set_option linter.unusedVariables false
set_option linter.unusedSimpArgs false
set_option maxRecDepth 100000
namespace Go.Proofs.YtnofmmceafkkoaaGreat
theorem ru6_17 : run6 17 = true := by kernel_rfl
theorem ru3_18_0 : run3p 18 0 = true := by kernel_rfl
theorem ru3_18_2 : run3p 18 2 = true := by kernel_rfl
theorem ru3_18_4 : run3p 18 4 = true := by kernel_rfl
theorem ru3x_18 : run3q 18 = true := by kernel_rfl
theorem ru4_18 : run4 18 = true := by kernel_rfl
theorem ru5_18_1 : run5 18 1 = true := by kernel_rfl
theorem ru5_18_4 : run5 18 4 = true := by kernel_rfl
theorem ru6_18 : run6 18 = true := by kernel_rfl
theorem ru3_19_0 : run3p 19 0 = true := by kernel_rfl
theorem ru3_19_2 : run3p 19 2 = true := by kernel_rfl
theorem ru3_19_4 : run3p 19 4 = true := by kernel_rfl
theorem ru3x_19 : run3q 19 = true := by kernel_rfl
theorem ru4_19 : run4 19 = true := by kernel_rfl
theorem ru5_19_0 : run5 19 0 = true := by kernel_rfl
theorem ru5_19_1 : run5 19 1 = true := by kernel_rfl
theorem ru5_19_4 : run5 19 4 = true := by kernel_rfl
theorem ru6_19 : run6 19 = true := by kernel_rfl
theorem ru3_20_0 : run3p 20 0 = true := by kernel_rfl
theorem ru3_20_2 : run3p 20 2 = true := by kernel_rfl
theorem ru3_20_4 : run3p 20 4 = true := by kernel_rfl
theorem ru3x_20 : run3q 20 = true := by kernel_rfl
theorem ru4_20 : run4 20 = true := by kernel_rfl
theorem ru5_20_2 : run5 20 2 = true := by kernel_rfl
theorem ru5_20_4 : run5 20 4 = true := by kernel_rfl
theorem ru6_20 : run6 20 = true := by kernel_rfl
theorem ru3_21_0 : run3p 21 0 = true := by kernel_rfl
theorem ru3_21_2 : run3p 21 2 = true := by kernel_rfl
theorem ru3_21_4 : run3p 21 4 = true := by kernel_rfl
theorem ru3x_21 : run3q 21 = true := by kernel_rfl
theorem ru4_21 : run4 21 = true := by kernel_rfl
theorem ru5_21_0 : run5 21 0 = true := by kernel_rfl
theorem ru5_21_2 : run5 21 2 = true := by kernel_rfl
theorem ru5_21_4 : run5 21 4 = true := by kernel_rfl
theorem ru6_21 : run6 21 = true := by kernel_rfl
theorem ru3_22_0 : run3p 22 0 = true := by kernel_rfl
theorem ru3_22_2 : run3p 22 2 = true := by kernel_rfl
theorem ru3_22_4 : run3p 22 4 = true := by kernel_rfl
theorem ru3x_22 : run3q 22 = true := by kernel_rfl
theorem ru4_22 : run4 22 = true := by kernel_rfl
theorem ru5_22_1 : run5 22 1 = true := by kernel_rfl
theorem ru5_22_2 : run5 22 2 = true := by kernel_rfl
theorem ru5_22_4 : run5 22 4 = true := by kernel_rfl
theorem ru6_22 : run6 22 = true := by kernel_rfl
theorem ru3_23_0 : run3p 23 0 = true := by kernel_rfl
theorem ru3_23_2 : run3p 23 2 = true := by kernel_rfl
theorem ru3_23_4 : run3p 23 4 = true := by kernel_rfl
theorem ru3x_23 : run3q 23 = true := by kernel_rfl
theorem ru4_23 : run4 23 = true := by kernel_rfl
theorem ru5_23_0 : run5 23 0 = true := by kernel_rfl
theorem ru5_23_1 : run5 23 1 = true := by kernel_rfl
theorem ru5_23_2 : run5 23 2 = true := by kernel_rfl
theorem ru5_23_4 : run5 23 4 = true := by kernel_rfl
theorem ru6_23 : run6 23 = true := by kernel_rfl
theorem ru3_24_0 : run3p 24 0 = true := by kernel_rfl
theorem ru3_24_2 : run3p 24 2 = true := by kernel_rfl
theorem ru3_24_4 : run3p 24 4 = true := by kernel_rfl
theorem ru3x_24 : run3q 24 = true := by kernel_rfl
theorem ru4_24 : run4 24 = true := by kernel_rfl
theorem ru5_24_3 : run5 24 3 = true := by kernel_rfl
theorem ru5_24_4 : run5 24 4 = true := by kernel_rfl
theorem ru6_24 : run6 24 = true := by kernel_rfl
theorem ru3_25_0 : run3p 25 0 = true := by kernel_rfl
theorem ru3_25_2 : run3p 25 2 = true := by kernel_rfl
theorem ru3_25_4 : run3p 25 4 = true := by kernel_rfl
end Go.Proofs.YtnofmmceafkkoaaGreat
