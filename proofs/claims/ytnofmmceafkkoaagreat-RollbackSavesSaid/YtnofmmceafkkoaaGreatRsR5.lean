/-
  RollbackSaves: runs, part 5 (printed by a program).
-/
import Derived.Test.YtnofmmceafkkoaaGreatRsA
set_option linter.unusedVariables false
set_option linter.unusedSimpArgs false
set_option maxRecDepth 100000
namespace Go.Proofs.YtnofmmceafkkoaaGreat
theorem ru5_31_3 : run5 31 3 = true := by kernel_rfl
theorem ru5_31_4 : run5 31 4 = true := by kernel_rfl
theorem ru6_31 : run6 31 = true := by kernel_rfl
theorem ru3_32_0 : run3p 32 0 = true := by kernel_rfl
theorem ru3_32_2 : run3p 32 2 = true := by kernel_rfl
theorem ru3_32_4 : run3p 32 4 = true := by kernel_rfl
theorem ru3x_32 : run3q 32 = true := by kernel_rfl
theorem ru4_32 : run4 32 = true := by kernel_rfl
theorem ru5_32_5 : run5 32 5 = true := by kernel_rfl
theorem ru6_32 : run6 32 = true := by kernel_rfl
theorem ru3_33_0 : run3p 33 0 = true := by kernel_rfl
theorem ru3_33_2 : run3p 33 2 = true := by kernel_rfl
theorem ru3_33_4 : run3p 33 4 = true := by kernel_rfl
theorem ru3x_33 : run3q 33 = true := by kernel_rfl
theorem ru4_33 : run4 33 = true := by kernel_rfl
theorem ru5_33_0 : run5 33 0 = true := by kernel_rfl
theorem ru5_33_5 : run5 33 5 = true := by kernel_rfl
theorem ru6_33 : run6 33 = true := by kernel_rfl
theorem ru3_34_0 : run3p 34 0 = true := by kernel_rfl
theorem ru3_34_2 : run3p 34 2 = true := by kernel_rfl
theorem ru3_34_4 : run3p 34 4 = true := by kernel_rfl
theorem ru3x_34 : run3q 34 = true := by kernel_rfl
theorem ru4_34 : run4 34 = true := by kernel_rfl
theorem ru5_34_1 : run5 34 1 = true := by kernel_rfl
theorem ru5_34_5 : run5 34 5 = true := by kernel_rfl
theorem ru6_34 : run6 34 = true := by kernel_rfl
theorem ru3_35_0 : run3p 35 0 = true := by kernel_rfl
theorem ru3_35_2 : run3p 35 2 = true := by kernel_rfl
theorem ru3_35_4 : run3p 35 4 = true := by kernel_rfl
theorem ru3x_35 : run3q 35 = true := by kernel_rfl
theorem ru4_35 : run4 35 = true := by kernel_rfl
theorem ru5_35_0 : run5 35 0 = true := by kernel_rfl
theorem ru5_35_1 : run5 35 1 = true := by kernel_rfl
theorem ru5_35_5 : run5 35 5 = true := by kernel_rfl
theorem ru6_35 : run6 35 = true := by kernel_rfl
theorem ru3_36_0 : run3p 36 0 = true := by kernel_rfl
theorem ru3_36_2 : run3p 36 2 = true := by kernel_rfl
theorem ru3_36_4 : run3p 36 4 = true := by kernel_rfl
theorem ru3x_36 : run3q 36 = true := by kernel_rfl
theorem ru4_36 : run4 36 = true := by kernel_rfl
theorem ru5_36_2 : run5 36 2 = true := by kernel_rfl
theorem ru5_36_5 : run5 36 5 = true := by kernel_rfl
theorem ru6_36 : run6 36 = true := by kernel_rfl
theorem ru3_37_0 : run3p 37 0 = true := by kernel_rfl
theorem ru3_37_2 : run3p 37 2 = true := by kernel_rfl
theorem ru3_37_4 : run3p 37 4 = true := by kernel_rfl
theorem ru3x_37 : run3q 37 = true := by kernel_rfl
theorem ru4_37 : run4 37 = true := by kernel_rfl
theorem ru5_37_0 : run5 37 0 = true := by kernel_rfl
theorem ru5_37_2 : run5 37 2 = true := by kernel_rfl
theorem ru5_37_5 : run5 37 5 = true := by kernel_rfl
theorem ru6_37 : run6 37 = true := by kernel_rfl
theorem ru3_38_0 : run3p 38 0 = true := by kernel_rfl
theorem ru3_38_2 : run3p 38 2 = true := by kernel_rfl
theorem ru3_38_4 : run3p 38 4 = true := by kernel_rfl
theorem ru3x_38 : run3q 38 = true := by kernel_rfl
theorem ru4_38 : run4 38 = true := by kernel_rfl
theorem ru5_38_1 : run5 38 1 = true := by kernel_rfl
theorem ru5_38_2 : run5 38 2 = true := by kernel_rfl
theorem ru5_38_5 : run5 38 5 = true := by kernel_rfl
theorem ru6_38 : run6 38 = true := by kernel_rfl
theorem ru3_39_0 : run3p 39 0 = true := by kernel_rfl
theorem ru3_39_2 : run3p 39 2 = true := by kernel_rfl
theorem ru3_39_4 : run3p 39 4 = true := by kernel_rfl
theorem ru3x_39 : run3q 39 = true := by kernel_rfl
theorem ru4_39 : run4 39 = true := by kernel_rfl
theorem ru5_39_0 : run5 39 0 = true := by kernel_rfl
end Go.Proofs.YtnofmmceafkkoaaGreat
