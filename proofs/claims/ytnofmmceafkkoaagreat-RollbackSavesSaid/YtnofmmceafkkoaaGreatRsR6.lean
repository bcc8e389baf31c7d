/-
  RollbackSaves: runs, part 6 (printed by a program).
-/
import Derived.Test.YtnofmmceafkkoaaGreatRsA
set_option linter.unusedVariables false
set_option linter.unusedSimpArgs false
set_option maxRecDepth 100000
namespace Go.Proofs.YtnofmmceafkkoaaGreat
theorem ru5_39_1 : run5 39 1 = true := by kernel_rfl
theorem ru5_39_2 : run5 39 2 = true := by kernel_rfl
theorem ru5_39_5 : run5 39 5 = true := by kernel_rfl
theorem ru6_39 : run6 39 = true := by kernel_rfl
theorem ru3_40_0 : run3p 40 0 = true := by kernel_rfl
theorem ru3_40_2 : run3p 40 2 = true := by kernel_rfl
theorem ru3_40_4 : run3p 40 4 = true := by kernel_rfl
theorem ru3x_40 : run3q 40 = true := by kernel_rfl
theorem ru4_40 : run4 40 = true := by kernel_rfl
theorem ru5_40_3 : run5 40 3 = true := by kernel_rfl
theorem ru5_40_5 : run5 40 5 = true := by kernel_rfl
theorem ru6_40 : run6 40 = true := by kernel_rfl
theorem ru3_41_0 : run3p 41 0 = true := by kernel_rfl
theorem ru3_41_2 : run3p 41 2 = true := by kernel_rfl
theorem ru3_41_4 : run3p 41 4 = true := by kernel_rfl
theorem ru3x_41 : run3q 41 = true := by kernel_rfl
theorem ru4_41 : run4 41 = true := by kernel_rfl
theorem ru5_41_0 : run5 41 0 = true := by kernel_rfl
theorem ru5_41_3 : run5 41 3 = true := by kernel_rfl
theorem ru5_41_5 : run5 41 5 = true := by kernel_rfl
theorem ru6_41 : run6 41 = true := by kernel_rfl
theorem ru3_42_0 : run3p 42 0 = true := by kernel_rfl
theorem ru3_42_2 : run3p 42 2 = true := by kernel_rfl
theorem ru3_42_4 : run3p 42 4 = true := by kernel_rfl
theorem ru3x_42 : run3q 42 = true := by kernel_rfl
theorem ru4_42 : run4 42 = true := by kernel_rfl
theorem ru5_42_1 : run5 42 1 = true := by kernel_rfl
theorem ru5_42_3 : run5 42 3 = true := by kernel_rfl
theorem ru5_42_5 : run5 42 5 = true := by kernel_rfl
theorem ru6_42 : run6 42 = true := by kernel_rfl
theorem ru3_43_0 : run3p 43 0 = true := by kernel_rfl
theorem ru3_43_2 : run3p 43 2 = true := by kernel_rfl
theorem ru3_43_4 : run3p 43 4 = true := by kernel_rfl
theorem ru3x_43 : run3q 43 = true := by kernel_rfl
theorem ru4_43 : run4 43 = true := by kernel_rfl
theorem ru5_43_0 : run5 43 0 = true := by kernel_rfl
theorem ru5_43_1 : run5 43 1 = true := by kernel_rfl
theorem ru5_43_3 : run5 43 3 = true := by kernel_rfl
theorem ru5_43_5 : run5 43 5 = true := by kernel_rfl
theorem ru6_43 : run6 43 = true := by kernel_rfl
theorem ru3_44_0 : run3p 44 0 = true := by kernel_rfl
theorem ru3_44_2 : run3p 44 2 = true := by kernel_rfl
theorem ru3_44_4 : run3p 44 4 = true := by kernel_rfl
theorem ru3x_44 : run3q 44 = true := by kernel_rfl
theorem ru4_44 : run4 44 = true := by kernel_rfl
theorem ru5_44_2 : run5 44 2 = true := by kernel_rfl
theorem ru5_44_3 : run5 44 3 = true := by kernel_rfl
theorem ru5_44_5 : run5 44 5 = true := by kernel_rfl
theorem ru6_44 : run6 44 = true := by kernel_rfl
theorem ru3_45_0 : run3p 45 0 = true := by kernel_rfl
theorem ru3_45_2 : run3p 45 2 = true := by kernel_rfl
theorem ru3_45_4 : run3p 45 4 = true := by kernel_rfl
theorem ru3x_45 : run3q 45 = true := by kernel_rfl
theorem ru4_45 : run4 45 = true := by kernel_rfl
theorem ru5_45_0 : run5 45 0 = true := by kernel_rfl
theorem ru5_45_2 : run5 45 2 = true := by kernel_rfl
theorem ru5_45_3 : run5 45 3 = true := by kernel_rfl
theorem ru5_45_5 : run5 45 5 = true := by kernel_rfl
theorem ru6_45 : run6 45 = true := by kernel_rfl
theorem ru3_46_0 : run3p 46 0 = true := by kernel_rfl
theorem ru3_46_2 : run3p 46 2 = true := by kernel_rfl
theorem ru3_46_4 : run3p 46 4 = true := by kernel_rfl
end Go.Proofs.YtnofmmceafkkoaaGreat
