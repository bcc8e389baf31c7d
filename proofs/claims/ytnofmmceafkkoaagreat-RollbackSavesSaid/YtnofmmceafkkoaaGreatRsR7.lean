/-
  RollbackSaves: runs, part 7 (printed by a program).
-/
import Derived.Test.YtnofmmceafkkoaaGreatRsA
set_option linter.unusedVariables false
set_option linter.unusedSimpArgs false
set_option maxRecDepth 100000
namespace Go.Proofs.YtnofmmceafkkoaaGreat
theorem ru3x_46 : run3q 46 = true := by kernel_rfl
theorem ru4_46 : run4 46 = true := by kernel_rfl
theorem ru5_46_1 : run5 46 1 = true := by kernel_rfl
theorem ru5_46_2 : run5 46 2 = true := by kernel_rfl
theorem ru5_46_3 : run5 46 3 = true := by kernel_rfl
theorem ru5_46_5 : run5 46 5 = true := by kernel_rfl
theorem ru6_46 : run6 46 = true := by kernel_rfl
theorem ru3_47_0 : run3p 47 0 = true := by kernel_rfl
theorem ru3_47_2 : run3p 47 2 = true := by kernel_rfl
theorem ru3_47_4 : run3p 47 4 = true := by kernel_rfl
theorem ru3x_47 : run3q 47 = true := by kernel_rfl
theorem ru4_47 : run4 47 = true := by kernel_rfl
theorem ru5_47_0 : run5 47 0 = true := by kernel_rfl
theorem ru5_47_1 : run5 47 1 = true := by kernel_rfl
theorem ru5_47_2 : run5 47 2 = true := by kernel_rfl
theorem ru5_47_3 : run5 47 3 = true := by kernel_rfl
theorem ru5_47_5 : run5 47 5 = true := by kernel_rfl
theorem ru6_47 : run6 47 = true := by kernel_rfl
theorem ru3_48_0 : run3p 48 0 = true := by kernel_rfl
theorem ru3_48_2 : run3p 48 2 = true := by kernel_rfl
theorem ru3_48_4 : run3p 48 4 = true := by kernel_rfl
theorem ru3x_48 : run3q 48 = true := by kernel_rfl
theorem ru4_48 : run4 48 = true := by kernel_rfl
theorem ru5_48_4 : run5 48 4 = true := by kernel_rfl
theorem ru5_48_5 : run5 48 5 = true := by kernel_rfl
theorem ru6_48 : run6 48 = true := by kernel_rfl
theorem ru3_49_0 : run3p 49 0 = true := by kernel_rfl
theorem ru3_49_2 : run3p 49 2 = true := by kernel_rfl
theorem ru3_49_4 : run3p 49 4 = true := by kernel_rfl
theorem ru3x_49 : run3q 49 = true := by kernel_rfl
theorem ru4_49 : run4 49 = true := by kernel_rfl
theorem ru5_49_0 : run5 49 0 = true := by kernel_rfl
theorem ru5_49_4 : run5 49 4 = true := by kernel_rfl
theorem ru5_49_5 : run5 49 5 = true := by kernel_rfl
theorem ru6_49 : run6 49 = true := by kernel_rfl
theorem ru3_50_0 : run3p 50 0 = true := by kernel_rfl
theorem ru3_50_2 : run3p 50 2 = true := by kernel_rfl
theorem ru3_50_4 : run3p 50 4 = true := by kernel_rfl
theorem ru3x_50 : run3q 50 = true := by kernel_rfl
theorem ru4_50 : run4 50 = true := by kernel_rfl
theorem ru5_50_1 : run5 50 1 = true := by kernel_rfl
theorem ru5_50_4 : run5 50 4 = true := by kernel_rfl
theorem ru5_50_5 : run5 50 5 = true := by kernel_rfl
theorem ru6_50 : run6 50 = true := by kernel_rfl
theorem ru3_51_0 : run3p 51 0 = true := by kernel_rfl
theorem ru3_51_2 : run3p 51 2 = true := by kernel_rfl
theorem ru3_51_4 : run3p 51 4 = true := by kernel_rfl
theorem ru3x_51 : run3q 51 = true := by kernel_rfl
theorem ru4_51 : run4 51 = true := by kernel_rfl
theorem ru5_51_0 : run5 51 0 = true := by kernel_rfl
theorem ru5_51_1 : run5 51 1 = true := by kernel_rfl
theorem ru5_51_4 : run5 51 4 = true := by kernel_rfl
theorem ru5_51_5 : run5 51 5 = true := by kernel_rfl
theorem ru6_51 : run6 51 = true := by kernel_rfl
theorem ru3_52_0 : run3p 52 0 = true := by kernel_rfl
theorem ru3_52_2 : run3p 52 2 = true := by kernel_rfl
theorem ru3_52_4 : run3p 52 4 = true := by kernel_rfl
theorem ru3x_52 : run3q 52 = true := by kernel_rfl
theorem ru4_52 : run4 52 = true := by kernel_rfl
theorem ru5_52_2 : run5 52 2 = true := by kernel_rfl
theorem ru5_52_4 : run5 52 4 = true := by kernel_rfl
theorem ru5_52_5 : run5 52 5 = true := by kernel_rfl
end Go.Proofs.YtnofmmceafkkoaaGreat
