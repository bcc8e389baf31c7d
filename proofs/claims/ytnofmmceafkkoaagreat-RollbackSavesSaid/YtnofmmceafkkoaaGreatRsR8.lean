/-
  RollbackSaves: runs, part 8 (printed by a program).
-/
import Derived.Test.YtnofmmceafkkoaaGreatRsA
set_option linter.unusedVariables false
set_option linter.unusedSimpArgs false
set_option maxRecDepth 100000
namespace Go.Proofs.YtnofmmceafkkoaaGreat
theorem ru6_52 : run6 52 = true := by kernel_rfl
theorem ru3_53_0 : run3p 53 0 = true := by kernel_rfl
theorem ru3_53_2 : run3p 53 2 = true := by kernel_rfl
theorem ru3_53_4 : run3p 53 4 = true := by kernel_rfl
theorem ru3x_53 : run3q 53 = true := by kernel_rfl
theorem ru4_53 : run4 53 = true := by kernel_rfl
theorem ru5_53_0 : run5 53 0 = true := by kernel_rfl
theorem ru5_53_2 : run5 53 2 = true := by kernel_rfl
theorem ru5_53_4 : run5 53 4 = true := by kernel_rfl
theorem ru5_53_5 : run5 53 5 = true := by kernel_rfl
theorem ru6_53 : run6 53 = true := by kernel_rfl
theorem ru3_54_0 : run3p 54 0 = true := by kernel_rfl
theorem ru3_54_2 : run3p 54 2 = true := by kernel_rfl
theorem ru3_54_4 : run3p 54 4 = true := by kernel_rfl
theorem ru3x_54 : run3q 54 = true := by kernel_rfl
theorem ru4_54 : run4 54 = true := by kernel_rfl
theorem ru5_54_1 : run5 54 1 = true := by kernel_rfl
theorem ru5_54_2 : run5 54 2 = true := by kernel_rfl
theorem ru5_54_4 : run5 54 4 = true := by kernel_rfl
theorem ru5_54_5 : run5 54 5 = true := by kernel_rfl
theorem ru6_54 : run6 54 = true := by kernel_rfl
theorem ru3_55_0 : run3p 55 0 = true := by kernel_rfl
theorem ru3_55_2 : run3p 55 2 = true := by kernel_rfl
theorem ru3_55_4 : run3p 55 4 = true := by kernel_rfl
theorem ru3x_55 : run3q 55 = true := by kernel_rfl
theorem ru4_55 : run4 55 = true := by kernel_rfl
theorem ru5_55_0 : run5 55 0 = true := by kernel_rfl
theorem ru5_55_1 : run5 55 1 = true := by kernel_rfl
theorem ru5_55_2 : run5 55 2 = true := by kernel_rfl
theorem ru5_55_4 : run5 55 4 = true := by kernel_rfl
theorem ru5_55_5 : run5 55 5 = true := by kernel_rfl
theorem ru6_55 : run6 55 = true := by kernel_rfl
theorem ru3_56_0 : run3p 56 0 = true := by kernel_rfl
theorem ru3_56_2 : run3p 56 2 = true := by kernel_rfl
theorem ru3_56_4 : run3p 56 4 = true := by kernel_rfl
theorem ru3x_56 : run3q 56 = true := by kernel_rfl
theorem ru4_56 : run4 56 = true := by kernel_rfl
theorem ru5_56_3 : run5 56 3 = true := by kernel_rfl
theorem ru5_56_4 : run5 56 4 = true := by kernel_rfl
theorem ru5_56_5 : run5 56 5 = true := by kernel_rfl
theorem ru6_56 : run6 56 = true := by kernel_rfl
theorem ru3_57_0 : run3p 57 0 = true := by kernel_rfl
theorem ru3_57_2 : run3p 57 2 = true := by kernel_rfl
theorem ru3_57_4 : run3p 57 4 = true := by kernel_rfl
theorem ru3x_57 : run3q 57 = true := by kernel_rfl
theorem ru4_57 : run4 57 = true := by kernel_rfl
theorem ru5_57_0 : run5 57 0 = true := by kernel_rfl
theorem ru5_57_3 : run5 57 3 = true := by kernel_rfl
theorem ru5_57_4 : run5 57 4 = true := by kernel_rfl
theorem ru5_57_5 : run5 57 5 = true := by kernel_rfl
theorem ru6_57 : run6 57 = true := by kernel_rfl
theorem ru3_58_0 : run3p 58 0 = true := by kernel_rfl
theorem ru3_58_2 : run3p 58 2 = true := by kernel_rfl
theorem ru3_58_4 : run3p 58 4 = true := by kernel_rfl
theorem ru3x_58 : run3q 58 = true := by kernel_rfl
theorem ru4_58 : run4 58 = true := by kernel_rfl
theorem ru5_58_1 : run5 58 1 = true := by kernel_rfl
theorem ru5_58_3 : run5 58 3 = true := by kernel_rfl
theorem ru5_58_4 : run5 58 4 = true := by kernel_rfl
theorem ru5_58_5 : run5 58 5 = true := by kernel_rfl
end Go.Proofs.YtnofmmceafkkoaaGreat
