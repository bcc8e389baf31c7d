/-
  RollbackSaves: runs, part 9 (printed by a program).
-/
import Derived.Test.YtnofmmceafkkoaaGreatRsA
set_option linter.unusedVariables false
set_option linter.unusedSimpArgs false
set_option maxRecDepth 100000
namespace Go.Proofs.YtnofmmceafkkoaaGreat
theorem ru6_58 : run6 58 = true := by kernel_rfl
theorem ru3_59_0 : run3p 59 0 = true := by kernel_rfl
theorem ru3_59_2 : run3p 59 2 = true := by kernel_rfl
theorem ru3_59_4 : run3p 59 4 = true := by kernel_rfl
theorem ru3x_59 : run3q 59 = true := by kernel_rfl
theorem ru4_59 : run4 59 = true := by kernel_rfl
theorem ru5_59_0 : run5 59 0 = true := by kernel_rfl
theorem ru5_59_1 : run5 59 1 = true := by kernel_rfl
theorem ru5_59_3 : run5 59 3 = true := by kernel_rfl
theorem ru5_59_4 : run5 59 4 = true := by kernel_rfl
theorem ru5_59_5 : run5 59 5 = true := by kernel_rfl
theorem ru6_59 : run6 59 = true := by kernel_rfl
theorem ru3_60_0 : run3p 60 0 = true := by kernel_rfl
theorem ru3_60_2 : run3p 60 2 = true := by kernel_rfl
theorem ru3_60_4 : run3p 60 4 = true := by kernel_rfl
theorem ru3x_60 : run3q 60 = true := by kernel_rfl
theorem ru4_60 : run4 60 = true := by kernel_rfl
theorem ru5_60_2 : run5 60 2 = true := by kernel_rfl
theorem ru5_60_3 : run5 60 3 = true := by kernel_rfl
theorem ru5_60_4 : run5 60 4 = true := by kernel_rfl
theorem ru5_60_5 : run5 60 5 = true := by kernel_rfl
theorem ru6_60 : run6 60 = true := by kernel_rfl
theorem ru3_61_0 : run3p 61 0 = true := by kernel_rfl
theorem ru3_61_2 : run3p 61 2 = true := by kernel_rfl
theorem ru3_61_4 : run3p 61 4 = true := by kernel_rfl
theorem ru3x_61 : run3q 61 = true := by kernel_rfl
theorem ru4_61 : run4 61 = true := by kernel_rfl
theorem ru5_61_0 : run5 61 0 = true := by kernel_rfl
theorem ru5_61_2 : run5 61 2 = true := by kernel_rfl
theorem ru5_61_3 : run5 61 3 = true := by kernel_rfl
theorem ru5_61_4 : run5 61 4 = true := by kernel_rfl
theorem ru5_61_5 : run5 61 5 = true := by kernel_rfl
theorem ru6_61 : run6 61 = true := by kernel_rfl
theorem ru3_62_0 : run3p 62 0 = true := by kernel_rfl
theorem ru3_62_2 : run3p 62 2 = true := by kernel_rfl
theorem ru3_62_4 : run3p 62 4 = true := by kernel_rfl
theorem ru3x_62 : run3q 62 = true := by kernel_rfl
theorem ru4_62 : run4 62 = true := by kernel_rfl
theorem ru5_62_1 : run5 62 1 = true := by kernel_rfl
theorem ru5_62_2 : run5 62 2 = true := by kernel_rfl
theorem ru5_62_3 : run5 62 3 = true := by kernel_rfl
theorem ru5_62_4 : run5 62 4 = true := by kernel_rfl
theorem ru5_62_5 : run5 62 5 = true := by kernel_rfl
theorem ru6_62 : run6 62 = true := by kernel_rfl
theorem ru3_63_0 : run3p 63 0 = true := by kernel_rfl
theorem ru3_63_2 : run3p 63 2 = true := by kernel_rfl
theorem ru3_63_4 : run3p 63 4 = true := by kernel_rfl
theorem ru3x_63 : run3q 63 = true := by kernel_rfl
theorem ru4_63 : run4 63 = true := by kernel_rfl
theorem ru5_63_0 : run5 63 0 = true := by kernel_rfl
theorem ru5_63_1 : run5 63 1 = true := by kernel_rfl
theorem ru5_63_2 : run5 63 2 = true := by kernel_rfl
theorem ru5_63_3 : run5 63 3 = true := by kernel_rfl
theorem ru5_63_4 : run5 63 4 = true := by kernel_rfl
theorem ru5_63_5 : run5 63 5 = true := by kernel_rfl
theorem ru6_63 : run6 63 = true := by kernel_rfl
theorem ru4_0 : run4E0 = true := by kernel_rfl
theorem ru6_0 : run6z = true := by kernel_rfl
end Go.Proofs.YtnofmmceafkkoaaGreat
