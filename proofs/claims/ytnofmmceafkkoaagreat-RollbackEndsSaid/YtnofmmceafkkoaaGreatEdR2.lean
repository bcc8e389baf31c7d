/-
  RollbackEnds: runs, part 2 (printed by a program).
-/
import Derived.Test.YtnofmmceafkkoaaGreatEdA
set_option maxRecDepth 100000
set_option linter.unusedVariables false
set_option linter.unusedSimpArgs false
namespace Go.Proofs.YtnofmmceafkkoaaGreat
theorem ru3_30_3 : run3 30 3 = true := by kernel_rfl
theorem ru3_30_4 : run3 30 4 = true := by kernel_rfl
theorem ru3q_30 : run3q 30 = true := by kernel_rfl
theorem ru3_31_0 : run3 31 0 = true := by kernel_rfl
theorem ru3_31_1 : run3 31 1 = true := by kernel_rfl
theorem ru3_31_2 : run3 31 2 = true := by kernel_rfl
theorem ru3_31_3 : run3 31 3 = true := by kernel_rfl
theorem ru3_31_4 : run3 31 4 = true := by kernel_rfl
theorem ru3q_31 : run3q 31 = true := by kernel_rfl
theorem ru5_1_0 : run5 1 0 = true := by kernel_rfl
theorem ru5_2_1 : run5 2 1 = true := by kernel_rfl
theorem ru5_3_0 : run5 3 0 = true := by kernel_rfl
theorem ru5_3_1 : run5 3 1 = true := by kernel_rfl
theorem ru5_4_2 : run5 4 2 = true := by kernel_rfl
theorem ru5_5_0 : run5 5 0 = true := by kernel_rfl
theorem ru5_5_2 : run5 5 2 = true := by kernel_rfl
theorem ru5_6_1 : run5 6 1 = true := by kernel_rfl
theorem ru5_6_2 : run5 6 2 = true := by kernel_rfl
theorem ru5_7_0 : run5 7 0 = true := by kernel_rfl
theorem ru5_7_1 : run5 7 1 = true := by kernel_rfl
theorem ru5_7_2 : run5 7 2 = true := by kernel_rfl
theorem ru5_8_3 : run5 8 3 = true := by kernel_rfl
theorem ru5_9_0 : run5 9 0 = true := by kernel_rfl
theorem ru5_9_3 : run5 9 3 = true := by kernel_rfl
theorem ru5_10_1 : run5 10 1 = true := by kernel_rfl
theorem ru5_10_3 : run5 10 3 = true := by kernel_rfl
theorem ru5_11_0 : run5 11 0 = true := by kernel_rfl
theorem ru5_11_1 : run5 11 1 = true := by kernel_rfl
theorem ru5_11_3 : run5 11 3 = true := by kernel_rfl
theorem ru5_12_2 : run5 12 2 = true := by kernel_rfl
theorem ru5_12_3 : run5 12 3 = true := by kernel_rfl
theorem ru5_13_0 : run5 13 0 = true := by kernel_rfl
theorem ru5_13_2 : run5 13 2 = true := by kernel_rfl
theorem ru5_13_3 : run5 13 3 = true := by kernel_rfl
theorem ru5_14_1 : run5 14 1 = true := by kernel_rfl
theorem ru5_14_2 : run5 14 2 = true := by kernel_rfl
theorem ru5_14_3 : run5 14 3 = true := by kernel_rfl
theorem ru5_15_0 : run5 15 0 = true := by kernel_rfl
theorem ru5_15_1 : run5 15 1 = true := by kernel_rfl
theorem ru5_15_2 : run5 15 2 = true := by kernel_rfl
theorem ru5_15_3 : run5 15 3 = true := by kernel_rfl
theorem ru5_16_4 : run5 16 4 = true := by kernel_rfl
theorem ru5_17_0 : run5 17 0 = true := by kernel_rfl
theorem ru5_17_4 : run5 17 4 = true := by kernel_rfl
theorem ru5_18_1 : run5 18 1 = true := by kernel_rfl
theorem ru5_18_4 : run5 18 4 = true := by kernel_rfl
theorem ru5_19_0 : run5 19 0 = true := by kernel_rfl
theorem ru5_19_1 : run5 19 1 = true := by kernel_rfl
end Go.Proofs.YtnofmmceafkkoaaGreat
