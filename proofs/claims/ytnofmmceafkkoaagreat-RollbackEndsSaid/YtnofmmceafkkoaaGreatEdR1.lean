/-
  RollbackEnds: runs, part 1 (printed by a program).
-/
import Derived.Test.YtnofmmceafkkoaaGreatEdA
set_option maxRecDepth 100000
set_option linter.unusedVariables false
set_option linter.unusedSimpArgs false
namespace Go.Proofs.YtnofmmceafkkoaaGreat
theorem ru3_3_4 : run3 3 4 = true := by kernel_rfl
theorem ru3q_3 : run3q 3 = true := by kernel_rfl
theorem ru3_4_0 : run3 4 0 = true := by kernel_rfl
theorem ru3_4_1 : run3 4 1 = true := by kernel_rfl
theorem ru3_4_2 : run3 4 2 = true := by kernel_rfl
theorem ru3_4_3 : run3 4 3 = true := by kernel_rfl
theorem ru3_4_4 : run3 4 4 = true := by kernel_rfl
theorem ru3q_4 : run3q 4 = true := by kernel_rfl
theorem ru3_5_0 : run3 5 0 = true := by kernel_rfl
theorem ru3_5_1 : run3 5 1 = true := by kernel_rfl
theorem ru3_5_2 : run3 5 2 = true := by kernel_rfl
theorem ru3_5_3 : run3 5 3 = true := by kernel_rfl
theorem ru3_5_4 : run3 5 4 = true := by kernel_rfl
theorem ru3q_5 : run3q 5 = true := by kernel_rfl
theorem ru3_6_0 : run3 6 0 = true := by kernel_rfl
theorem ru3_6_1 : run3 6 1 = true := by kernel_rfl
theorem ru3_6_2 : run3 6 2 = true := by kernel_rfl
theorem ru3_6_3 : run3 6 3 = true := by kernel_rfl
theorem ru3_6_4 : run3 6 4 = true := by kernel_rfl
theorem ru3q_6 : run3q 6 = true := by kernel_rfl
theorem ru3_7_0 : run3 7 0 = true := by kernel_rfl
theorem ru3_7_1 : run3 7 1 = true := by kernel_rfl
theorem ru3_7_2 : run3 7 2 = true := by kernel_rfl
theorem ru3_7_3 : run3 7 3 = true := by kernel_rfl
theorem ru3_7_4 : run3 7 4 = true := by kernel_rfl
theorem ru3q_7 : run3q 7 = true := by kernel_rfl
theorem ru3_8_0 : run3 8 0 = true := by kernel_rfl
theorem ru3_8_1 : run3 8 1 = true := by kernel_rfl
theorem ru3_8_2 : run3 8 2 = true := by kernel_rfl
theorem ru3_8_3 : run3 8 3 = true := by kernel_rfl
theorem ru3_8_4 : run3 8 4 = true := by kernel_rfl
theorem ru3q_8 : run3q 8 = true := by kernel_rfl
theorem ru3_9_0 : run3 9 0 = true := by kernel_rfl
theorem ru3_9_1 : run3 9 1 = true := by kernel_rfl
theorem ru3_9_2 : run3 9 2 = true := by kernel_rfl
theorem ru3_9_3 : run3 9 3 = true := by kernel_rfl
theorem ru3_9_4 : run3 9 4 = true := by kernel_rfl
theorem ru3q_9 : run3q 9 = true := by kernel_rfl
theorem ru3_10_0 : run3 10 0 = true := by kernel_rfl
theorem ru3_10_1 : run3 10 1 = true := by kernel_rfl
theorem ru3_10_2 : run3 10 2 = true := by kernel_rfl
theorem ru3_10_3 : run3 10 3 = true := by kernel_rfl
theorem ru3_10_4 : run3 10 4 = true := by kernel_rfl
theorem ru3q_10 : run3q 10 = true := by kernel_rfl
theorem ru3_11_0 : run3 11 0 = true := by kernel_rfl
theorem ru3_11_1 : run3 11 1 = true := by kernel_rfl
theorem ru3_11_2 : run3 11 2 = true := by kernel_rfl
theorem ru3_11_3 : run3 11 3 = true := by kernel_rfl
theorem ru3_11_4 : run3 11 4 = true := by kernel_rfl
theorem ru3q_11 : run3q 11 = true := by kernel_rfl
theorem ru3_12_0 : run3 12 0 = true := by kernel_rfl
theorem ru3_12_1 : run3 12 1 = true := by kernel_rfl
theorem ru3_12_2 : run3 12 2 = true := by kernel_rfl
theorem ru3_12_3 : run3 12 3 = true := by kernel_rfl
theorem ru3_12_4 : run3 12 4 = true := by kernel_rfl
theorem ru3q_12 : run3q 12 = true := by kernel_rfl
theorem ru3_13_0 : run3 13 0 = true := by kernel_rfl
theorem ru3_13_1 : run3 13 1 = true := by kernel_rfl
theorem ru3_13_2 : run3 13 2 = true := by kernel_rfl
theorem ru3_13_3 : run3 13 3 = true := by kernel_rfl
theorem ru3_13_4 : run3 13 4 = true := by kernel_rfl
theorem ru3q_13 : run3q 13 = true := by kernel_rfl
theorem ru3_14_0 : run3 14 0 = true := by kernel_rfl
theorem ru3_14_1 : run3 14 1 = true := by kernel_rfl
theorem ru3_14_2 : run3 14 2 = true := by kernel_rfl
theorem ru3_14_3 : run3 14 3 = true := by kernel_rfl
theorem ru3_14_4 : run3 14 4 = true := by kernel_rfl
theorem ru3q_14 : run3q 14 = true := by kernel_rfl
theorem ru3_15_0 : run3 15 0 = true := by kernel_rfl
theorem ru3_15_1 : run3 15 1 = true := by kernel_rfl
theorem ru3_15_2 : run3 15 2 = true := by kernel_rfl
theorem ru3_15_3 : run3 15 3 = true := by kernel_rfl
theorem ru3_15_4 : run3 15 4 = true := by kernel_rfl
theorem ru3q_15 : run3q 15 = true := by kernel_rfl
theorem ru3_16_0 : run3 16 0 = true := by kernel_rfl
theorem ru3_16_1 : run3 16 1 = true := by kernel_rfl
theorem ru3_16_2 : run3 16 2 = true := by kernel_rfl
theorem ru3_16_3 : run3 16 3 = true := by kernel_rfl
theorem ru3_16_4 : run3 16 4 = true := by kernel_rfl
theorem ru3q_16 : run3q 16 = true := by kernel_rfl
theorem ru3_17_0 : run3 17 0 = true := by kernel_rfl
theorem ru3_17_1 : run3 17 1 = true := by kernel_rfl
theorem ru3_17_2 : run3 17 2 = true := by kernel_rfl
theorem ru3_17_3 : run3 17 3 = true := by kernel_rfl
theorem ru3_17_4 : run3 17 4 = true := by kernel_rfl
theorem ru3q_17 : run3q 17 = true := by kernel_rfl
theorem ru3_18_0 : run3 18 0 = true := by kernel_rfl
theorem ru3_18_1 : run3 18 1 = true := by kernel_rfl
theorem ru3_18_2 : run3 18 2 = true := by kernel_rfl
theorem ru3_18_3 : run3 18 3 = true := by kernel_rfl
theorem ru3_18_4 : run3 18 4 = true := by kernel_rfl
theorem ru3q_18 : run3q 18 = true := by kernel_rfl
theorem ru3_19_0 : run3 19 0 = true := by kernel_rfl
theorem ru3_19_1 : run3 19 1 = true := by kernel_rfl
theorem ru3_19_2 : run3 19 2 = true := by kernel_rfl
theorem ru3_19_3 : run3 19 3 = true := by kernel_rfl
theorem ru3_19_4 : run3 19 4 = true := by kernel_rfl
theorem ru3q_19 : run3q 19 = true := by kernel_rfl
theorem ru3_20_0 : run3 20 0 = true := by kernel_rfl
theorem ru3_20_1 : run3 20 1 = true := by kernel_rfl
theorem ru3_20_2 : run3 20 2 = true := by kernel_rfl
theorem ru3_20_3 : run3 20 3 = true := by kernel_rfl
theorem ru3_20_4 : run3 20 4 = true := by kernel_rfl
theorem ru3q_20 : run3q 20 = true := by kernel_rfl
theorem ru3_21_0 : run3 21 0 = true := by kernel_rfl
theorem ru3_21_1 : run3 21 1 = true := by kernel_rfl
theorem ru3_21_2 : run3 21 2 = true := by kernel_rfl
theorem ru3_21_3 : run3 21 3 = true := by kernel_rfl
theorem ru3_21_4 : run3 21 4 = true := by kernel_rfl
theorem ru3q_21 : run3q 21 = true := by kernel_rfl
theorem ru3_22_0 : run3 22 0 = true := by kernel_rfl
theorem ru3_22_1 : run3 22 1 = true := by kernel_rfl
theorem ru3_22_2 : run3 22 2 = true := by kernel_rfl
theorem ru3_22_3 : run3 22 3 = true := by kernel_rfl
theorem ru3_22_4 : run3 22 4 = true := by kernel_rfl
theorem ru3q_22 : run3q 22 = true := by kernel_rfl
theorem ru3_23_0 : run3 23 0 = true := by kernel_rfl
theorem ru3_23_1 : run3 23 1 = true := by kernel_rfl
theorem ru3_23_2 : run3 23 2 = true := by kernel_rfl
theorem ru3_23_3 : run3 23 3 = true := by kernel_rfl
theorem ru3_23_4 : run3 23 4 = true := by kernel_rfl
theorem ru3q_23 : run3q 23 = true := by kernel_rfl
theorem ru3_24_0 : run3 24 0 = true := by kernel_rfl
theorem ru3_24_1 : run3 24 1 = true := by kernel_rfl
theorem ru3_24_2 : run3 24 2 = true := by kernel_rfl
theorem ru3_24_3 : run3 24 3 = true := by kernel_rfl
theorem ru3_24_4 : run3 24 4 = true := by kernel_rfl
theorem ru3q_24 : run3q 24 = true := by kernel_rfl
theorem ru3_25_0 : run3 25 0 = true := by kernel_rfl
theorem ru3_25_1 : run3 25 1 = true := by kernel_rfl
theorem ru3_25_2 : run3 25 2 = true := by kernel_rfl
theorem ru3_25_3 : run3 25 3 = true := by kernel_rfl
theorem ru3_25_4 : run3 25 4 = true := by kernel_rfl
theorem ru3q_25 : run3q 25 = true := by kernel_rfl
theorem ru3_26_0 : run3 26 0 = true := by kernel_rfl
theorem ru3_26_1 : run3 26 1 = true := by kernel_rfl
theorem ru3_26_2 : run3 26 2 = true := by kernel_rfl
theorem ru3_26_3 : run3 26 3 = true := by kernel_rfl
theorem ru3_26_4 : run3 26 4 = true := by kernel_rfl
theorem ru3q_26 : run3q 26 = true := by kernel_rfl
theorem ru3_27_0 : run3 27 0 = true := by kernel_rfl
theorem ru3_27_1 : run3 27 1 = true := by kernel_rfl
theorem ru3_27_2 : run3 27 2 = true := by kernel_rfl
theorem ru3_27_3 : run3 27 3 = true := by kernel_rfl
theorem ru3_27_4 : run3 27 4 = true := by kernel_rfl
theorem ru3q_27 : run3q 27 = true := by kernel_rfl
theorem ru3_28_0 : run3 28 0 = true := by kernel_rfl
theorem ru3_28_1 : run3 28 1 = true := by kernel_rfl
theorem ru3_28_2 : run3 28 2 = true := by kernel_rfl
theorem ru3_28_3 : run3 28 3 = true := by kernel_rfl
theorem ru3_28_4 : run3 28 4 = true := by kernel_rfl
theorem ru3q_28 : run3q 28 = true := by kernel_rfl
theorem ru3_29_0 : run3 29 0 = true := by kernel_rfl
theorem ru3_29_1 : run3 29 1 = true := by kernel_rfl
theorem ru3_29_2 : run3 29 2 = true := by kernel_rfl
theorem ru3_29_3 : run3 29 3 = true := by kernel_rfl
theorem ru3_29_4 : run3 29 4 = true := by kernel_rfl
theorem ru3q_29 : run3q 29 = true := by kernel_rfl
theorem ru3_30_0 : run3 30 0 = true := by kernel_rfl
theorem ru3_30_1 : run3 30 1 = true := by kernel_rfl
theorem ru3_30_2 : run3 30 2 = true := by kernel_rfl
end Go.Proofs.YtnofmmceafkkoaaGreat
