/-
  RollbackCells: runs, part 0 (printed by a program).
-/
import Derived.Test.YtnofmmceafkkoaaGreatEcA
set_option maxRecDepth 100000
set_option linter.unusedVariables false
set_option linter.unusedSimpArgs false
namespace Go.Proofs.YtnofmmceafkkoaaGreat
theorem ru1_0_0 : run1 0 0 = true := by kernel_rfl
theorem ru1_0_1 : run1 0 1 = true := by kernel_rfl
theorem ru1_0_2 : run1 0 2 = true := by kernel_rfl
theorem ru1_0_3 : run1 0 3 = true := by kernel_rfl
theorem ru1_1_0 : run1 1 0 = true := by kernel_rfl
theorem ru1_1_1 : run1 1 1 = true := by kernel_rfl
theorem ru1_1_2 : run1 1 2 = true := by kernel_rfl
theorem ru1_1_3 : run1 1 3 = true := by kernel_rfl
theorem ru1q_1 : run1q 1 = true := by kernel_rfl
theorem ru1_2_0 : run1 2 0 = true := by kernel_rfl
theorem ru1_2_1 : run1 2 1 = true := by kernel_rfl
theorem ru1_2_2 : run1 2 2 = true := by kernel_rfl
theorem ru1_2_3 : run1 2 3 = true := by kernel_rfl
theorem ru1q_2 : run1q 2 = true := by kernel_rfl
theorem ru1_3_0 : run1 3 0 = true := by kernel_rfl
theorem ru1_3_1 : run1 3 1 = true := by kernel_rfl
theorem ru1_3_2 : run1 3 2 = true := by kernel_rfl
theorem ru1_3_3 : run1 3 3 = true := by kernel_rfl
theorem ru1q_3 : run1q 3 = true := by kernel_rfl
theorem ru1_4_0 : run1 4 0 = true := by kernel_rfl
theorem ru1_4_1 : run1 4 1 = true := by kernel_rfl
theorem ru1_4_2 : run1 4 2 = true := by kernel_rfl
theorem ru1_4_3 : run1 4 3 = true := by kernel_rfl
theorem ru1q_4 : run1q 4 = true := by kernel_rfl
theorem ru1_5_0 : run1 5 0 = true := by kernel_rfl
theorem ru1_5_1 : run1 5 1 = true := by kernel_rfl
theorem ru1_5_2 : run1 5 2 = true := by kernel_rfl
theorem ru1_5_3 : run1 5 3 = true := by kernel_rfl
theorem ru1q_5 : run1q 5 = true := by kernel_rfl
theorem ru1_6_0 : run1 6 0 = true := by kernel_rfl
theorem ru1_6_1 : run1 6 1 = true := by kernel_rfl
theorem ru1_6_2 : run1 6 2 = true := by kernel_rfl
theorem ru1_6_3 : run1 6 3 = true := by kernel_rfl
theorem ru1q_6 : run1q 6 = true := by kernel_rfl
theorem ru1_7_0 : run1 7 0 = true := by kernel_rfl
theorem ru1_7_1 : run1 7 1 = true := by kernel_rfl
theorem ru1_7_2 : run1 7 2 = true := by kernel_rfl
theorem ru1_7_3 : run1 7 3 = true := by kernel_rfl
theorem ru1q_7 : run1q 7 = true := by kernel_rfl
theorem ru1_8_0 : run1 8 0 = true := by kernel_rfl
theorem ru1_8_1 : run1 8 1 = true := by kernel_rfl
theorem ru1_8_2 : run1 8 2 = true := by kernel_rfl
theorem ru1_8_3 : run1 8 3 = true := by kernel_rfl
theorem ru1q_8 : run1q 8 = true := by kernel_rfl
theorem ru1_9_0 : run1 9 0 = true := by kernel_rfl
theorem ru1_9_1 : run1 9 1 = true := by kernel_rfl
theorem ru1_9_2 : run1 9 2 = true := by kernel_rfl
theorem ru1_9_3 : run1 9 3 = true := by kernel_rfl
theorem ru1q_9 : run1q 9 = true := by kernel_rfl
theorem ru1_10_0 : run1 10 0 = true := by kernel_rfl
theorem ru1_10_1 : run1 10 1 = true := by kernel_rfl
theorem ru1_10_2 : run1 10 2 = true := by kernel_rfl
theorem ru1_10_3 : run1 10 3 = true := by kernel_rfl
theorem ru1q_10 : run1q 10 = true := by kernel_rfl
theorem ru1_11_0 : run1 11 0 = true := by kernel_rfl
theorem ru1_11_1 : run1 11 1 = true := by kernel_rfl
theorem ru1_11_2 : run1 11 2 = true := by kernel_rfl
theorem ru1_11_3 : run1 11 3 = true := by kernel_rfl
theorem ru1q_11 : run1q 11 = true := by kernel_rfl
theorem ru1_12_0 : run1 12 0 = true := by kernel_rfl
theorem ru1_12_1 : run1 12 1 = true := by kernel_rfl
theorem ru1_12_2 : run1 12 2 = true := by kernel_rfl
theorem ru1_12_3 : run1 12 3 = true := by kernel_rfl
theorem ru1q_12 : run1q 12 = true := by kernel_rfl
theorem ru1_13_0 : run1 13 0 = true := by kernel_rfl
theorem ru1_13_1 : run1 13 1 = true := by kernel_rfl
theorem ru1_13_2 : run1 13 2 = true := by kernel_rfl
theorem ru1_13_3 : run1 13 3 = true := by kernel_rfl
theorem ru1q_13 : run1q 13 = true := by kernel_rfl
theorem ru1_14_0 : run1 14 0 = true := by kernel_rfl
theorem ru1_14_1 : run1 14 1 = true := by kernel_rfl
theorem ru1_14_2 : run1 14 2 = true := by kernel_rfl
theorem ru1_14_3 : run1 14 3 = true := by kernel_rfl
theorem ru1q_14 : run1q 14 = true := by kernel_rfl
theorem ru1_15_0 : run1 15 0 = true := by kernel_rfl
theorem ru1_15_1 : run1 15 1 = true := by kernel_rfl
theorem ru1_15_2 : run1 15 2 = true := by kernel_rfl
theorem ru1_15_3 : run1 15 3 = true := by kernel_rfl
theorem ru1q_15 : run1q 15 = true := by kernel_rfl
theorem ruE_0 : ((stE.drop (0 * 1)).take 1).all pE = true := by kernel_rfl
theorem ruE_1 : ((stE.drop (1 * 1)).take 1).all pE = true := by kernel_rfl
theorem ruE_2 : ((stE.drop (2 * 1)).take 1).all pE = true := by kernel_rfl
theorem ruE_3 : ((stE.drop (3 * 1)).take 1).all pE = true := by kernel_rfl
theorem ruE_4 : ((stE.drop (4 * 1)).take 1).all pE = true := by kernel_rfl
theorem ruE_5 : ((stE.drop (5 * 1)).take 1).all pE = true := by kernel_rfl
theorem ruE_6 : ((stE.drop (6 * 1)).take 1).all pE = true := by kernel_rfl
theorem ruE_7 : ((stE.drop (7 * 1)).take 1).all pE = true := by kernel_rfl
theorem ruE_8 : ((stE.drop (8 * 1)).take 1).all pE = true := by kernel_rfl
theorem ruE_9 : ((stE.drop (9 * 1)).take 1).all pE = true := by kernel_rfl
theorem ruE_10 : ((stE.drop (10 * 1)).take 1).all pE = true := by kernel_rfl
theorem ruE_11 : ((stE.drop (11 * 1)).take 1).all pE = true := by kernel_rfl
theorem ruE_12 : ((stE.drop (12 * 1)).take 1).all pE = true := by kernel_rfl
theorem ruE_13 : ((stE.drop (13 * 1)).take 1).all pE = true := by kernel_rfl
theorem ruE_14 : ((stE.drop (14 * 1)).take 1).all pE = true := by kernel_rfl
theorem ruE_15 : ((stE.drop (15 * 1)).take 1).all pE = true := by kernel_rfl
end Go.Proofs.YtnofmmceafkkoaaGreat
