/-
  RollbackCells: runs, part 1 (printed by a program).
-/
import Derived.Test.YtnofmmceafkkoaaGreatEcA
set_option maxRecDepth 100000
set_option linter.unusedVariables false
set_option linter.unusedSimpArgs false
namespace Go.Proofs.YtnofmmceafkkoaaGreat
theorem ruE_16 : ((stE.drop (16 * 1)).take 1).all pE = true := by kernel_rfl
theorem ruE_17 : ((stE.drop (17 * 1)).take 1).all pE = true := by kernel_rfl
theorem ruE_18 : ((stE.drop (18 * 1)).take 1).all pE = true := by kernel_rfl
theorem ruE_19 : ((stE.drop (19 * 1)).take 1).all pE = true := by kernel_rfl
theorem ruE_20 : ((stE.drop (20 * 1)).take 1).all pE = true := by kernel_rfl
theorem ruE_21 : ((stE.drop (21 * 1)).take 1).all pE = true := by kernel_rfl
theorem ruE_22 : ((stE.drop (22 * 1)).take 1).all pE = true := by kernel_rfl
theorem ruE_23 : ((stE.drop (23 * 1)).take 1).all pE = true := by kernel_rfl
theorem ruE_24 : ((stE.drop (24 * 1)).take 1).all pE = true := by kernel_rfl
theorem ruE_25 : ((stE.drop (25 * 1)).take 1).all pE = true := by kernel_rfl
theorem ruE_26 : ((stE.drop (26 * 1)).take 1).all pE = true := by kernel_rfl
theorem ruE_27 : ((stE.drop (27 * 1)).take 1).all pE = true := by kernel_rfl
theorem ruE_28 : ((stE.drop (28 * 1)).take 1).all pE = true := by kernel_rfl
theorem ruE_29 : ((stE.drop (29 * 1)).take 1).all pE = true := by kernel_rfl
theorem ruE_30 : ((stE.drop (30 * 1)).take 1).all pE = true := by kernel_rfl
theorem ruE_31 : ((stE.drop (31 * 1)).take 1).all pE = true := by kernel_rfl
theorem ruE_32 : ((stE.drop (32 * 1)).take 1).all pE = true := by kernel_rfl
theorem ruE_33 : ((stE.drop (33 * 1)).take 1).all pE = true := by kernel_rfl
theorem ruE_34 : ((stE.drop (34 * 1)).take 1).all pE = true := by kernel_rfl
theorem ruE_35 : ((stE.drop (35 * 1)).take 1).all pE = true := by kernel_rfl
theorem ruE_36 : ((stE.drop (36 * 1)).take 1).all pE = true := by kernel_rfl
theorem ruE_37 : ((stE.drop (37 * 1)).take 1).all pE = true := by kernel_rfl
theorem ruE_38 : ((stE.drop (38 * 1)).take 1).all pE = true := by kernel_rfl
theorem ruE_39 : ((stE.drop (39 * 1)).take 1).all pE = true := by kernel_rfl
theorem ruE_40 : ((stE.drop (40 * 1)).take 1).all pE = true := by kernel_rfl
theorem ruE_41 : ((stE.drop (41 * 1)).take 1).all pE = true := by kernel_rfl
theorem ruE_42 : ((stE.drop (42 * 1)).take 1).all pE = true := by kernel_rfl
theorem ruE_43 : ((stE.drop (43 * 1)).take 1).all pE = true := by kernel_rfl
theorem ruE_44 : ((stE.drop (44 * 1)).take 1).all pE = true := by kernel_rfl
theorem ruE_45 : ((stE.drop (45 * 1)).take 1).all pE = true := by kernel_rfl
theorem ruE_46 : ((stE.drop (46 * 1)).take 1).all pE = true := by kernel_rfl
theorem ruE_47 : ((stE.drop (47 * 1)).take 1).all pE = true := by kernel_rfl
theorem ruE_48 : ((stE.drop (48 * 1)).take 1).all pE = true := by kernel_rfl
theorem ruE_49 : ((stE.drop (49 * 1)).take 1).all pE = true := by kernel_rfl
theorem ruE_50 : ((stE.drop (50 * 1)).take 1).all pE = true := by kernel_rfl
theorem ruE_51 : ((stE.drop (51 * 1)).take 1).all pE = true := by kernel_rfl
theorem ruE_52 : ((stE.drop (52 * 1)).take 1).all pE = true := by kernel_rfl
theorem ruE_53 : ((stE.drop (53 * 1)).take 1).all pE = true := by kernel_rfl
theorem ruE_54 : ((stE.drop (54 * 1)).take 1).all pE = true := by kernel_rfl
theorem ruE_55 : ((stE.drop (55 * 1)).take 1).all pE = true := by kernel_rfl
theorem ruE_56 : ((stE.drop (56 * 1)).take 1).all pE = true := by kernel_rfl
theorem ruE_57 : ((stE.drop (57 * 1)).take 1).all pE = true := by kernel_rfl
theorem ruE_58 : ((stE.drop (58 * 1)).take 1).all pE = true := by kernel_rfl
theorem ruE_59 : ((stE.drop (59 * 1)).take 1).all pE = true := by kernel_rfl
theorem ruE_60 : ((stE.drop (60 * 1)).take 1).all pE = true := by kernel_rfl
theorem ruE_61 : ((stE.drop (61 * 1)).take 1).all pE = true := by kernel_rfl
theorem ruE_62 : ((stE.drop (62 * 1)).take 1).all pE = true := by kernel_rfl
end Go.Proofs.YtnofmmceafkkoaaGreat
