/-
  RollbackCells: runs, part 5 (printed by a program).
-/
import Derived.Test.YtnofmmceafkkoaaGreatEcA
set_option maxRecDepth 100000
set_option linter.unusedVariables false
set_option linter.unusedSimpArgs false
namespace Go.Proofs.YtnofmmceafkkoaaGreat
theorem ruF_17 : ((stF.drop (17 * 3)).take 3).all pF = true := by kernel_rfl
theorem ruF_18 : ((stF.drop (18 * 3)).take 3).all pF = true := by kernel_rfl
theorem ruF_19 : ((stF.drop (19 * 3)).take 3).all pF = true := by kernel_rfl
theorem ruF_20 : ((stF.drop (20 * 3)).take 3).all pF = true := by kernel_rfl
theorem ruF_21 : ((stF.drop (21 * 3)).take 3).all pF = true := by kernel_rfl
theorem ruF_22 : ((stF.drop (22 * 3)).take 3).all pF = true := by kernel_rfl
theorem ruF_23 : ((stF.drop (23 * 3)).take 3).all pF = true := by kernel_rfl
theorem ruF_24 : ((stF.drop (24 * 3)).take 3).all pF = true := by kernel_rfl
theorem ruF_25 : ((stF.drop (25 * 3)).take 3).all pF = true := by kernel_rfl
theorem ruF_26 : ((stF.drop (26 * 3)).take 3).all pF = true := by kernel_rfl
theorem ruF_27 : ((stF.drop (27 * 3)).take 3).all pF = true := by kernel_rfl
theorem ruF_28 : ((stF.drop (28 * 3)).take 3).all pF = true := by kernel_rfl
theorem ruF_29 : ((stF.drop (29 * 3)).take 3).all pF = true := by kernel_rfl
theorem ruF_30 : ((stF.drop (30 * 3)).take 3).all pF = true := by kernel_rfl
theorem ruF_31 : ((stF.drop (31 * 3)).take 3).all pF = true := by kernel_rfl
theorem ruF_32 : ((stF.drop (32 * 3)).take 3).all pF = true := by kernel_rfl
theorem ruF_33 : ((stF.drop (33 * 3)).take 3).all pF = true := by kernel_rfl
theorem ruF_34 : ((stF.drop (34 * 3)).take 3).all pF = true := by kernel_rfl
theorem ruF_35 : ((stF.drop (35 * 3)).take 3).all pF = true := by kernel_rfl
theorem ruF_36 : ((stF.drop (36 * 3)).take 3).all pF = true := by kernel_rfl
theorem ruF_37 : ((stF.drop (37 * 3)).take 3).all pF = true := by kernel_rfl
theorem ruF_38 : ((stF.drop (38 * 3)).take 3).all pF = true := by kernel_rfl
theorem ruF_39 : ((stF.drop (39 * 3)).take 3).all pF = true := by kernel_rfl
theorem ruF_40 : ((stF.drop (40 * 3)).take 3).all pF = true := by kernel_rfl
theorem ruF_41 : ((stF.drop (41 * 3)).take 3).all pF = true := by kernel_rfl
theorem ruF_42 : ((stF.drop (42 * 3)).take 3).all pF = true := by kernel_rfl
theorem ruF_43 : ((stF.drop (43 * 3)).take 3).all pF = true := by kernel_rfl
theorem ruF_44 : ((stF.drop (44 * 3)).take 3).all pF = true := by kernel_rfl
theorem ruF_45 : ((stF.drop (45 * 3)).take 3).all pF = true := by kernel_rfl
theorem ruF_46 : ((stF.drop (46 * 3)).take 3).all pF = true := by kernel_rfl
theorem ruF_47 : ((stF.drop (47 * 3)).take 3).all pF = true := by kernel_rfl
theorem ruF_48 : ((stF.drop (48 * 3)).take 3).all pF = true := by kernel_rfl
theorem ruF_49 : ((stF.drop (49 * 3)).take 3).all pF = true := by kernel_rfl
theorem ruF_50 : ((stF.drop (50 * 3)).take 3).all pF = true := by kernel_rfl
theorem ruF_51 : ((stF.drop (51 * 3)).take 3).all pF = true := by kernel_rfl
theorem ruF_52 : ((stF.drop (52 * 3)).take 3).all pF = true := by kernel_rfl
theorem ruF_53 : ((stF.drop (53 * 3)).take 3).all pF = true := by kernel_rfl
theorem ruF_54 : ((stF.drop (54 * 3)).take 3).all pF = true := by kernel_rfl
theorem ruF_55 : ((stF.drop (55 * 3)).take 3).all pF = true := by kernel_rfl
theorem ruF_56 : ((stF.drop (56 * 3)).take 3).all pF = true := by kernel_rfl
theorem ruF_57 : ((stF.drop (57 * 3)).take 3).all pF = true := by kernel_rfl
theorem ruF_58 : ((stF.drop (58 * 3)).take 3).all pF = true := by kernel_rfl
theorem ruF_59 : ((stF.drop (59 * 3)).take 3).all pF = true := by kernel_rfl
end Go.Proofs.YtnofmmceafkkoaaGreat
