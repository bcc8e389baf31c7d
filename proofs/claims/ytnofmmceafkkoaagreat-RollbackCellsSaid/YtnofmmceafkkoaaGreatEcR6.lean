/-
  RollbackCells: runs, part 6 (printed by a program).
-/
import Derived.Test.YtnofmmceafkkoaaGreatEcA
set_option maxRecDepth 100000
set_option linter.unusedVariables false
set_option linter.unusedSimpArgs false
namespace Go.Proofs.YtnofmmceafkkoaaGreat
theorem ruF_60 : ((stF.drop (60 * 3)).take 3).all pF = true := by kernel_rfl
theorem ruF_61 : ((stF.drop (61 * 3)).take 3).all pF = true := by kernel_rfl
theorem ruF_62 : ((stF.drop (62 * 3)).take 3).all pF = true := by kernel_rfl
theorem ruF_63 : ((stF.drop (63 * 3)).take 3).all pF = true := by kernel_rfl
theorem ruF_64 : ((stF.drop (64 * 3)).take 3).all pF = true := by kernel_rfl
theorem ruF_65 : ((stF.drop (65 * 3)).take 3).all pF = true := by kernel_rfl
theorem ruF_66 : ((stF.drop (66 * 3)).take 3).all pF = true := by kernel_rfl
theorem ruF_67 : ((stF.drop (67 * 3)).take 3).all pF = true := by kernel_rfl
theorem ruF_68 : ((stF.drop (68 * 3)).take 3).all pF = true := by kernel_rfl
theorem ruF_69 : ((stF.drop (69 * 3)).take 3).all pF = true := by kernel_rfl
theorem ruF_70 : ((stF.drop (70 * 3)).take 3).all pF = true := by kernel_rfl
theorem ruF_71 : ((stF.drop (71 * 3)).take 3).all pF = true := by kernel_rfl
theorem ruF_72 : ((stF.drop (72 * 3)).take 3).all pF = true := by kernel_rfl
theorem ruF_73 : ((stF.drop (73 * 3)).take 3).all pF = true := by kernel_rfl
theorem ruF_74 : ((stF.drop (74 * 3)).take 3).all pF = true := by kernel_rfl
theorem ruF_75 : ((stF.drop (75 * 3)).take 3).all pF = true := by kernel_rfl
theorem ruF_76 : ((stF.drop (76 * 3)).take 3).all pF = true := by kernel_rfl
theorem ruF_77 : ((stF.drop (77 * 3)).take 3).all pF = true := by kernel_rfl
theorem ruF_78 : ((stF.drop (78 * 3)).take 3).all pF = true := by kernel_rfl
theorem ruF_79 : ((stF.drop (79 * 3)).take 3).all pF = true := by kernel_rfl
theorem ruF_80 : ((stF.drop (80 * 3)).take 3).all pF = true := by kernel_rfl
theorem ruF_81 : ((stF.drop (81 * 3)).take 3).all pF = true := by kernel_rfl
theorem ruF_82 : ((stF.drop (82 * 3)).take 3).all pF = true := by kernel_rfl
theorem ruF_83 : ((stF.drop (83 * 3)).take 3).all pF = true := by kernel_rfl
theorem ruF_84 : ((stF.drop (84 * 3)).take 3).all pF = true := by kernel_rfl
theorem ruF_85 : ((stF.drop (85 * 3)).take 3).all pF = true := by kernel_rfl
theorem ruF_86 : ((stF.drop (86 * 3)).take 3).all pF = true := by kernel_rfl
theorem ruF_87 : ((stF.drop (87 * 3)).take 3).all pF = true := by kernel_rfl
theorem ruF_88 : ((stF.drop (88 * 3)).take 3).all pF = true := by kernel_rfl
theorem ruF_89 : ((stF.drop (89 * 3)).take 3).all pF = true := by kernel_rfl
theorem ruF_90 : ((stF.drop (90 * 3)).take 3).all pF = true := by kernel_rfl
theorem ruF_91 : ((stF.drop (91 * 3)).take 3).all pF = true := by kernel_rfl
theorem ruF_92 : ((stF.drop (92 * 3)).take 3).all pF = true := by kernel_rfl
theorem ruF_93 : ((stF.drop (93 * 3)).take 3).all pF = true := by kernel_rfl
theorem ruF_94 : ((stF.drop (94 * 3)).take 3).all pF = true := by kernel_rfl
theorem ruF_95 : ((stF.drop (95 * 3)).take 3).all pF = true := by kernel_rfl
theorem ruF_96 : ((stF.drop (96 * 3)).take 3).all pF = true := by kernel_rfl
theorem ruF_97 : ((stF.drop (97 * 3)).take 3).all pF = true := by kernel_rfl
theorem ruF_98 : ((stF.drop (98 * 3)).take 3).all pF = true := by kernel_rfl
theorem ruF_99 : ((stF.drop (99 * 3)).take 3).all pF = true := by kernel_rfl
theorem ruF_100 : ((stF.drop (100 * 3)).take 3).all pF = true := by kernel_rfl
theorem ruF_101 : ((stF.drop (101 * 3)).take 3).all pF = true := by kernel_rfl
end Go.Proofs.YtnofmmceafkkoaaGreat
