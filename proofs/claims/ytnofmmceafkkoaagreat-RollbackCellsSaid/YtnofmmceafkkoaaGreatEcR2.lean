/-
  RollbackCells: runs, part 2 (printed by a program).
-/
import Derived.Test.YtnofmmceafkkoaaGreatEcA
set_option maxRecDepth 100000
set_option linter.unusedVariables false
set_option linter.unusedSimpArgs false
namespace Go.Proofs.YtnofmmceafkkoaaGreat
theorem ruE_63 : ((stE.drop (63 * 1)).take 1).all pE = true := by kernel_rfl
theorem ruE_64 : ((stE.drop (64 * 1)).take 1).all pE = true := by kernel_rfl
theorem ruE_65 : ((stE.drop (65 * 1)).take 1).all pE = true := by kernel_rfl
theorem ruE_66 : ((stE.drop (66 * 1)).take 1).all pE = true := by kernel_rfl
theorem ruE_67 : ((stE.drop (67 * 1)).take 1).all pE = true := by kernel_rfl
theorem ruE_68 : ((stE.drop (68 * 1)).take 1).all pE = true := by kernel_rfl
theorem ruE_69 : ((stE.drop (69 * 1)).take 1).all pE = true := by kernel_rfl
theorem ruE_70 : ((stE.drop (70 * 1)).take 1).all pE = true := by kernel_rfl
theorem ruE_71 : ((stE.drop (71 * 1)).take 1).all pE = true := by kernel_rfl
theorem ruE_72 : ((stE.drop (72 * 1)).take 1).all pE = true := by kernel_rfl
theorem ruE_73 : ((stE.drop (73 * 1)).take 1).all pE = true := by kernel_rfl
theorem ruE_74 : ((stE.drop (74 * 1)).take 1).all pE = true := by kernel_rfl
theorem ruE_75 : ((stE.drop (75 * 1)).take 1).all pE = true := by kernel_rfl
theorem ruE_76 : ((stE.drop (76 * 1)).take 1).all pE = true := by kernel_rfl
theorem ruE_77 : ((stE.drop (77 * 1)).take 1).all pE = true := by kernel_rfl
theorem ruE_78 : ((stE.drop (78 * 1)).take 1).all pE = true := by kernel_rfl
theorem ruE_79 : ((stE.drop (79 * 1)).take 1).all pE = true := by kernel_rfl
theorem ruE_80 : ((stE.drop (80 * 1)).take 1).all pE = true := by kernel_rfl
theorem ruE_81 : ((stE.drop (81 * 1)).take 1).all pE = true := by kernel_rfl
theorem ruE_82 : ((stE.drop (82 * 1)).take 1).all pE = true := by kernel_rfl
theorem ruE_83 : ((stE.drop (83 * 1)).take 1).all pE = true := by kernel_rfl
theorem ruE_84 : ((stE.drop (84 * 1)).take 1).all pE = true := by kernel_rfl
theorem ruE_85 : ((stE.drop (85 * 1)).take 1).all pE = true := by kernel_rfl
theorem ruE_86 : ((stE.drop (86 * 1)).take 1).all pE = true := by kernel_rfl
theorem ruE_87 : ((stE.drop (87 * 1)).take 1).all pE = true := by kernel_rfl
theorem ruE_88 : ((stE.drop (88 * 1)).take 1).all pE = true := by kernel_rfl
theorem ruE_89 : ((stE.drop (89 * 1)).take 1).all pE = true := by kernel_rfl
theorem ruE_90 : ((stE.drop (90 * 1)).take 1).all pE = true := by kernel_rfl
theorem ruE_91 : ((stE.drop (91 * 1)).take 1).all pE = true := by kernel_rfl
theorem ruE_92 : ((stE.drop (92 * 1)).take 1).all pE = true := by kernel_rfl
theorem ruE_93 : ((stE.drop (93 * 1)).take 1).all pE = true := by kernel_rfl
theorem ruE_94 : ((stE.drop (94 * 1)).take 1).all pE = true := by kernel_rfl
theorem ruE_95 : ((stE.drop (95 * 1)).take 1).all pE = true := by kernel_rfl
theorem ruE_96 : ((stE.drop (96 * 1)).take 1).all pE = true := by kernel_rfl
theorem ruE_97 : ((stE.drop (97 * 1)).take 1).all pE = true := by kernel_rfl
theorem ruE_98 : ((stE.drop (98 * 1)).take 1).all pE = true := by kernel_rfl
theorem ruE_99 : ((stE.drop (99 * 1)).take 1).all pE = true := by kernel_rfl
theorem ruE_100 : ((stE.drop (100 * 1)).take 1).all pE = true := by kernel_rfl
theorem ruE_101 : ((stE.drop (101 * 1)).take 1).all pE = true := by kernel_rfl
theorem ruE_102 : ((stE.drop (102 * 1)).take 1).all pE = true := by kernel_rfl
theorem ruE_103 : ((stE.drop (103 * 1)).take 1).all pE = true := by kernel_rfl
theorem ruE_104 : ((stE.drop (104 * 1)).take 1).all pE = true := by kernel_rfl
theorem ruE_105 : ((stE.drop (105 * 1)).take 1).all pE = true := by kernel_rfl
theorem ruE_106 : ((stE.drop (106 * 1)).take 1).all pE = true := by kernel_rfl
theorem ruE_107 : ((stE.drop (107 * 1)).take 1).all pE = true := by kernel_rfl
theorem ruE_108 : ((stE.drop (108 * 1)).take 1).all pE = true := by kernel_rfl
theorem ruE_109 : ((stE.drop (109 * 1)).take 1).all pE = true := by kernel_rfl
end Go.Proofs.YtnofmmceafkkoaaGreat
