/-
  RollbackCells: runs, part 3 (printed by a program).
-/
import Derived.Test.YtnofmmceafkkoaaGreatEcA
set_option maxRecDepth 100000
set_option linter.unusedVariables false
set_option linter.unusedSimpArgs false
namespace Go.Proofs.YtnofmmceafkkoaaGreat
theorem ruE_110 : ((stE.drop (110 * 1)).take 1).all pE = true := by kernel_rfl
theorem ruE_111 : ((stE.drop (111 * 1)).take 1).all pE = true := by kernel_rfl
theorem ruE_112 : ((stE.drop (112 * 1)).take 1).all pE = true := by kernel_rfl
theorem ruE_113 : ((stE.drop (113 * 1)).take 1).all pE = true := by kernel_rfl
theorem ruE_114 : ((stE.drop (114 * 1)).take 1).all pE = true := by kernel_rfl
theorem ruE_115 : ((stE.drop (115 * 1)).take 1).all pE = true := by kernel_rfl
theorem ruE_116 : ((stE.drop (116 * 1)).take 1).all pE = true := by kernel_rfl
theorem ruE_117 : ((stE.drop (117 * 1)).take 1).all pE = true := by kernel_rfl
theorem ruE_118 : ((stE.drop (118 * 1)).take 1).all pE = true := by kernel_rfl
theorem ruE_119 : ((stE.drop (119 * 1)).take 1).all pE = true := by kernel_rfl
theorem ruE_120 : ((stE.drop (120 * 1)).take 1).all pE = true := by kernel_rfl
theorem ruE_121 : ((stE.drop (121 * 1)).take 1).all pE = true := by kernel_rfl
theorem ruE_122 : ((stE.drop (122 * 1)).take 1).all pE = true := by kernel_rfl
theorem ruE_123 : ((stE.drop (123 * 1)).take 1).all pE = true := by kernel_rfl
theorem ruE_124 : ((stE.drop (124 * 1)).take 1).all pE = true := by kernel_rfl
theorem ruE_125 : ((stE.drop (125 * 1)).take 1).all pE = true := by kernel_rfl
theorem ruE_126 : ((stE.drop (126 * 1)).take 1).all pE = true := by kernel_rfl
theorem ruE_127 : ((stE.drop (127 * 1)).take 1).all pE = true := by kernel_rfl
theorem ruE_128 : ((stE.drop (128 * 1)).take 1).all pE = true := by kernel_rfl
theorem ruE_129 : ((stE.drop (129 * 1)).take 1).all pE = true := by kernel_rfl
theorem ruE_130 : ((stE.drop (130 * 1)).take 1).all pE = true := by kernel_rfl
theorem ruE_131 : ((stE.drop (131 * 1)).take 1).all pE = true := by kernel_rfl
theorem ruE_132 : ((stE.drop (132 * 1)).take 1).all pE = true := by kernel_rfl
theorem ruE_133 : ((stE.drop (133 * 1)).take 1).all pE = true := by kernel_rfl
theorem ruE_134 : ((stE.drop (134 * 1)).take 1).all pE = true := by kernel_rfl
theorem ruE_135 : ((stE.drop (135 * 1)).take 1).all pE = true := by kernel_rfl
theorem ruE_136 : ((stE.drop (136 * 1)).take 1).all pE = true := by kernel_rfl
theorem ruE_137 : ((stE.drop (137 * 1)).take 1).all pE = true := by kernel_rfl
theorem ruE_138 : ((stE.drop (138 * 1)).take 1).all pE = true := by kernel_rfl
theorem ruE_139 : ((stE.drop (139 * 1)).take 1).all pE = true := by kernel_rfl
theorem ruE_140 : ((stE.drop (140 * 1)).take 1).all pE = true := by kernel_rfl
theorem ruE_141 : ((stE.drop (141 * 1)).take 1).all pE = true := by kernel_rfl
theorem ruE_142 : ((stE.drop (142 * 1)).take 1).all pE = true := by kernel_rfl
theorem ruE_143 : ((stE.drop (143 * 1)).take 1).all pE = true := by kernel_rfl
theorem ruE_144 : ((stE.drop (144 * 1)).take 1).all pE = true := by kernel_rfl
theorem ruE_145 : ((stE.drop (145 * 1)).take 1).all pE = true := by kernel_rfl
theorem ruE_146 : ((stE.drop (146 * 1)).take 1).all pE = true := by kernel_rfl
theorem ruE_147 : ((stE.drop (147 * 1)).take 1).all pE = true := by kernel_rfl
theorem ruE_148 : ((stE.drop (148 * 1)).take 1).all pE = true := by kernel_rfl
theorem ruE_149 : ((stE.drop (149 * 1)).take 1).all pE = true := by kernel_rfl
theorem ruE_150 : ((stE.drop (150 * 1)).take 1).all pE = true := by kernel_rfl
theorem ruE_151 : ((stE.drop (151 * 1)).take 1).all pE = true := by kernel_rfl
theorem ruE_152 : ((stE.drop (152 * 1)).take 1).all pE = true := by kernel_rfl
theorem ruE_153 : ((stE.drop (153 * 1)).take 1).all pE = true := by kernel_rfl
theorem ruE_154 : ((stE.drop (154 * 1)).take 1).all pE = true := by kernel_rfl
theorem ruE_155 : ((stE.drop (155 * 1)).take 1).all pE = true := by kernel_rfl
end Go.Proofs.YtnofmmceafkkoaaGreat
