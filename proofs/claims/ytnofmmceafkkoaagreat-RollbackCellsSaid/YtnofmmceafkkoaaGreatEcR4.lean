/-
  RollbackCells: runs, part 4 (printed by a program).
-/
import Derived.Test.YtnofmmceafkkoaaGreatEcA
set_option maxRecDepth 100000
set_option linter.unusedVariables false
set_option linter.unusedSimpArgs false
namespace Go.Proofs.YtnofmmceafkkoaaGreat
theorem ruE_156 : ((stE.drop (156 * 1)).take 1).all pE = true := by kernel_rfl
theorem ruE_157 : ((stE.drop (157 * 1)).take 1).all pE = true := by kernel_rfl
theorem ruE_158 : ((stE.drop (158 * 1)).take 1).all pE = true := by kernel_rfl
theorem ruE_159 : ((stE.drop (159 * 1)).take 1).all pE = true := by kernel_rfl
theorem ruE_160 : ((stE.drop (160 * 1)).take 1).all pE = true := by kernel_rfl
theorem ruE_161 : ((stE.drop (161 * 1)).take 1).all pE = true := by kernel_rfl
theorem ruE_162 : ((stE.drop (162 * 1)).take 1).all pE = true := by kernel_rfl
theorem ruE_163 : ((stE.drop (163 * 1)).take 1).all pE = true := by kernel_rfl
theorem ruE_164 : ((stE.drop (164 * 1)).take 1).all pE = true := by kernel_rfl
theorem ruE_165 : ((stE.drop (165 * 1)).take 1).all pE = true := by kernel_rfl
theorem ruE_166 : ((stE.drop (166 * 1)).take 1).all pE = true := by kernel_rfl
theorem ruE_167 : ((stE.drop (167 * 1)).take 1).all pE = true := by kernel_rfl
theorem ruE_168 : ((stE.drop (168 * 1)).take 1).all pE = true := by kernel_rfl
theorem ruE_169 : ((stE.drop (169 * 1)).take 1).all pE = true := by kernel_rfl
theorem ruE_170 : ((stE.drop (170 * 1)).take 1).all pE = true := by kernel_rfl
theorem ruE_171 : ((stE.drop (171 * 1)).take 1).all pE = true := by kernel_rfl
theorem ruE_172 : ((stE.drop (172 * 1)).take 1).all pE = true := by kernel_rfl
theorem ruE_173 : ((stE.drop (173 * 1)).take 1).all pE = true := by kernel_rfl
theorem ruE_174 : ((stE.drop (174 * 1)).take 1).all pE = true := by kernel_rfl
theorem ruE_175 : ((stE.drop (175 * 1)).take 1).all pE = true := by kernel_rfl
theorem ruE_176 : ((stE.drop (176 * 1)).take 1).all pE = true := by kernel_rfl
theorem ruE_177 : ((stE.drop (177 * 1)).take 1).all pE = true := by kernel_rfl
theorem ruE_178 : ((stE.drop (178 * 1)).take 1).all pE = true := by kernel_rfl
theorem ruE_179 : ((stE.drop (179 * 1)).take 1).all pE = true := by kernel_rfl
theorem ruE_180 : ((stE.drop (180 * 1)).take 1).all pE = true := by kernel_rfl
theorem ruE_181 : ((stE.drop (181 * 1)).take 1).all pE = true := by kernel_rfl
theorem ruE_182 : ((stE.drop (182 * 1)).take 1).all pE = true := by kernel_rfl
theorem ruE_183 : ((stE.drop (183 * 1)).take 1).all pE = true := by kernel_rfl
theorem ruF_0 : ((stF.drop (0 * 3)).take 3).all pF = true := by kernel_rfl
theorem ruF_1 : ((stF.drop (1 * 3)).take 3).all pF = true := by kernel_rfl
theorem ruF_2 : ((stF.drop (2 * 3)).take 3).all pF = true := by kernel_rfl
theorem ruF_3 : ((stF.drop (3 * 3)).take 3).all pF = true := by kernel_rfl
theorem ruF_4 : ((stF.drop (4 * 3)).take 3).all pF = true := by kernel_rfl
theorem ruF_5 : ((stF.drop (5 * 3)).take 3).all pF = true := by kernel_rfl
theorem ruF_6 : ((stF.drop (6 * 3)).take 3).all pF = true := by kernel_rfl
theorem ruF_7 : ((stF.drop (7 * 3)).take 3).all pF = true := by kernel_rfl
theorem ruF_8 : ((stF.drop (8 * 3)).take 3).all pF = true := by kernel_rfl
theorem ruF_9 : ((stF.drop (9 * 3)).take 3).all pF = true := by kernel_rfl
theorem ruF_10 : ((stF.drop (10 * 3)).take 3).all pF = true := by kernel_rfl
theorem ruF_11 : ((stF.drop (11 * 3)).take 3).all pF = true := by kernel_rfl
theorem ruF_12 : ((stF.drop (12 * 3)).take 3).all pF = true := by kernel_rfl
theorem ruF_13 : ((stF.drop (13 * 3)).take 3).all pF = true := by kernel_rfl
theorem ruF_14 : ((stF.drop (14 * 3)).take 3).all pF = true := by kernel_rfl
theorem ruF_15 : ((stF.drop (15 * 3)).take 3).all pF = true := by kernel_rfl
theorem ruF_16 : ((stF.drop (16 * 3)).take 3).all pF = true := by kernel_rfl
end Go.Proofs.YtnofmmceafkkoaaGreat
