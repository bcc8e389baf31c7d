/-
  RollbackCells: runs, part 7 (printed by a program).
-/
import Derived.Test.YtnofmmceafkkoaaGreatEcA
set_option maxRecDepth 100000
set_option linter.unusedVariables false
set_option linter.unusedSimpArgs false
namespace Go.Proofs.YtnofmmceafkkoaaGreat
theorem ruF_102 : ((stF.drop (102 * 3)).take 3).all pF = true := by kernel_rfl
theorem ruF_103 : ((stF.drop (103 * 3)).take 3).all pF = true := by kernel_rfl
theorem ruF_104 : ((stF.drop (104 * 3)).take 3).all pF = true := by kernel_rfl
theorem ruF_105 : ((stF.drop (105 * 3)).take 3).all pF = true := by kernel_rfl
theorem ruF_106 : ((stF.drop (106 * 3)).take 3).all pF = true := by kernel_rfl
theorem ruF_107 : ((stF.drop (107 * 3)).take 3).all pF = true := by kernel_rfl
theorem ruF_108 : ((stF.drop (108 * 3)).take 3).all pF = true := by kernel_rfl
theorem ruF_109 : ((stF.drop (109 * 3)).take 3).all pF = true := by kernel_rfl
theorem ruF_110 : ((stF.drop (110 * 3)).take 3).all pF = true := by kernel_rfl
theorem ruF_111 : ((stF.drop (111 * 3)).take 3).all pF = true := by kernel_rfl
theorem ruF_112 : ((stF.drop (112 * 3)).take 3).all pF = true := by kernel_rfl
theorem ruF_113 : ((stF.drop (113 * 3)).take 3).all pF = true := by kernel_rfl
theorem ruF_114 : ((stF.drop (114 * 3)).take 3).all pF = true := by kernel_rfl
theorem ruF_115 : ((stF.drop (115 * 3)).take 3).all pF = true := by kernel_rfl
theorem ruF_116 : ((stF.drop (116 * 3)).take 3).all pF = true := by kernel_rfl
theorem ruF_117 : ((stF.drop (117 * 3)).take 3).all pF = true := by kernel_rfl
theorem ruF_118 : ((stF.drop (118 * 3)).take 3).all pF = true := by kernel_rfl
theorem ruF_119 : ((stF.drop (119 * 3)).take 3).all pF = true := by kernel_rfl
theorem ruF_120 : ((stF.drop (120 * 3)).take 3).all pF = true := by kernel_rfl
theorem ruF_121 : ((stF.drop (121 * 3)).take 3).all pF = true := by kernel_rfl
theorem ruF_122 : ((stF.drop (122 * 3)).take 3).all pF = true := by kernel_rfl
theorem ruF_123 : ((stF.drop (123 * 3)).take 3).all pF = true := by kernel_rfl
theorem ruF_124 : ((stF.drop (124 * 3)).take 3).all pF = true := by kernel_rfl
theorem ruF_125 : ((stF.drop (125 * 3)).take 3).all pF = true := by kernel_rfl
theorem ruF_126 : ((stF.drop (126 * 3)).take 3).all pF = true := by kernel_rfl
theorem ruF_127 : ((stF.drop (127 * 3)).take 3).all pF = true := by kernel_rfl
theorem ruF_128 : ((stF.drop (128 * 3)).take 3).all pF = true := by kernel_rfl
theorem ruF_129 : ((stF.drop (129 * 3)).take 3).all pF = true := by kernel_rfl
theorem ruF_130 : ((stF.drop (130 * 3)).take 3).all pF = true := by kernel_rfl
theorem ruF_131 : ((stF.drop (131 * 3)).take 3).all pF = true := by kernel_rfl
theorem ruN_stE : stE.all pN' = true := by kernel_rfl
theorem ruN_stF : stF.all pN' = true := by kernel_rfl
theorem ruI : stL.all pI = true := by kernel_rfl
theorem ruO : (List.range 16).all pO = true := by kernel_rfl
theorem ruZ_0 : (((stL.filter fun x => Nat.beq x.1 0).drop (0 * 3)).take 3).all pZ = true := by kernel_rfl
theorem ruZ_1 : (((stL.filter fun x => Nat.beq x.1 0).drop (1 * 3)).take 3).all pZ = true := by kernel_rfl
theorem ruZ_2 : (((stL.filter fun x => Nat.beq x.1 0).drop (2 * 3)).take 3).all pZ = true := by kernel_rfl
theorem ruZ_3 : (((stL.filter fun x => Nat.beq x.1 0).drop (3 * 3)).take 3).all pZ = true := by kernel_rfl
theorem ruZ_4 : (((stL.filter fun x => Nat.beq x.1 0).drop (4 * 3)).take 3).all pZ = true := by kernel_rfl
theorem ruZ_5 : (((stL.filter fun x => Nat.beq x.1 0).drop (5 * 3)).take 3).all pZ = true := by kernel_rfl
theorem ruZ_6 : (((stL.filter fun x => Nat.beq x.1 0).drop (6 * 3)).take 3).all pZ = true := by kernel_rfl
theorem ruZ_7 : (((stL.filter fun x => Nat.beq x.1 0).drop (7 * 3)).take 3).all pZ = true := by kernel_rfl
theorem ruZ_8 : (((stL.filter fun x => Nat.beq x.1 0).drop (8 * 3)).take 3).all pZ = true := by kernel_rfl
theorem ruZ_9 : (((stL.filter fun x => Nat.beq x.1 0).drop (9 * 3)).take 3).all pZ = true := by kernel_rfl
end Go.Proofs.YtnofmmceafkkoaaGreat
