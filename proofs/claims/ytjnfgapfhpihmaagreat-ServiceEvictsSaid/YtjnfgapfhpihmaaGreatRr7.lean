/-
  Rounds (printed by a program), part 7.
-/
import Derived.Test.YtjnfgapfhpihmaaGreatSeF
set_option linter.unusedVariables false
set_option linter.unusedSimpArgs false
set_option maxRecDepth 100000
namespace Go.Proofs.YtjnfgapfhpihmaaGreat
theorem r3101 : runP 3 1 0 1 = true := by kernel_rfl
theorem r4103 : runP 4 1 0 3 = true := by kernel_rfl
theorem r4201 : runP 4 2 0 1 = true := by kernel_rfl
theorem r4211 : runP 4 2 1 1 = true := by kernel_rfl
theorem r5002 : runP 5 0 0 2 = true := by kernel_rfl
theorem r5111 : runP 5 1 1 1 = true := by kernel_rfl
theorem r5121 : runP 5 1 2 1 = true := by kernel_rfl
theorem r5201 : runP 5 2 0 1 = true := by kernel_rfl
theorem r5230 : runP 5 2 3 0 = true := by kernel_rfl
theorem r6001 : runP 6 0 0 1 = true := by kernel_rfl
theorem r6113 : runP 6 1 1 3 = true := by kernel_rfl
theorem r6135 : runP 6 1 3 5 = true := by kernel_rfl
theorem r6205 : runP 6 2 0 5 = true := by kernel_rfl
theorem r6231 : runP 6 2 3 1 = true := by kernel_rfl
theorem r6244 : runP 6 2 4 4 = true := by kernel_rfl
theorem r6253 : runP 6 2 5 3 = true := by kernel_rfl
theorem r7001 : runP 7 0 0 1 = true := by kernel_rfl
theorem r7110 : runP 7 1 1 0 = true := by kernel_rfl
theorem r7122 : runP 7 1 2 2 = true := by kernel_rfl
theorem r7130 : runP 7 1 3 0 = true := by kernel_rfl
theorem r7150 : runP 7 1 5 0 = true := by kernel_rfl
theorem r7162 : runP 7 1 6 2 = true := by kernel_rfl
theorem r7215 : runP 7 2 1 5 = true := by kernel_rfl
theorem r7235 : runP 7 2 3 5 = true := by kernel_rfl
theorem r7254 : runP 7 2 5 4 = true := by kernel_rfl
theorem r7255 : runP 7 2 5 5 = true := by kernel_rfl
end Go.Proofs.YtjnfgapfhpihmaaGreat
