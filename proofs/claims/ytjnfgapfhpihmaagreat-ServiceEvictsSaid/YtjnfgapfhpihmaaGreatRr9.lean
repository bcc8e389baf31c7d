/-
  Rounds (printed by a program), part 9.
-/
import Derived.Test.YtjnfgapfhpihmaaGreatSeF
set_option linter.unusedVariables false
set_option linter.unusedSimpArgs false
set_option maxRecDepth 100000
namespace Go.Proofs.YtjnfgapfhpihmaaGreat
theorem r3001 : runP 3 0 0 1 = true := by kernel_rfl
theorem r3220 : runP 3 2 2 0 = true := by kernel_rfl
theorem r3222 : runP 3 2 2 2 = true := by kernel_rfl
theorem r4101 : runP 4 1 0 1 = true := by kernel_rfl
theorem r4133 : runP 4 1 3 3 = true := by kernel_rfl
theorem r4231 : runP 4 2 3 1 = true := by kernel_rfl
theorem r5000 : runP 5 0 0 0 = true := by kernel_rfl
theorem r5114 : runP 5 1 1 4 = true := by kernel_rfl
theorem r5143 : runP 5 1 4 3 = true := by kernel_rfl
theorem r5223 : runP 5 2 2 3 = true := by kernel_rfl
theorem r6110 : runP 6 1 1 0 = true := by kernel_rfl
theorem r6132 : runP 6 1 3 2 = true := by kernel_rfl
theorem r6154 : runP 6 1 5 4 = true := by kernel_rfl
theorem r6203 : runP 6 2 0 3 = true := by kernel_rfl
theorem r6222 : runP 6 2 2 2 = true := by kernel_rfl
theorem r6225 : runP 6 2 2 5 = true := by kernel_rfl
theorem r6251 : runP 6 2 5 1 = true := by kernel_rfl
theorem r7100 : runP 7 1 0 0 = true := by kernel_rfl
theorem r7105 : runP 7 1 0 5 = true := by kernel_rfl
theorem r7125 : runP 7 1 2 5 = true := by kernel_rfl
theorem r7145 : runP 7 1 4 5 = true := by kernel_rfl
theorem r7160 : runP 7 1 6 0 = true := by kernel_rfl
theorem r7213 : runP 7 2 1 3 = true := by kernel_rfl
theorem r7232 : runP 7 2 3 2 = true := by kernel_rfl
theorem r7233 : runP 7 2 3 3 = true := by kernel_rfl
theorem r7252 : runP 7 2 5 2 = true := by kernel_rfl
end Go.Proofs.YtjnfgapfhpihmaaGreat
