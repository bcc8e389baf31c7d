/-
  Rounds (printed by a program), part 1.
-/
import Derived.Test.YtjnfgapfhpihmaaGreatSeF
set_option linter.unusedVariables false
set_option linter.unusedSimpArgs false
set_option maxRecDepth 100000
namespace Go.Proofs.YtjnfgapfhpihmaaGreat
theorem r2001 : runP 2 0 0 1 = true := by kernel_rfl
theorem r3111 : runP 3 1 1 1 = true := by kernel_rfl
theorem r3201 : runP 3 2 0 1 = true := by kernel_rfl
theorem r4000 : runP 4 0 0 0 = true := by kernel_rfl
theorem r4123 : runP 4 1 2 3 = true := by kernel_rfl
theorem r4220 : runP 4 2 2 0 = true := by kernel_rfl
theorem r5104 : runP 5 1 0 4 = true := by kernel_rfl
theorem r5134 : runP 5 1 3 4 = true := by kernel_rfl
theorem r5213 : runP 5 2 1 3 = true := by kernel_rfl
theorem r5222 : runP 5 2 2 2 = true := by kernel_rfl
theorem r5242 : runP 5 2 4 2 = true := by kernel_rfl
theorem r6102 : runP 6 1 0 2 = true := by kernel_rfl
theorem r6111 : runP 6 1 1 1 = true := by kernel_rfl
theorem r6124 : runP 6 1 2 4 = true := by kernel_rfl
theorem r6150 : runP 6 1 5 0 = true := by kernel_rfl
theorem r6220 : runP 6 2 2 0 = true := by kernel_rfl
theorem r6242 : runP 6 2 4 2 = true := by kernel_rfl
theorem r7101 : runP 7 1 0 1 = true := by kernel_rfl
theorem r7120 : runP 7 1 2 0 = true := by kernel_rfl
theorem r7140 : runP 7 1 4 0 = true := by kernel_rfl
theorem r7205 : runP 7 2 0 5 = true := by kernel_rfl
theorem r7225 : runP 7 2 2 5 = true := by kernel_rfl
theorem r7245 : runP 7 2 4 5 = true := by kernel_rfl
theorem r7264 : runP 7 2 6 4 = true := by kernel_rfl
end Go.Proofs.YtjnfgapfhpihmaaGreat
