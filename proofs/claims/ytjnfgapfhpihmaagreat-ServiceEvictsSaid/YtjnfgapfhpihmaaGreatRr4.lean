/-
  Rounds (printed by a program), part 4.
-/
import Derived.Test.YtjnfgapfhpihmaaGreatSeF
set_option linter.unusedVariables false
set_option linter.unusedSimpArgs false
set_option maxRecDepth 100000
namespace Go.Proofs.YtjnfgapfhpihmaaGreat
theorem r2111 : runP 2 1 1 1 = true := by kernel_rfl
theorem r3112 : runP 3 1 1 2 = true := by kernel_rfl
theorem r4113 : runP 4 1 1 3 = true := by kernel_rfl
theorem r4210 : runP 4 2 1 0 = true := by kernel_rfl
theorem r5101 : runP 5 1 0 1 = true := by kernel_rfl
theorem r5130 : runP 5 1 3 0 = true := by kernel_rfl
theorem r5144 : runP 5 1 4 4 = true := by kernel_rfl
theorem r5200 : runP 5 2 0 0 = true := by kernel_rfl
theorem r5204 : runP 5 2 0 4 = true := by kernel_rfl
theorem r5234 : runP 5 2 3 4 = true := by kernel_rfl
theorem r6004 : runP 6 0 0 4 = true := by kernel_rfl
theorem r6120 : runP 6 1 2 0 = true := by kernel_rfl
theorem r6142 : runP 6 1 4 2 = true := by kernel_rfl
theorem r6213 : runP 6 2 1 3 = true := by kernel_rfl
theorem r6235 : runP 6 2 3 5 = true := by kernel_rfl
theorem r7004 : runP 7 0 0 4 = true := by kernel_rfl
theorem r7114 : runP 7 1 1 4 = true := by kernel_rfl
theorem r7134 : runP 7 1 3 4 = true := by kernel_rfl
theorem r7153 : runP 7 1 5 3 = true := by kernel_rfl
theorem r7155 : runP 7 1 5 5 = true := by kernel_rfl
theorem r7165 : runP 7 1 6 5 = true := by kernel_rfl
theorem r7202 : runP 7 2 0 2 = true := by kernel_rfl
theorem r7221 : runP 7 2 2 1 = true := by kernel_rfl
theorem r7241 : runP 7 2 4 1 = true := by kernel_rfl
theorem r7261 : runP 7 2 6 1 = true := by kernel_rfl
end Go.Proofs.YtjnfgapfhpihmaaGreat
