/-
  The last checks, part 1 (printed by a program).
-/
import Derived.Test.YtjnfgapfhpihmaaGreatSfE
set_option linter.unusedVariables false
set_option linter.unusedSimpArgs false
section
set_option maxRecDepth 100000
namespace Go.Proofs.YtjnfgapfhpihmaaGreat
theorem z2100 : runZ 2 1 0 = true := by kernel_rfl
theorem z2200 : runZ 2 2 0 = true := by kernel_rfl
theorem z3000 : runZ 3 0 0 = true := by kernel_rfl
theorem z3110 : runZ 3 1 1 = true := by kernel_rfl
theorem z3200 : runZ 3 2 0 = true := by kernel_rfl
theorem z3220 : runZ 3 2 2 = true := by kernel_rfl
theorem z4100 : runZ 4 1 0 = true := by kernel_rfl
theorem z4120 : runZ 4 1 2 = true := by kernel_rfl
theorem z4200 : runZ 4 2 0 = true := by kernel_rfl
theorem z4220 : runZ 4 2 2 = true := by kernel_rfl
theorem z5000 : runZ 5 0 0 = true := by kernel_rfl
theorem z5110 : runZ 5 1 1 = true := by kernel_rfl
theorem z5130 : runZ 5 1 3 = true := by kernel_rfl
theorem z5200 : runZ 5 2 0 = true := by kernel_rfl
theorem z5220 : runZ 5 2 2 = true := by kernel_rfl
theorem z5240 : runZ 5 2 4 = true := by kernel_rfl
theorem z6100 : runZ 6 1 0 = true := by kernel_rfl
theorem z6120 : runZ 6 1 2 = true := by kernel_rfl
theorem z6140 : runZ 6 1 4 = true := by kernel_rfl
theorem z6200 : runZ 6 2 0 = true := by kernel_rfl
theorem z6220 : runZ 6 2 2 = true := by kernel_rfl
theorem z6240 : runZ 6 2 4 = true := by kernel_rfl
theorem z7000 : runZ 7 0 0 = true := by kernel_rfl
theorem z7120 : runZ 7 1 2 = true := by kernel_rfl
theorem z7140 : runZ 7 1 4 = true := by kernel_rfl
theorem z7160 : runZ 7 1 6 = true := by kernel_rfl
theorem z7220 : runZ 7 2 2 = true := by kernel_rfl
theorem z7240 : runZ 7 2 4 = true := by kernel_rfl
theorem z7260 : runZ 7 2 6 = true := by kernel_rfl
end Go.Proofs.YtjnfgapfhpihmaaGreat
end
section
set_option maxRecDepth 100000
namespace Go.Proofs.YtjnfgapfhpihmaaGreat
theorem z2110 : runZ 2 1 1 = true := by kernel_rfl
theorem z2210 : runZ 2 2 1 = true := by kernel_rfl
theorem z3100 : runZ 3 1 0 = true := by kernel_rfl
theorem z3120 : runZ 3 1 2 = true := by kernel_rfl
theorem z3210 : runZ 3 2 1 = true := by kernel_rfl
theorem z4000 : runZ 4 0 0 = true := by kernel_rfl
theorem z4110 : runZ 4 1 1 = true := by kernel_rfl
theorem z4130 : runZ 4 1 3 = true := by kernel_rfl
theorem z4210 : runZ 4 2 1 = true := by kernel_rfl
theorem z4230 : runZ 4 2 3 = true := by kernel_rfl
theorem z5100 : runZ 5 1 0 = true := by kernel_rfl
theorem z5120 : runZ 5 1 2 = true := by kernel_rfl
theorem z5140 : runZ 5 1 4 = true := by kernel_rfl
theorem z5210 : runZ 5 2 1 = true := by kernel_rfl
theorem z5230 : runZ 5 2 3 = true := by kernel_rfl
theorem z6000 : runZ 6 0 0 = true := by kernel_rfl
theorem z6110 : runZ 6 1 1 = true := by kernel_rfl
theorem z6130 : runZ 6 1 3 = true := by kernel_rfl
theorem z6150 : runZ 6 1 5 = true := by kernel_rfl
theorem z6210 : runZ 6 2 1 = true := by kernel_rfl
theorem z6230 : runZ 6 2 3 = true := by kernel_rfl
theorem z6250 : runZ 6 2 5 = true := by kernel_rfl
theorem z7110 : runZ 7 1 1 = true := by kernel_rfl
theorem z7130 : runZ 7 1 3 = true := by kernel_rfl
theorem z7150 : runZ 7 1 5 = true := by kernel_rfl
theorem z7210 : runZ 7 2 1 = true := by kernel_rfl
theorem z7230 : runZ 7 2 3 = true := by kernel_rfl
theorem z7250 : runZ 7 2 5 = true := by kernel_rfl
end Go.Proofs.YtjnfgapfhpihmaaGreat
end
