/-
  KernelFlushes: runs, part 9.
-/
import Derived.Test.YtpnlcoolbimmjaaGreatFS
import Derived.KernelRfl
namespace Go.Proofs.YtpnlcoolbimmjaaGreat
open Go.RowKit
set_option maxRecDepth 100000
set_option linter.unusedVariables false
theorem fin46 : RunE gq27 true SS24 := by unfold RunE; kernel_rfl
theorem fin47 : RunE gq27 false SS24 := by unfold RunE; kernel_rfl
theorem fin48 : RunE gq27 true SS25 := by unfold RunE; kernel_rfl
theorem fin49 : RunE gq27 false SS25 := by unfold RunE; kernel_rfl
theorem fin50 : RunE gq27 true SS26 := by unfold RunE; kernel_rfl
theorem fin51 : RunE gq27 false SS26 := by unfold RunE; kernel_rfl
theorem fin52 : RunE gq27 true SS27 := by unfold RunE; kernel_rfl
theorem fin53 : RunE gq27 false SS27 := by unfold RunE; kernel_rfl
theorem fin54 : RunE gq27 true SS28 := by unfold RunE; kernel_rfl
theorem fin55 : RunE gq27 false SS28 := by unfold RunE; kernel_rfl
theorem fin56 : RunE gq27 true SS29 := by unfold RunE; kernel_rfl
theorem fin57 : RunE gq27 false SS29 := by unfold RunE; kernel_rfl
theorem fin58 : RunE gq27 true SS30 := by unfold RunE; kernel_rfl
theorem fin59 : RunE gq27 false SS30 := by unfold RunE; kernel_rfl
theorem fin60 : RunE gq27 true SS31 := by unfold RunE; kernel_rfl
theorem fin61 : RunE gq27 false SS31 := by unfold RunE; kernel_rfl
theorem fin62 : RunE gq27 true SS32 := by unfold RunE; kernel_rfl
theorem fin63 : RunE gq27 false SS32 := by unfold RunE; kernel_rfl
theorem fin64 : RunE gq27 true SS33 := by unfold RunE; kernel_rfl
theorem fin65 : RunE gq27 false SS33 := by unfold RunE; kernel_rfl
theorem fin66 : RunE gq27 true SS34 := by unfold RunE; kernel_rfl
theorem fin67 : RunE gq27 false SS34 := by unfold RunE; kernel_rfl
theorem fin68 : RunE gq28 true SS35 := by unfold RunE; kernel_rfl
theorem fin69 : RunE gq28 false SS35 := by unfold RunE; kernel_rfl
theorem fin70 : RunE gq28 true SS36 := by unfold RunE; kernel_rfl
theorem fin71 : RunE gq28 false SS36 := by unfold RunE; kernel_rfl
theorem fin72 : RunE gq28 true SS37 := by unfold RunE; kernel_rfl
theorem fin73 : RunE gq28 false SS37 := by unfold RunE; kernel_rfl
theorem fin74 : RunE gq28 true SS38 := by unfold RunE; kernel_rfl
theorem fin75 : RunE gq28 false SS38 := by unfold RunE; kernel_rfl
theorem fin76 : RunE gq28 true SS39 := by unfold RunE; kernel_rfl
theorem fin77 : RunE gq28 false SS39 := by unfold RunE; kernel_rfl
theorem fin78 : RunE gq28 true SS40 := by unfold RunE; kernel_rfl
theorem fin79 : RunE gq28 false SS40 := by unfold RunE; kernel_rfl
theorem fin80 : RunE gq28 true SS41 := by unfold RunE; kernel_rfl
theorem fin81 : RunE gq28 false SS41 := by unfold RunE; kernel_rfl
theorem fin82 : RunE gq28 true SS42 := by unfold RunE; kernel_rfl
theorem fin83 : RunE gq28 false SS42 := by unfold RunE; kernel_rfl
theorem fin84 : RunE gq28 true SS43 := by unfold RunE; kernel_rfl
theorem fin85 : RunE gq28 false SS43 := by unfold RunE; kernel_rfl
theorem fin86 : RunE gq28 true SS44 := by unfold RunE; kernel_rfl
theorem fin87 : RunE gq28 false SS44 := by unfold RunE; kernel_rfl
theorem fin88 : RunE gq28 true SS45 := by unfold RunE; kernel_rfl
theorem fin89 : RunE gq28 false SS45 := by unfold RunE; kernel_rfl
end Go.Proofs.YtpnlcoolbimmjaaGreat
