/-
  KernelFlushes: runs, part 8.
-/
import Derived.Test.YtpnlcoolbimmjaaGreatFS
import Derived.KernelRfl
namespace Go.Proofs.YtpnlcoolbimmjaaGreat
open Go.RowKit
set_option maxRecDepth 100000
set_option linter.unusedVariables false
theorem fin2 : RunE gq25 true SS2 := by unfold RunE; kernel_rfl
theorem fin3 : RunE gq25 false SS2 := by unfold RunE; kernel_rfl
theorem fin4 : RunE gq25 true SS3 := by unfold RunE; kernel_rfl
theorem fin5 : RunE gq25 false SS3 := by unfold RunE; kernel_rfl
theorem fin6 : RunE gq25 true SS4 := by unfold RunE; kernel_rfl
theorem fin7 : RunE gq25 false SS4 := by unfold RunE; kernel_rfl
theorem fin8 : RunE gq26 true SS5 := by unfold RunE; kernel_rfl
theorem fin9 : RunE gq26 false SS5 := by unfold RunE; kernel_rfl
theorem fin10 : RunE gq26 true SS6 := by unfold RunE; kernel_rfl
theorem fin11 : RunE gq26 false SS6 := by unfold RunE; kernel_rfl
theorem fin12 : RunE gq26 true SS7 := by unfold RunE; kernel_rfl
theorem fin13 : RunE gq26 false SS7 := by unfold RunE; kernel_rfl
theorem fin14 : RunE gq26 true SS8 := by unfold RunE; kernel_rfl
theorem fin15 : RunE gq26 false SS8 := by unfold RunE; kernel_rfl
theorem fin16 : RunE gq26 true SS9 := by unfold RunE; kernel_rfl
theorem fin17 : RunE gq26 false SS9 := by unfold RunE; kernel_rfl
theorem fin18 : RunE gq26 true SS10 := by unfold RunE; kernel_rfl
theorem fin19 : RunE gq26 false SS10 := by unfold RunE; kernel_rfl
theorem fin20 : RunE gq26 true SS11 := by unfold RunE; kernel_rfl
theorem fin21 : RunE gq26 false SS11 := by unfold RunE; kernel_rfl
theorem fin22 : RunE gq26 true SS12 := by unfold RunE; kernel_rfl
theorem fin23 : RunE gq26 false SS12 := by unfold RunE; kernel_rfl
theorem fin24 : RunE gq26 true SS13 := by unfold RunE; kernel_rfl
theorem fin25 : RunE gq26 false SS13 := by unfold RunE; kernel_rfl
theorem fin26 : RunE gq26 true SS14 := by unfold RunE; kernel_rfl
theorem fin27 : RunE gq26 false SS14 := by unfold RunE; kernel_rfl
theorem fin28 : RunE gq27 true SS15 := by unfold RunE; kernel_rfl
theorem fin29 : RunE gq27 false SS15 := by unfold RunE; kernel_rfl
theorem fin30 : RunE gq27 true SS16 := by unfold RunE; kernel_rfl
theorem fin31 : RunE gq27 false SS16 := by unfold RunE; kernel_rfl
theorem fin32 : RunE gq27 true SS17 := by unfold RunE; kernel_rfl
theorem fin33 : RunE gq27 false SS17 := by unfold RunE; kernel_rfl
theorem fin34 : RunE gq27 true SS18 := by unfold RunE; kernel_rfl
theorem fin35 : RunE gq27 false SS18 := by unfold RunE; kernel_rfl
theorem fin36 : RunE gq27 true SS19 := by unfold RunE; kernel_rfl
theorem fin37 : RunE gq27 false SS19 := by unfold RunE; kernel_rfl
theorem fin38 : RunE gq27 true SS20 := by unfold RunE; kernel_rfl
theorem fin39 : RunE gq27 false SS20 := by unfold RunE; kernel_rfl
theorem fin40 : RunE gq27 true SS21 := by unfold RunE; kernel_rfl
theorem fin41 : RunE gq27 false SS21 := by unfold RunE; kernel_rfl
theorem fin42 : RunE gq27 true SS22 := by unfold RunE; kernel_rfl
theorem fin43 : RunE gq27 false SS22 := by unfold RunE; kernel_rfl
theorem fin44 : RunE gq27 true SS23 := by unfold RunE; kernel_rfl
theorem fin45 : RunE gq27 false SS23 := by unfold RunE; kernel_rfl
end Go.Proofs.YtpnlcoolbimmjaaGreat
