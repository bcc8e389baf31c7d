/-
  KernelFlushes: runs, part 11.
-/
import Derived.Test.YtpnlcoolbimmjaaGreatFS
import Derived.KernelRfl
namespace Go.Proofs.YtpnlcoolbimmjaaGreat
open Go.RowKit
set_option maxRecDepth 100000
set_option linter.unusedVariables false
theorem fin134 : RunE gq28 true SS68 := by unfold RunE; kernel_rfl
theorem fin135 : RunE gq28 false SS68 := by unfold RunE; kernel_rfl
theorem fin136 : RunE gq28 true SS69 := by unfold RunE; kernel_rfl
theorem fin137 : RunE gq28 false SS69 := by unfold RunE; kernel_rfl
theorem fin138 : RunE gq29 true SS70 := by unfold RunE; kernel_rfl
theorem fin139 : RunE gq29 false SS70 := by unfold RunE; kernel_rfl
theorem fin140 : RunE gq29 true SS71 := by unfold RunE; kernel_rfl
theorem fin141 : RunE gq29 false SS71 := by unfold RunE; kernel_rfl
theorem fin142 : RunE gq29 true SS72 := by unfold RunE; kernel_rfl
theorem fin143 : RunE gq29 false SS72 := by unfold RunE; kernel_rfl
theorem fin144 : RunE gq29 true SS73 := by unfold RunE; kernel_rfl
theorem fin145 : RunE gq29 false SS73 := by unfold RunE; kernel_rfl
theorem fin146 : RunE gq29 true SS74 := by unfold RunE; kernel_rfl
theorem fin147 : RunE gq29 false SS74 := by unfold RunE; kernel_rfl
theorem fin148 : RunE gq29 true SS75 := by unfold RunE; kernel_rfl
theorem fin149 : RunE gq29 false SS75 := by unfold RunE; kernel_rfl
theorem fin150 : RunE gq29 true SS76 := by unfold RunE; kernel_rfl
theorem fin151 : RunE gq29 false SS76 := by unfold RunE; kernel_rfl
theorem fin152 : RunE gq29 true SS77 := by unfold RunE; kernel_rfl
theorem fin153 : RunE gq29 false SS77 := by unfold RunE; kernel_rfl
theorem fin154 : RunE gq29 true SS78 := by unfold RunE; kernel_rfl
theorem fin155 : RunE gq29 false SS78 := by unfold RunE; kernel_rfl
theorem fin156 : RunE gq29 true SS79 := by unfold RunE; kernel_rfl
theorem fin157 : RunE gq29 false SS79 := by unfold RunE; kernel_rfl
theorem fin158 : RunE gq29 true SS80 := by unfold RunE; kernel_rfl
theorem fin159 : RunE gq29 false SS80 := by unfold RunE; kernel_rfl
theorem fin160 : RunE gq29 true SS81 := by unfold RunE; kernel_rfl
theorem fin161 : RunE gq29 false SS81 := by unfold RunE; kernel_rfl
theorem fin162 : RunE gq29 true SS82 := by unfold RunE; kernel_rfl
theorem fin163 : RunE gq29 false SS82 := by unfold RunE; kernel_rfl
theorem fin164 : RunE gq29 true SS83 := by unfold RunE; kernel_rfl
theorem fin165 : RunE gq29 false SS83 := by unfold RunE; kernel_rfl
theorem fin166 : RunE gq29 true SS84 := by unfold RunE; kernel_rfl
theorem fin167 : RunE gq29 false SS84 := by unfold RunE; kernel_rfl
theorem fin168 : RunE gq29 true SS85 := by unfold RunE; kernel_rfl
theorem fin169 : RunE gq29 false SS85 := by unfold RunE; kernel_rfl
theorem fin170 : RunE gq29 true SS86 := by unfold RunE; kernel_rfl
theorem fin171 : RunE gq29 false SS86 := by unfold RunE; kernel_rfl
theorem fin172 : RunE gq29 true SS87 := by unfold RunE; kernel_rfl
theorem fin173 : RunE gq29 false SS87 := by unfold RunE; kernel_rfl
theorem fin174 : RunE gq29 true SS88 := by unfold RunE; kernel_rfl
theorem fin175 : RunE gq29 false SS88 := by unfold RunE; kernel_rfl
theorem fin176 : RunE gq29 true SS89 := by unfold RunE; kernel_rfl
theorem fin177 : RunE gq29 false SS89 := by unfold RunE; kernel_rfl
end Go.Proofs.YtpnlcoolbimmjaaGreat
