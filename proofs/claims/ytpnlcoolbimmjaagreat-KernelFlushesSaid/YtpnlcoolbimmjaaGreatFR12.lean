/-
  KernelFlushes: runs, part 12.
-/
import Derived.Test.YtpnlcoolbimmjaaGreatFS
import Derived.KernelRfl
namespace Go.Proofs.YtpnlcoolbimmjaaGreat
open Go.RowKit
set_option maxRecDepth 100000
set_option linter.unusedVariables false
theorem fin178 : RunE gq29 true SS90 := by unfold RunE; kernel_rfl
theorem fin179 : RunE gq29 false SS90 := by unfold RunE; kernel_rfl
theorem fin180 : RunE gq29 true SS91 := by unfold RunE; kernel_rfl
theorem fin181 : RunE gq29 false SS91 := by unfold RunE; kernel_rfl
theorem fin182 : RunE gq29 true SS92 := by unfold RunE; kernel_rfl
theorem fin183 : RunE gq29 false SS92 := by unfold RunE; kernel_rfl
theorem fin184 : RunE gq29 true SS93 := by unfold RunE; kernel_rfl
theorem fin185 : RunE gq29 false SS93 := by unfold RunE; kernel_rfl
theorem fin186 : RunE gq29 true SS94 := by unfold RunE; kernel_rfl
theorem fin187 : RunE gq29 false SS94 := by unfold RunE; kernel_rfl
theorem fin188 : RunE gq29 true SS95 := by unfold RunE; kernel_rfl
theorem fin189 : RunE gq29 false SS95 := by unfold RunE; kernel_rfl
theorem fin190 : RunE gq29 true SS96 := by unfold RunE; kernel_rfl
theorem fin191 : RunE gq29 false SS96 := by unfold RunE; kernel_rfl
theorem fin192 : RunE gq29 true SS97 := by unfold RunE; kernel_rfl
theorem fin193 : RunE gq29 false SS97 := by unfold RunE; kernel_rfl
theorem fin194 : RunE gq29 true SS98 := by unfold RunE; kernel_rfl
theorem fin195 : RunE gq29 false SS98 := by unfold RunE; kernel_rfl
theorem fin196 : RunE gq29 true SS99 := by unfold RunE; kernel_rfl
theorem fin197 : RunE gq29 false SS99 := by unfold RunE; kernel_rfl
theorem fin198 : RunE gq29 true SS100 := by unfold RunE; kernel_rfl
theorem fin199 : RunE gq29 false SS100 := by unfold RunE; kernel_rfl
theorem fin200 : RunE gq29 true SS101 := by unfold RunE; kernel_rfl
theorem fin201 : RunE gq29 false SS101 := by unfold RunE; kernel_rfl
theorem fin202 : RunE gq29 true SS102 := by unfold RunE; kernel_rfl
theorem fin203 : RunE gq29 false SS102 := by unfold RunE; kernel_rfl
theorem fin204 : RunE gq29 true SS103 := by unfold RunE; kernel_rfl
theorem fin205 : RunE gq29 false SS103 := by unfold RunE; kernel_rfl
theorem fin206 : RunE gq29 true SS104 := by unfold RunE; kernel_rfl
theorem fin207 : RunE gq29 false SS104 := by unfold RunE; kernel_rfl
theorem fin208 : RunE gq29 true SS105 := by unfold RunE; kernel_rfl
theorem fin209 : RunE gq29 false SS105 := by unfold RunE; kernel_rfl
theorem fin210 : RunE gq29 true SS106 := by unfold RunE; kernel_rfl
theorem fin211 : RunE gq29 false SS106 := by unfold RunE; kernel_rfl
theorem fin212 : RunE gq29 true SS107 := by unfold RunE; kernel_rfl
theorem fin213 : RunE gq29 false SS107 := by unfold RunE; kernel_rfl
theorem fin214 : RunE gq29 true SS108 := by unfold RunE; kernel_rfl
theorem fin215 : RunE gq29 false SS108 := by unfold RunE; kernel_rfl
theorem fin216 : RunE gq29 true SS109 := by unfold RunE; kernel_rfl
theorem fin217 : RunE gq29 false SS109 := by unfold RunE; kernel_rfl
theorem fin218 : RunE gq29 true SS110 := by unfold RunE; kernel_rfl
theorem fin219 : RunE gq29 false SS110 := by unfold RunE; kernel_rfl
theorem fin220 : RunE gq29 true SS111 := by unfold RunE; kernel_rfl
theorem fin221 : RunE gq29 false SS111 := by unfold RunE; kernel_rfl
end Go.Proofs.YtpnlcoolbimmjaaGreat
