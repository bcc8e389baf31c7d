/-
  KernelFlushes: runs, part 13.
-/
import Derived.Test.YtpnlcoolbimmjaaGreatFS
import Derived.KernelRfl
namespace Go.Proofs.YtpnlcoolbimmjaaGreat
open Go.RowKit
set_option maxRecDepth 100000
set_option linter.unusedVariables false
theorem fin222 : RunE gq29 true SS112 := by unfold RunE; kernel_rfl
theorem fin223 : RunE gq29 false SS112 := by unfold RunE; kernel_rfl
theorem fin224 : RunE gq29 true SS113 := by unfold RunE; kernel_rfl
theorem fin225 : RunE gq29 false SS113 := by unfold RunE; kernel_rfl
theorem fin226 : RunE gq29 true SS114 := by unfold RunE; kernel_rfl
theorem fin227 : RunE gq29 false SS114 := by unfold RunE; kernel_rfl
theorem fin228 : RunE gq29 true SS115 := by unfold RunE; kernel_rfl
theorem fin229 : RunE gq29 false SS115 := by unfold RunE; kernel_rfl
theorem fin230 : RunE gq29 true SS116 := by unfold RunE; kernel_rfl
theorem fin231 : RunE gq29 false SS116 := by unfold RunE; kernel_rfl
theorem fin232 : RunE gq29 true SS117 := by unfold RunE; kernel_rfl
theorem fin233 : RunE gq29 false SS117 := by unfold RunE; kernel_rfl
theorem fin234 : RunE gq29 true SS118 := by unfold RunE; kernel_rfl
theorem fin235 : RunE gq29 false SS118 := by unfold RunE; kernel_rfl
theorem fin236 : RunE gq29 true SS119 := by unfold RunE; kernel_rfl
theorem fin237 : RunE gq29 false SS119 := by unfold RunE; kernel_rfl
theorem fin238 : RunE gq29 true SS120 := by unfold RunE; kernel_rfl
theorem fin239 : RunE gq29 false SS120 := by unfold RunE; kernel_rfl
theorem fin240 : RunE gq29 true SS121 := by unfold RunE; kernel_rfl
theorem fin241 : RunE gq29 false SS121 := by unfold RunE; kernel_rfl
theorem fin242 : RunE gq29 true SS122 := by unfold RunE; kernel_rfl
theorem fin243 : RunE gq29 false SS122 := by unfold RunE; kernel_rfl
theorem fin244 : RunE gq29 true SS123 := by unfold RunE; kernel_rfl
theorem fin245 : RunE gq29 false SS123 := by unfold RunE; kernel_rfl
theorem fin246 : RunE gq29 true SS124 := by unfold RunE; kernel_rfl
theorem fin247 : RunE gq29 false SS124 := by unfold RunE; kernel_rfl
theorem fin248 : RunE gq29 true SS125 := by unfold RunE; kernel_rfl
theorem fin249 : RunE gq29 false SS125 := by unfold RunE; kernel_rfl
end Go.Proofs.YtpnlcoolbimmjaaGreat
