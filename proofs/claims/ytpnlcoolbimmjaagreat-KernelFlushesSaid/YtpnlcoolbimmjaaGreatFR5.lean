/-
  KernelFlushes: runs, part 5.
-/
import Derived.Test.YtpnlcoolbimmjaaGreatFS
import Derived.KernelRfl
namespace Go.Proofs.YtpnlcoolbimmjaaGreat
open Go.RowKit
set_option maxRecDepth 100000
set_option linter.unusedVariables false
theorem run220 : RunB mq22 nq20 SS89 gq20 SS44 := by unfold RunB; kernel_rfl
theorem run221 : RunB mq22 nq21 SS89 gq21 SS44 := by unfold RunB; kernel_rfl
theorem run222 : RunB mq24 nq22 SS82 gq22 SS44 := by unfold RunB; kernel_rfl
theorem run223 : RunB mq24 nq23 SS87 gq23 SS44 := by unfold RunB; kernel_rfl
theorem run224 : RunB mq22 nq24 SS89 gq24 SS44 := by unfold RunB; kernel_rfl
theorem run225 : RunB mq22 nq20 SS90 gq20 SS45 := by unfold RunB; kernel_rfl
theorem run226 : RunB mq22 nq21 SS90 gq21 SS45 := by unfold RunB; kernel_rfl
theorem run227 : RunB mq22 nq22 SS90 gq22 SS45 := by unfold RunB; kernel_rfl
theorem run228 : RunB mq23 nq23 SS91 gq23 SS45 := by unfold RunB; kernel_rfl
theorem run229 : RunB mq23 nq24 SS92 gq24 SS45 := by unfold RunB; kernel_rfl
theorem run230 : RunB mq25 nq20 SS93 gq20 SS46 := by unfold RunB; kernel_rfl
theorem run231 : RunB mq25 nq21 SS93 gq21 SS46 := by unfold RunB; kernel_rfl
theorem run232 : RunB mq25 nq22 SS93 gq22 SS46 := by unfold RunB; kernel_rfl
theorem run233 : RunB mq25 nq23 SS93 gq23 SS46 := by unfold RunB; kernel_rfl
theorem run234 : RunB mq26 nq24 SS94 gq24 SS46 := by unfold RunB; kernel_rfl
theorem run235 : RunB mq25 nq20 SS95 gq20 SS47 := by unfold RunB; kernel_rfl
theorem run236 : RunB mq25 nq21 SS95 gq21 SS47 := by unfold RunB; kernel_rfl
theorem run237 : RunB mq25 nq22 SS95 gq22 SS47 := by unfold RunB; kernel_rfl
theorem run238 : RunB mq27 nq23 SS94 gq23 SS47 := by unfold RunB; kernel_rfl
theorem run239 : RunB mq25 nq24 SS95 gq24 SS47 := by unfold RunB; kernel_rfl
theorem run240 : RunB mq25 nq20 SS96 gq20 SS48 := by unfold RunB; kernel_rfl
theorem run241 : RunB mq25 nq21 SS96 gq21 SS48 := by unfold RunB; kernel_rfl
theorem run242 : RunB mq25 nq22 SS96 gq22 SS48 := by unfold RunB; kernel_rfl
theorem run243 : RunB mq25 nq23 SS96 gq23 SS48 := by unfold RunB; kernel_rfl
theorem run244 : RunB mq26 nq24 SS97 gq24 SS48 := by unfold RunB; kernel_rfl
theorem run245 : RunB mq29 nq20 SS98 gq20 SS49 := by unfold RunB; kernel_rfl
theorem run246 : RunB mq29 nq21 SS98 gq21 SS49 := by unfold RunB; kernel_rfl
theorem run247 : RunB mq29 nq22 SS98 gq22 SS49 := by unfold RunB; kernel_rfl
theorem run248 : RunB mq30 nq23 SS98 gq23 SS49 := by unfold RunB; kernel_rfl
theorem run249 : RunB mq30 nq24 SS98 gq24 SS49 := by unfold RunB; kernel_rfl
theorem run250 : RunB mq25 nq20 SS99 gq20 SS50 := by unfold RunB; kernel_rfl
theorem run251 : RunB mq25 nq21 SS99 gq21 SS50 := by unfold RunB; kernel_rfl
theorem run252 : RunB mq25 nq22 SS99 gq22 SS50 := by unfold RunB; kernel_rfl
theorem run253 : RunB mq27 nq23 SS97 gq23 SS50 := by unfold RunB; kernel_rfl
theorem run254 : RunB mq25 nq24 SS99 gq24 SS50 := by unfold RunB; kernel_rfl
theorem run255 : RunB mq22 nq20 SS100 gq20 SS51 := by unfold RunB; kernel_rfl
theorem run256 : RunB mq22 nq21 SS100 gq21 SS51 := by unfold RunB; kernel_rfl
theorem run257 : RunB mq24 nq22 SS91 gq22 SS51 := by unfold RunB; kernel_rfl
theorem run258 : RunB mq22 nq23 SS100 gq23 SS51 := by unfold RunB; kernel_rfl
theorem run259 : RunB mq23 nq24 SS101 gq24 SS51 := by unfold RunB; kernel_rfl
theorem run260 : RunB mq25 nq20 SS102 gq20 SS52 := by unfold RunB; kernel_rfl
theorem run261 : RunB mq25 nq21 SS102 gq21 SS52 := by unfold RunB; kernel_rfl
theorem run262 : RunB mq28 nq22 SS94 gq22 SS52 := by unfold RunB; kernel_rfl
theorem run263 : RunB mq25 nq23 SS102 gq23 SS52 := by unfold RunB; kernel_rfl
end Go.Proofs.YtpnlcoolbimmjaaGreat
