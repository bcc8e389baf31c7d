/-
  KernelFlushes: runs, part 6.
-/
import Derived.Test.YtpnlcoolbimmjaaGreatFS
import Derived.KernelRfl
namespace Go.Proofs.YtpnlcoolbimmjaaGreat
open Go.RowKit
set_option maxRecDepth 100000
set_option linter.unusedVariables false
theorem run264 : RunB mq25 nq24 SS102 gq24 SS52 := by unfold RunB; kernel_rfl
theorem run265 : RunB mq25 nq20 SS103 gq20 SS53 := by unfold RunB; kernel_rfl
theorem run266 : RunB mq25 nq21 SS103 gq21 SS53 := by unfold RunB; kernel_rfl
theorem run267 : RunB mq28 nq22 SS97 gq22 SS53 := by unfold RunB; kernel_rfl
theorem run268 : RunB mq25 nq23 SS103 gq23 SS53 := by unfold RunB; kernel_rfl
theorem run269 : RunB mq25 nq24 SS103 gq24 SS53 := by unfold RunB; kernel_rfl
theorem run270 : RunB mq22 nq20 SS104 gq20 SS54 := by unfold RunB; kernel_rfl
theorem run271 : RunB mq22 nq21 SS104 gq21 SS54 := by unfold RunB; kernel_rfl
theorem run272 : RunB mq24 nq22 SS92 gq22 SS54 := by unfold RunB; kernel_rfl
theorem run273 : RunB mq24 nq23 SS101 gq23 SS54 := by unfold RunB; kernel_rfl
theorem run274 : RunB mq22 nq24 SS104 gq24 SS54 := by unfold RunB; kernel_rfl
theorem run275 : RunB mq31 nq20 SS71 gq20 SS55 := by unfold RunB; kernel_rfl
theorem run276 : RunB mq31 nq21 SS71 gq21 SS55 := by unfold RunB; kernel_rfl
theorem run277 : RunB mq20 nq22 SS105 gq22 SS55 := by unfold RunB; kernel_rfl
theorem run278 : RunB mq21 nq23 SS106 gq23 SS55 := by unfold RunB; kernel_rfl
theorem run279 : RunB mq21 nq24 SS107 gq24 SS55 := by unfold RunB; kernel_rfl
theorem run280 : RunB mq24 nq20 SS75 gq20 SS56 := by unfold RunB; kernel_rfl
theorem run281 : RunB mq24 nq21 SS75 gq21 SS56 := by unfold RunB; kernel_rfl
theorem run282 : RunB mq22 nq22 SS108 gq22 SS56 := by unfold RunB; kernel_rfl
theorem run283 : RunB mq22 nq23 SS108 gq23 SS56 := by unfold RunB; kernel_rfl
theorem run284 : RunB mq23 nq24 SS109 gq24 SS56 := by unfold RunB; kernel_rfl
theorem run285 : RunB mq24 nq20 SS76 gq20 SS57 := by unfold RunB; kernel_rfl
theorem run286 : RunB mq24 nq21 SS76 gq21 SS57 := by unfold RunB; kernel_rfl
theorem run287 : RunB mq22 nq22 SS110 gq22 SS57 := by unfold RunB; kernel_rfl
theorem run288 : RunB mq24 nq23 SS109 gq23 SS57 := by unfold RunB; kernel_rfl
theorem run289 : RunB mq22 nq24 SS110 gq24 SS57 := by unfold RunB; kernel_rfl
theorem run290 : RunB mq24 nq20 SS81 gq20 SS58 := by unfold RunB; kernel_rfl
theorem run291 : RunB mq24 nq21 SS81 gq21 SS58 := by unfold RunB; kernel_rfl
theorem run292 : RunB mq22 nq22 SS111 gq22 SS58 := by unfold RunB; kernel_rfl
theorem run293 : RunB mq22 nq23 SS111 gq23 SS58 := by unfold RunB; kernel_rfl
theorem run294 : RunB mq23 nq24 SS112 gq24 SS58 := by unfold RunB; kernel_rfl
theorem run295 : RunB mq28 nq20 SS84 gq20 SS59 := by unfold RunB; kernel_rfl
theorem run296 : RunB mq28 nq21 SS84 gq21 SS59 := by unfold RunB; kernel_rfl
theorem run297 : RunB mq25 nq22 SS113 gq22 SS59 := by unfold RunB; kernel_rfl
theorem run298 : RunB mq25 nq23 SS113 gq23 SS59 := by unfold RunB; kernel_rfl
theorem run299 : RunB mq25 nq24 SS113 gq24 SS59 := by unfold RunB; kernel_rfl
theorem run300 : RunB mq24 nq20 SS82 gq20 SS60 := by unfold RunB; kernel_rfl
theorem run301 : RunB mq24 nq21 SS82 gq21 SS60 := by unfold RunB; kernel_rfl
theorem run302 : RunB mq22 nq22 SS114 gq22 SS60 := by unfold RunB; kernel_rfl
theorem run303 : RunB mq24 nq23 SS112 gq23 SS60 := by unfold RunB; kernel_rfl
theorem run304 : RunB mq22 nq24 SS114 gq24 SS60 := by unfold RunB; kernel_rfl
theorem run305 : RunB mq24 nq20 SS91 gq20 SS61 := by unfold RunB; kernel_rfl
theorem run306 : RunB mq24 nq21 SS91 gq21 SS61 := by unfold RunB; kernel_rfl
theorem run307 : RunB mq22 nq22 SS115 gq22 SS61 := by unfold RunB; kernel_rfl
end Go.Proofs.YtpnlcoolbimmjaaGreat
