/-
  KernelFlushes: runs, part 7.
-/
import Derived.Test.YtpnlcoolbimmjaaGreatFS
import Derived.KernelRfl
namespace Go.Proofs.YtpnlcoolbimmjaaGreat
open Go.RowKit
set_option maxRecDepth 100000
set_option linter.unusedVariables false
theorem run308 : RunB mq22 nq23 SS115 gq23 SS61 := by unfold RunB; kernel_rfl
theorem run309 : RunB mq23 nq24 SS116 gq24 SS61 := by unfold RunB; kernel_rfl
theorem run310 : RunB mq28 nq20 SS94 gq20 SS62 := by unfold RunB; kernel_rfl
theorem run311 : RunB mq28 nq21 SS94 gq21 SS62 := by unfold RunB; kernel_rfl
theorem run312 : RunB mq25 nq22 SS117 gq22 SS62 := by unfold RunB; kernel_rfl
theorem run313 : RunB mq25 nq23 SS117 gq23 SS62 := by unfold RunB; kernel_rfl
theorem run314 : RunB mq25 nq24 SS117 gq24 SS62 := by unfold RunB; kernel_rfl
theorem run315 : RunB mq28 nq20 SS97 gq20 SS63 := by unfold RunB; kernel_rfl
theorem run316 : RunB mq28 nq21 SS97 gq21 SS63 := by unfold RunB; kernel_rfl
theorem run317 : RunB mq25 nq22 SS118 gq22 SS63 := by unfold RunB; kernel_rfl
theorem run318 : RunB mq25 nq23 SS118 gq23 SS63 := by unfold RunB; kernel_rfl
theorem run319 : RunB mq25 nq24 SS118 gq24 SS63 := by unfold RunB; kernel_rfl
theorem run320 : RunB mq24 nq20 SS92 gq20 SS64 := by unfold RunB; kernel_rfl
theorem run321 : RunB mq24 nq21 SS92 gq21 SS64 := by unfold RunB; kernel_rfl
theorem run322 : RunB mq22 nq22 SS119 gq22 SS64 := by unfold RunB; kernel_rfl
theorem run323 : RunB mq24 nq23 SS116 gq23 SS64 := by unfold RunB; kernel_rfl
theorem run324 : RunB mq22 nq24 SS119 gq24 SS64 := by unfold RunB; kernel_rfl
theorem run325 : RunB mq31 nq20 SS72 gq20 SS65 := by unfold RunB; kernel_rfl
theorem run326 : RunB mq31 nq21 SS72 gq21 SS65 := by unfold RunB; kernel_rfl
theorem run327 : RunB mq31 nq22 SS106 gq22 SS65 := by unfold RunB; kernel_rfl
theorem run328 : RunB mq20 nq23 SS120 gq23 SS65 := by unfold RunB; kernel_rfl
theorem run329 : RunB mq21 nq24 SS121 gq24 SS65 := by unfold RunB; kernel_rfl
theorem run330 : RunB mq24 nq20 SS78 gq20 SS66 := by unfold RunB; kernel_rfl
theorem run331 : RunB mq24 nq21 SS78 gq21 SS66 := by unfold RunB; kernel_rfl
theorem run332 : RunB mq24 nq22 SS109 gq22 SS66 := by unfold RunB; kernel_rfl
theorem run333 : RunB mq22 nq23 SS122 gq23 SS66 := by unfold RunB; kernel_rfl
theorem run334 : RunB mq22 nq24 SS122 gq24 SS66 := by unfold RunB; kernel_rfl
theorem run335 : RunB mq24 nq20 SS87 gq20 SS67 := by unfold RunB; kernel_rfl
theorem run336 : RunB mq24 nq21 SS87 gq21 SS67 := by unfold RunB; kernel_rfl
theorem run337 : RunB mq24 nq22 SS112 gq22 SS67 := by unfold RunB; kernel_rfl
theorem run338 : RunB mq22 nq23 SS123 gq23 SS67 := by unfold RunB; kernel_rfl
theorem run339 : RunB mq22 nq24 SS123 gq24 SS67 := by unfold RunB; kernel_rfl
theorem run340 : RunB mq24 nq20 SS101 gq20 SS68 := by unfold RunB; kernel_rfl
theorem run341 : RunB mq24 nq21 SS101 gq21 SS68 := by unfold RunB; kernel_rfl
theorem run342 : RunB mq24 nq22 SS116 gq22 SS68 := by unfold RunB; kernel_rfl
theorem run343 : RunB mq22 nq23 SS124 gq23 SS68 := by unfold RunB; kernel_rfl
theorem run344 : RunB mq22 nq24 SS124 gq24 SS68 := by unfold RunB; kernel_rfl
theorem run345 : RunB mq31 nq20 SS73 gq20 SS69 := by unfold RunB; kernel_rfl
theorem run346 : RunB mq31 nq21 SS73 gq21 SS69 := by unfold RunB; kernel_rfl
theorem run347 : RunB mq31 nq22 SS107 gq22 SS69 := by unfold RunB; kernel_rfl
theorem run348 : RunB mq31 nq23 SS121 gq23 SS69 := by unfold RunB; kernel_rfl
theorem run349 : RunB mq20 nq24 SS125 gq24 SS69 := by unfold RunB; kernel_rfl
theorem fin0 : RunE gq25 true SS1 := by unfold RunE; kernel_rfl
theorem fin1 : RunE gq25 false SS1 := by unfold RunE; kernel_rfl
end Go.Proofs.YtpnlcoolbimmjaaGreat
