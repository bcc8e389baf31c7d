/-
  KernelFlushes: runs, part 3.
-/
import Derived.Test.YtpnlcoolbimmjaaGreatFS
import Derived.KernelRfl
namespace Go.Proofs.YtpnlcoolbimmjaaGreat
open Go.RowKit
set_option maxRecDepth 100000
set_option linter.unusedVariables false
theorem run132 : RunB mq12 nq17 SS58 gq17 SS26 := by unfold RunB; kernel_rfl
theorem run133 : RunB mq12 nq18 SS58 gq18 SS26 := by unfold RunB; kernel_rfl
theorem run134 : RunB mq13 nq19 SS59 gq19 SS26 := by unfold RunB; kernel_rfl
theorem run135 : RunB mq14 nq15 SS41 gq15 SS27 := by unfold RunB; kernel_rfl
theorem run136 : RunB mq14 nq16 SS41 gq16 SS27 := by unfold RunB; kernel_rfl
theorem run137 : RunB mq12 nq17 SS60 gq17 SS27 := by unfold RunB; kernel_rfl
theorem run138 : RunB mq14 nq18 SS59 gq18 SS27 := by unfold RunB; kernel_rfl
theorem run139 : RunB mq12 nq19 SS60 gq19 SS27 := by unfold RunB; kernel_rfl
theorem run140 : RunB mq14 nq15 SS46 gq15 SS28 := by unfold RunB; kernel_rfl
theorem run141 : RunB mq14 nq16 SS46 gq16 SS28 := by unfold RunB; kernel_rfl
theorem run142 : RunB mq12 nq17 SS61 gq17 SS28 := by unfold RunB; kernel_rfl
theorem run143 : RunB mq12 nq18 SS61 gq18 SS28 := by unfold RunB; kernel_rfl
theorem run144 : RunB mq13 nq19 SS62 gq19 SS28 := by unfold RunB; kernel_rfl
theorem run145 : RunB mq18 nq15 SS49 gq15 SS29 := by unfold RunB; kernel_rfl
theorem run146 : RunB mq18 nq16 SS49 gq16 SS29 := by unfold RunB; kernel_rfl
theorem run147 : RunB mq15 nq17 SS63 gq17 SS29 := by unfold RunB; kernel_rfl
theorem run148 : RunB mq15 nq18 SS63 gq18 SS29 := by unfold RunB; kernel_rfl
theorem run149 : RunB mq15 nq19 SS63 gq19 SS29 := by unfold RunB; kernel_rfl
theorem run150 : RunB mq14 nq15 SS47 gq15 SS30 := by unfold RunB; kernel_rfl
theorem run151 : RunB mq14 nq16 SS47 gq16 SS30 := by unfold RunB; kernel_rfl
theorem run152 : RunB mq12 nq17 SS64 gq17 SS30 := by unfold RunB; kernel_rfl
theorem run153 : RunB mq14 nq18 SS62 gq18 SS30 := by unfold RunB; kernel_rfl
theorem run154 : RunB mq12 nq19 SS64 gq19 SS30 := by unfold RunB; kernel_rfl
theorem run155 : RunB mq19 nq15 SS37 gq15 SS31 := by unfold RunB; kernel_rfl
theorem run156 : RunB mq19 nq16 SS37 gq16 SS31 := by unfold RunB; kernel_rfl
theorem run157 : RunB mq19 nq17 SS56 gq17 SS31 := by unfold RunB; kernel_rfl
theorem run158 : RunB mq10 nq18 SS65 gq18 SS31 := by unfold RunB; kernel_rfl
theorem run159 : RunB mq11 nq19 SS66 gq19 SS31 := by unfold RunB; kernel_rfl
theorem run160 : RunB mq14 nq15 SS43 gq15 SS32 := by unfold RunB; kernel_rfl
theorem run161 : RunB mq14 nq16 SS43 gq16 SS32 := by unfold RunB; kernel_rfl
theorem run162 : RunB mq14 nq17 SS59 gq17 SS32 := by unfold RunB; kernel_rfl
theorem run163 : RunB mq12 nq18 SS67 gq18 SS32 := by unfold RunB; kernel_rfl
theorem run164 : RunB mq12 nq19 SS67 gq19 SS32 := by unfold RunB; kernel_rfl
theorem run165 : RunB mq14 nq15 SS52 gq15 SS33 := by unfold RunB; kernel_rfl
theorem run166 : RunB mq14 nq16 SS52 gq16 SS33 := by unfold RunB; kernel_rfl
theorem run167 : RunB mq14 nq17 SS62 gq17 SS33 := by unfold RunB; kernel_rfl
theorem run168 : RunB mq12 nq18 SS68 gq18 SS33 := by unfold RunB; kernel_rfl
theorem run169 : RunB mq12 nq19 SS68 gq19 SS33 := by unfold RunB; kernel_rfl
theorem run170 : RunB mq19 nq15 SS38 gq15 SS34 := by unfold RunB; kernel_rfl
theorem run171 : RunB mq19 nq16 SS38 gq16 SS34 := by unfold RunB; kernel_rfl
theorem run172 : RunB mq19 nq17 SS57 gq17 SS34 := by unfold RunB; kernel_rfl
theorem run173 : RunB mq19 nq18 SS66 gq18 SS34 := by unfold RunB; kernel_rfl
theorem run174 : RunB mq10 nq19 SS69 gq19 SS34 := by unfold RunB; kernel_rfl
theorem run175 : RunB mq20 nq20 SS70 gq20 SS35 := by unfold RunB; kernel_rfl
end Go.Proofs.YtpnlcoolbimmjaaGreat
