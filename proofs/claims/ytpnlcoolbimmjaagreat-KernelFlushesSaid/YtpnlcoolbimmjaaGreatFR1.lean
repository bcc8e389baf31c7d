/-
  KernelFlushes: runs, part 1.
-/
import Derived.Test.YtpnlcoolbimmjaaGreatFS
import Derived.KernelRfl
namespace Go.Proofs.YtpnlcoolbimmjaaGreat
open Go.RowKit
set_option maxRecDepth 100000
set_option linter.unusedVariables false
theorem run44 : RunB mq6 nq14 SS24 gq14 SS8 := by unfold RunB; kernel_rfl
theorem run45 : RunB mq9 nq10 SS16 gq10 SS9 := by unfold RunB; kernel_rfl
theorem run46 : RunB mq9 nq11 SS16 gq11 SS9 := by unfold RunB; kernel_rfl
theorem run47 : RunB mq4 nq12 SS25 gq12 SS9 := by unfold RunB; kernel_rfl
theorem run48 : RunB mq5 nq13 SS26 gq13 SS9 := by unfold RunB; kernel_rfl
theorem run49 : RunB mq5 nq14 SS27 gq14 SS9 := by unfold RunB; kernel_rfl
theorem run50 : RunB mq8 nq10 SS20 gq10 SS10 := by unfold RunB; kernel_rfl
theorem run51 : RunB mq8 nq11 SS20 gq11 SS10 := by unfold RunB; kernel_rfl
theorem run52 : RunB mq6 nq12 SS28 gq12 SS10 := by unfold RunB; kernel_rfl
theorem run53 : RunB mq6 nq13 SS28 gq13 SS10 := by unfold RunB; kernel_rfl
theorem run54 : RunB mq7 nq14 SS29 gq14 SS10 := by unfold RunB; kernel_rfl
theorem run55 : RunB mq8 nq10 SS21 gq10 SS11 := by unfold RunB; kernel_rfl
theorem run56 : RunB mq8 nq11 SS21 gq11 SS11 := by unfold RunB; kernel_rfl
theorem run57 : RunB mq6 nq12 SS30 gq12 SS11 := by unfold RunB; kernel_rfl
theorem run58 : RunB mq8 nq13 SS29 gq13 SS11 := by unfold RunB; kernel_rfl
theorem run59 : RunB mq6 nq14 SS30 gq14 SS11 := by unfold RunB; kernel_rfl
theorem run60 : RunB mq9 nq10 SS17 gq10 SS12 := by unfold RunB; kernel_rfl
theorem run61 : RunB mq9 nq11 SS17 gq11 SS12 := by unfold RunB; kernel_rfl
theorem run62 : RunB mq9 nq12 SS26 gq12 SS12 := by unfold RunB; kernel_rfl
theorem run63 : RunB mq4 nq13 SS31 gq13 SS12 := by unfold RunB; kernel_rfl
theorem run64 : RunB mq5 nq14 SS32 gq14 SS12 := by unfold RunB; kernel_rfl
theorem run65 : RunB mq8 nq10 SS23 gq10 SS13 := by unfold RunB; kernel_rfl
theorem run66 : RunB mq8 nq11 SS23 gq11 SS13 := by unfold RunB; kernel_rfl
theorem run67 : RunB mq8 nq12 SS29 gq12 SS13 := by unfold RunB; kernel_rfl
theorem run68 : RunB mq6 nq13 SS33 gq13 SS13 := by unfold RunB; kernel_rfl
theorem run69 : RunB mq6 nq14 SS33 gq14 SS13 := by unfold RunB; kernel_rfl
theorem run70 : RunB mq9 nq10 SS18 gq10 SS14 := by unfold RunB; kernel_rfl
theorem run71 : RunB mq9 nq11 SS18 gq11 SS14 := by unfold RunB; kernel_rfl
theorem run72 : RunB mq9 nq12 SS27 gq12 SS14 := by unfold RunB; kernel_rfl
theorem run73 : RunB mq9 nq13 SS32 gq13 SS14 := by unfold RunB; kernel_rfl
theorem run74 : RunB mq4 nq14 SS34 gq14 SS14 := by unfold RunB; kernel_rfl
theorem run75 : RunB mq10 nq15 SS35 gq15 SS15 := by unfold RunB; kernel_rfl
theorem run76 : RunB mq10 nq16 SS35 gq16 SS15 := by unfold RunB; kernel_rfl
theorem run77 : RunB mq11 nq17 SS36 gq17 SS15 := by unfold RunB; kernel_rfl
theorem run78 : RunB mq11 nq18 SS37 gq18 SS15 := by unfold RunB; kernel_rfl
theorem run79 : RunB mq11 nq19 SS38 gq19 SS15 := by unfold RunB; kernel_rfl
theorem run80 : RunB mq12 nq15 SS39 gq15 SS16 := by unfold RunB; kernel_rfl
theorem run81 : RunB mq12 nq16 SS39 gq16 SS16 := by unfold RunB; kernel_rfl
theorem run82 : RunB mq12 nq17 SS39 gq17 SS16 := by unfold RunB; kernel_rfl
theorem run83 : RunB mq13 nq18 SS40 gq18 SS16 := by unfold RunB; kernel_rfl
theorem run84 : RunB mq13 nq19 SS41 gq19 SS16 := by unfold RunB; kernel_rfl
theorem run85 : RunB mq12 nq15 SS42 gq15 SS17 := by unfold RunB; kernel_rfl
theorem run86 : RunB mq12 nq16 SS42 gq16 SS17 := by unfold RunB; kernel_rfl
theorem run87 : RunB mq14 nq17 SS40 gq17 SS17 := by unfold RunB; kernel_rfl
end Go.Proofs.YtpnlcoolbimmjaaGreat
