/-
  KernelFlushes: runs, part 0.
-/
import Derived.Test.YtpnlcoolbimmjaaGreatFS
import Derived.KernelRfl
namespace Go.Proofs.YtpnlcoolbimmjaaGreat
open Go.RowKit
set_option maxRecDepth 100000
set_option linter.unusedVariables false
theorem run0 : RunB mq0 nq0 SS1 gq0 SS0 := by unfold RunB; kernel_rfl
theorem run1 : RunB mq0 nq1 SS1 gq1 SS0 := by unfold RunB; kernel_rfl
theorem run2 : RunB mq0 nq2 SS2 gq2 SS0 := by unfold RunB; kernel_rfl
theorem run3 : RunB mq0 nq3 SS3 gq3 SS0 := by unfold RunB; kernel_rfl
theorem run4 : RunB mq0 nq4 SS4 gq4 SS0 := by unfold RunB; kernel_rfl
theorem run5 : RunB mq1 nq5 SS5 gq5 SS1 := by unfold RunB; kernel_rfl
theorem run6 : RunB mq1 nq6 SS5 gq6 SS1 := by unfold RunB; kernel_rfl
theorem run7 : RunB mq2 nq7 SS6 gq7 SS1 := by unfold RunB; kernel_rfl
theorem run8 : RunB mq2 nq8 SS7 gq8 SS1 := by unfold RunB; kernel_rfl
theorem run9 : RunB mq2 nq9 SS8 gq9 SS1 := by unfold RunB; kernel_rfl
theorem run10 : RunB mq3 nq5 SS6 gq5 SS2 := by unfold RunB; kernel_rfl
theorem run11 : RunB mq3 nq6 SS6 gq6 SS2 := by unfold RunB; kernel_rfl
theorem run12 : RunB mq1 nq7 SS9 gq7 SS2 := by unfold RunB; kernel_rfl
theorem run13 : RunB mq2 nq8 SS10 gq8 SS2 := by unfold RunB; kernel_rfl
theorem run14 : RunB mq2 nq9 SS11 gq9 SS2 := by unfold RunB; kernel_rfl
theorem run15 : RunB mq3 nq5 SS7 gq5 SS3 := by unfold RunB; kernel_rfl
theorem run16 : RunB mq3 nq6 SS7 gq6 SS3 := by unfold RunB; kernel_rfl
theorem run17 : RunB mq3 nq7 SS10 gq7 SS3 := by unfold RunB; kernel_rfl
theorem run18 : RunB mq1 nq8 SS12 gq8 SS3 := by unfold RunB; kernel_rfl
theorem run19 : RunB mq2 nq9 SS13 gq9 SS3 := by unfold RunB; kernel_rfl
theorem run20 : RunB mq3 nq5 SS8 gq5 SS4 := by unfold RunB; kernel_rfl
theorem run21 : RunB mq3 nq6 SS8 gq6 SS4 := by unfold RunB; kernel_rfl
theorem run22 : RunB mq3 nq7 SS11 gq7 SS4 := by unfold RunB; kernel_rfl
theorem run23 : RunB mq3 nq8 SS13 gq8 SS4 := by unfold RunB; kernel_rfl
theorem run24 : RunB mq1 nq9 SS14 gq9 SS4 := by unfold RunB; kernel_rfl
theorem run25 : RunB mq4 nq10 SS15 gq10 SS5 := by unfold RunB; kernel_rfl
theorem run26 : RunB mq4 nq11 SS15 gq11 SS5 := by unfold RunB; kernel_rfl
theorem run27 : RunB mq5 nq12 SS16 gq12 SS5 := by unfold RunB; kernel_rfl
theorem run28 : RunB mq5 nq13 SS17 gq13 SS5 := by unfold RunB; kernel_rfl
theorem run29 : RunB mq5 nq14 SS18 gq14 SS5 := by unfold RunB; kernel_rfl
theorem run30 : RunB mq6 nq10 SS19 gq10 SS6 := by unfold RunB; kernel_rfl
theorem run31 : RunB mq6 nq11 SS19 gq11 SS6 := by unfold RunB; kernel_rfl
theorem run32 : RunB mq6 nq12 SS19 gq12 SS6 := by unfold RunB; kernel_rfl
theorem run33 : RunB mq7 nq13 SS20 gq13 SS6 := by unfold RunB; kernel_rfl
theorem run34 : RunB mq7 nq14 SS21 gq14 SS6 := by unfold RunB; kernel_rfl
theorem run35 : RunB mq6 nq10 SS22 gq10 SS7 := by unfold RunB; kernel_rfl
theorem run36 : RunB mq6 nq11 SS22 gq11 SS7 := by unfold RunB; kernel_rfl
theorem run37 : RunB mq8 nq12 SS20 gq12 SS7 := by unfold RunB; kernel_rfl
theorem run38 : RunB mq6 nq13 SS22 gq13 SS7 := by unfold RunB; kernel_rfl
theorem run39 : RunB mq7 nq14 SS23 gq14 SS7 := by unfold RunB; kernel_rfl
theorem run40 : RunB mq6 nq10 SS24 gq10 SS8 := by unfold RunB; kernel_rfl
theorem run41 : RunB mq6 nq11 SS24 gq11 SS8 := by unfold RunB; kernel_rfl
theorem run42 : RunB mq8 nq12 SS21 gq12 SS8 := by unfold RunB; kernel_rfl
theorem run43 : RunB mq8 nq13 SS23 gq13 SS8 := by unfold RunB; kernel_rfl
end Go.Proofs.YtpnlcoolbimmjaaGreat
