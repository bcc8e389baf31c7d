/-
  KernelFlushes: runs, part 2.
-/
import Derived.Test.YtpnlcoolbimmjaaGreatFS
import Derived.KernelRfl
namespace Go.Proofs.YtpnlcoolbimmjaaGreat
open Go.RowKit
set_option maxRecDepth 100000
set_option linter.unusedVariables false
theorem run88 : RunB mq12 nq18 SS42 gq18 SS17 := by unfold RunB; kernel_rfl
theorem run89 : RunB mq13 nq19 SS43 gq19 SS17 := by unfold RunB; kernel_rfl
theorem run90 : RunB mq12 nq15 SS44 gq15 SS18 := by unfold RunB; kernel_rfl
theorem run91 : RunB mq12 nq16 SS44 gq16 SS18 := by unfold RunB; kernel_rfl
theorem run92 : RunB mq14 nq17 SS41 gq17 SS18 := by unfold RunB; kernel_rfl
theorem run93 : RunB mq14 nq18 SS43 gq18 SS18 := by unfold RunB; kernel_rfl
theorem run94 : RunB mq12 nq19 SS44 gq19 SS18 := by unfold RunB; kernel_rfl
theorem run95 : RunB mq12 nq15 SS45 gq15 SS19 := by unfold RunB; kernel_rfl
theorem run96 : RunB mq12 nq16 SS45 gq16 SS19 := by unfold RunB; kernel_rfl
theorem run97 : RunB mq12 nq17 SS45 gq17 SS19 := by unfold RunB; kernel_rfl
theorem run98 : RunB mq13 nq18 SS46 gq18 SS19 := by unfold RunB; kernel_rfl
theorem run99 : RunB mq13 nq19 SS47 gq19 SS19 := by unfold RunB; kernel_rfl
theorem run100 : RunB mq15 nq15 SS48 gq15 SS20 := by unfold RunB; kernel_rfl
theorem run101 : RunB mq15 nq16 SS48 gq16 SS20 := by unfold RunB; kernel_rfl
theorem run102 : RunB mq15 nq17 SS48 gq17 SS20 := by unfold RunB; kernel_rfl
theorem run103 : RunB mq15 nq18 SS48 gq18 SS20 := by unfold RunB; kernel_rfl
theorem run104 : RunB mq16 nq19 SS49 gq19 SS20 := by unfold RunB; kernel_rfl
theorem run105 : RunB mq15 nq15 SS50 gq15 SS21 := by unfold RunB; kernel_rfl
theorem run106 : RunB mq15 nq16 SS50 gq16 SS21 := by unfold RunB; kernel_rfl
theorem run107 : RunB mq15 nq17 SS50 gq17 SS21 := by unfold RunB; kernel_rfl
theorem run108 : RunB mq17 nq18 SS49 gq18 SS21 := by unfold RunB; kernel_rfl
theorem run109 : RunB mq15 nq19 SS50 gq19 SS21 := by unfold RunB; kernel_rfl
theorem run110 : RunB mq12 nq15 SS51 gq15 SS22 := by unfold RunB; kernel_rfl
theorem run111 : RunB mq12 nq16 SS51 gq16 SS22 := by unfold RunB; kernel_rfl
theorem run112 : RunB mq14 nq17 SS46 gq17 SS22 := by unfold RunB; kernel_rfl
theorem run113 : RunB mq12 nq18 SS51 gq18 SS22 := by unfold RunB; kernel_rfl
theorem run114 : RunB mq13 nq19 SS52 gq19 SS22 := by unfold RunB; kernel_rfl
theorem run115 : RunB mq15 nq15 SS53 gq15 SS23 := by unfold RunB; kernel_rfl
theorem run116 : RunB mq15 nq16 SS53 gq16 SS23 := by unfold RunB; kernel_rfl
theorem run117 : RunB mq18 nq17 SS49 gq17 SS23 := by unfold RunB; kernel_rfl
theorem run118 : RunB mq15 nq18 SS53 gq18 SS23 := by unfold RunB; kernel_rfl
theorem run119 : RunB mq15 nq19 SS53 gq19 SS23 := by unfold RunB; kernel_rfl
theorem run120 : RunB mq12 nq15 SS54 gq15 SS24 := by unfold RunB; kernel_rfl
theorem run121 : RunB mq12 nq16 SS54 gq16 SS24 := by unfold RunB; kernel_rfl
theorem run122 : RunB mq14 nq17 SS47 gq17 SS24 := by unfold RunB; kernel_rfl
theorem run123 : RunB mq14 nq18 SS52 gq18 SS24 := by unfold RunB; kernel_rfl
theorem run124 : RunB mq12 nq19 SS54 gq19 SS24 := by unfold RunB; kernel_rfl
theorem run125 : RunB mq19 nq15 SS36 gq15 SS25 := by unfold RunB; kernel_rfl
theorem run126 : RunB mq19 nq16 SS36 gq16 SS25 := by unfold RunB; kernel_rfl
theorem run127 : RunB mq10 nq17 SS55 gq17 SS25 := by unfold RunB; kernel_rfl
theorem run128 : RunB mq11 nq18 SS56 gq18 SS25 := by unfold RunB; kernel_rfl
theorem run129 : RunB mq11 nq19 SS57 gq19 SS25 := by unfold RunB; kernel_rfl
theorem run130 : RunB mq14 nq15 SS40 gq15 SS26 := by unfold RunB; kernel_rfl
theorem run131 : RunB mq14 nq16 SS40 gq16 SS26 := by unfold RunB; kernel_rfl
end Go.Proofs.YtpnlcoolbimmjaaGreat
