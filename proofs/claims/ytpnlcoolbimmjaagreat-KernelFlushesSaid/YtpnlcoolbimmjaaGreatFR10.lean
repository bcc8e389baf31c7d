/-
  KernelFlushes: runs, part 10.
-/
import Derived.Test.YtpnlcoolbimmjaaGreatFS
import Derived.KernelRfl
namespace Go.Proofs.YtpnlcoolbimmjaaGreat
open Go.RowKit
set_option maxRecDepth 100000
set_option linter.unusedVariables false
theorem fin90 : RunE gq28 true SS46 := by unfold RunE; kernel_rfl
theorem fin91 : RunE gq28 false SS46 := by unfold RunE; kernel_rfl
theorem fin92 : RunE gq28 true SS47 := by unfold RunE; kernel_rfl
theorem fin93 : RunE gq28 false SS47 := by unfold RunE; kernel_rfl
theorem fin94 : RunE gq28 true SS48 := by unfold RunE; kernel_rfl
theorem fin95 : RunE gq28 false SS48 := by unfold RunE; kernel_rfl
theorem fin96 : RunE gq28 true SS49 := by unfold RunE; kernel_rfl
theorem fin97 : RunE gq28 false SS49 := by unfold RunE; kernel_rfl
theorem fin98 : RunE gq28 true SS50 := by unfold RunE; kernel_rfl
theorem fin99 : RunE gq28 false SS50 := by unfold RunE; kernel_rfl
theorem fin100 : RunE gq28 true SS51 := by unfold RunE; kernel_rfl
theorem fin101 : RunE gq28 false SS51 := by unfold RunE; kernel_rfl
theorem fin102 : RunE gq28 true SS52 := by unfold RunE; kernel_rfl
theorem fin103 : RunE gq28 false SS52 := by unfold RunE; kernel_rfl
theorem fin104 : RunE gq28 true SS53 := by unfold RunE; kernel_rfl
theorem fin105 : RunE gq28 false SS53 := by unfold RunE; kernel_rfl
theorem fin106 : RunE gq28 true SS54 := by unfold RunE; kernel_rfl
theorem fin107 : RunE gq28 false SS54 := by unfold RunE; kernel_rfl
theorem fin108 : RunE gq28 true SS55 := by unfold RunE; kernel_rfl
theorem fin109 : RunE gq28 false SS55 := by unfold RunE; kernel_rfl
theorem fin110 : RunE gq28 true SS56 := by unfold RunE; kernel_rfl
theorem fin111 : RunE gq28 false SS56 := by unfold RunE; kernel_rfl
theorem fin112 : RunE gq28 true SS57 := by unfold RunE; kernel_rfl
theorem fin113 : RunE gq28 false SS57 := by unfold RunE; kernel_rfl
theorem fin114 : RunE gq28 true SS58 := by unfold RunE; kernel_rfl
theorem fin115 : RunE gq28 false SS58 := by unfold RunE; kernel_rfl
theorem fin116 : RunE gq28 true SS59 := by unfold RunE; kernel_rfl
theorem fin117 : RunE gq28 false SS59 := by unfold RunE; kernel_rfl
theorem fin118 : RunE gq28 true SS60 := by unfold RunE; kernel_rfl
theorem fin119 : RunE gq28 false SS60 := by unfold RunE; kernel_rfl
theorem fin120 : RunE gq28 true SS61 := by unfold RunE; kernel_rfl
theorem fin121 : RunE gq28 false SS61 := by unfold RunE; kernel_rfl
theorem fin122 : RunE gq28 true SS62 := by unfold RunE; kernel_rfl
theorem fin123 : RunE gq28 false SS62 := by unfold RunE; kernel_rfl
theorem fin124 : RunE gq28 true SS63 := by unfold RunE; kernel_rfl
theorem fin125 : RunE gq28 false SS63 := by unfold RunE; kernel_rfl
theorem fin126 : RunE gq28 true SS64 := by unfold RunE; kernel_rfl
theorem fin127 : RunE gq28 false SS64 := by unfold RunE; kernel_rfl
theorem fin128 : RunE gq28 true SS65 := by unfold RunE; kernel_rfl
theorem fin129 : RunE gq28 false SS65 := by unfold RunE; kernel_rfl
theorem fin130 : RunE gq28 true SS66 := by unfold RunE; kernel_rfl
theorem fin131 : RunE gq28 false SS66 := by unfold RunE; kernel_rfl
theorem fin132 : RunE gq28 true SS67 := by unfold RunE; kernel_rfl
theorem fin133 : RunE gq28 false SS67 := by unfold RunE; kernel_rfl
end Go.Proofs.YtpnlcoolbimmjaaGreat
