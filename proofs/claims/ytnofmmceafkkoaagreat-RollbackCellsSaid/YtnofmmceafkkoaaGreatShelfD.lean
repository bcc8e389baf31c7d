/-
  The shelf's contract of slices.DeleteFunc at []int, laid by hand.
-/
import Derived.Shelf.SlicesE.DeleteFunc
import Derived.Test.YtnofmmceafkkoaaGreatProg
set_option linter.unusedSimpArgs false
set_option linter.unusedVariables false
namespace Go.Proofs
open Go.Shelf
def Tryz.l10_ren : Go.Shelf.Ren := ⟨fun | 6 => 145 | 10 => 88 | n => n, fun | 22 => 62 | 23 => 3 | 25 => 137 | n => n, fun | n => n⟩
theorem Tryz.l10 : SlLaysH.n10 Tryz.prog Tryz.l10_ren := {
  mixed := by kernel_rfl
  f6 := ⟨"slices.IndexFunc[[]int,int]", by kernel_rfl, Tryz.func145.trans (congrArg some (by kernel_rfl))⟩
  f10 := ⟨"slices.DeleteFunc[[]int,int]", by kernel_rfl, Tryz.func88.trans (congrArg some (by kernel_rfl))⟩
  t0 := Tryz.underlying0
  a0 := Tryz.isAgg0
  z0 := Tryz.sizeOf0
  v0 := Tryz.zeroValue0
  t3 := Tryz.underlying3
  a3 := Tryz.isAgg3
  z3 := Tryz.sizeOf3
  v3 := Tryz.zeroValue3
  t4 := Tryz.underlying4
  a4 := Tryz.isAgg4
  z4 := Tryz.sizeOf4
  v4 := Tryz.zeroValue4
  t22 := Tryz.underlying62
  a22 := Tryz.isAgg62
  z22 := Tryz.sizeOf62
  v22 := Tryz.zeroValue62
  a23 := Tryz.isAgg3
  z23 := Tryz.sizeOf3
  t25 := Tryz.underlying137
  a25 := Tryz.isAgg137
  z25 := Tryz.sizeOf137
  v25 := Tryz.zeroValue137 }
end Go.Proofs
