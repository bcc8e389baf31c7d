/-
  KernelFlushes: its tables.
-/
import Derived.Test.YtpecbnkhppglkaaGreatKF0
import Derived.Test.YtpecbnkhppglkaaGreatKF1
import Derived.Test.YtpecbnkhppglkaaGreatNat1
import Derived.Test.YtpecbnkhppglkaaGreatSymA
import Derived.Test.YtpecbnkhppglkaaGreatInsN
import Derived.Test.YtpecbnkhppglkaaGreatTabN
import Derived.Test.YtpecbnkhppglkaaGreatTriC
import Derived.KernelRfl
namespace Go.Proofs.YtpecbnkhppglkaaGreat
open Go.RowKit
set_option maxRecDepth 100000
set_option quotPrecheck false
local notation:max "B00b" => ⟨.x0, .x0, .xb⟩
local notation:max "B01f" => ⟨.x0, .x1, .xf⟩
local notation:max "B020" => ⟨.x0, .x2, .x0⟩
local notation:max "B021" => ⟨.x0, .x2, .x1⟩
local notation:max "B022" => ⟨.x0, .x2, .x2⟩
local notation:max "B023" => ⟨.x0, .x2, .x3⟩
local notation:max "B024" => ⟨.x0, .x2, .x4⟩
local notation:max "B02c" => ⟨.x0, .x2, .xc⟩
local notation:max "B02f" => ⟨.x0, .x2, .xf⟩
local notation:max "B037" => ⟨.x0, .x3, .x7⟩
local notation:max "B038" => ⟨.x0, .x3, .x8⟩
local notation:max "B039" => ⟨.x0, .x3, .x9⟩
local notation:max "B044" => ⟨.x0, .x4, .x4⟩
local notation:max "B045" => ⟨.x0, .x4, .x5⟩
local notation:max "B04e" => ⟨.x0, .x4, .xe⟩
local notation:max "B05a" => ⟨.x0, .x5, .xa⟩
local notation:max "B05b" => ⟨.x0, .x5, .xb⟩
local notation:max "B05c" => ⟨.x0, .x5, .xc⟩
local notation:max "B05d" => ⟨.x0, .x5, .xd⟩
local notation:max "B05e" => ⟨.x0, .x5, .xe⟩
local notation:max "B05f" => ⟨.x0, .x5, .xf⟩
local notation:max "B060" => ⟨.x0, .x6, .x0⟩
local notation:max "B061" => ⟨.x0, .x6, .x1⟩
local notation:max "B062" => ⟨.x0, .x6, .x2⟩
local notation:max "B063" => ⟨.x0, .x6, .x3⟩
local notation:max "B064" => ⟨.x0, .x6, .x4⟩
local notation:max "B065" => ⟨.x0, .x6, .x5⟩
local notation:max "B066" => ⟨.x0, .x6, .x6⟩
local notation:max "B067" => ⟨.x0, .x6, .x7⟩
local notation:max "B078" => ⟨.x0, .x7, .x8⟩
local notation:max "B079" => ⟨.x0, .x7, .x9⟩
local notation:max "B07a" => ⟨.x0, .x7, .xa⟩
local notation:max "B07b" => ⟨.x0, .x7, .xb⟩
local notation:max "B07c" => ⟨.x0, .x7, .xc⟩
local notation:max "B07d" => ⟨.x0, .x7, .xd⟩
local notation:max "B07e" => ⟨.x0, .x7, .xe⟩
local notation:max "B07f" => ⟨.x0, .x7, .xf⟩
local notation:max "B080" => ⟨.x0, .x8, .x0⟩
local notation:max "B081" => ⟨.x0, .x8, .x1⟩
local notation:max "B082" => ⟨.x0, .x8, .x2⟩
local notation:max "B08a" => ⟨.x0, .x8, .xa⟩
local notation:max "B08b" => ⟨.x0, .x8, .xb⟩
local notation:max "B08c" => ⟨.x0, .x8, .xc⟩
local notation:max "B08d" => ⟨.x0, .x8, .xd⟩
local notation:max "B08f" => ⟨.x0, .x8, .xf⟩
local notation:max "B090" => ⟨.x0, .x9, .x0⟩
local notation:max "B091" => ⟨.x0, .x9, .x1⟩
local notation:max "B092" => ⟨.x0, .x9, .x2⟩
local notation:max "B0a5" => ⟨.x0, .xa, .x5⟩
local notation:max "B0a8" => ⟨.x0, .xa, .x8⟩
local notation:max "B0b3" => ⟨.x0, .xb, .x3⟩
local notation:max "B0b4" => ⟨.x0, .xb, .x4⟩
local notation:max "B0b5" => ⟨.x0, .xb, .x5⟩
local notation:max "B0b7" => ⟨.x0, .xb, .x7⟩
local notation:max "B0bd" => ⟨.x0, .xb, .xd⟩
local notation:max "B0bf" => ⟨.x0, .xb, .xf⟩
local notation:max "B0c0" => ⟨.x0, .xc, .x0⟩
local notation:max "B0c1" => ⟨.x0, .xc, .x1⟩
local notation:max "B0c2" => ⟨.x0, .xc, .x2⟩
local notation:max "B0c3" => ⟨.x0, .xc, .x3⟩
local notation:max "B0c4" => ⟨.x0, .xc, .x4⟩
local notation:max "B0c5" => ⟨.x0, .xc, .x5⟩
local notation:max "B0c6" => ⟨.x0, .xc, .x6⟩
local notation:max "B0c7" => ⟨.x0, .xc, .x7⟩
local notation:max "B0c8" => ⟨.x0, .xc, .x8⟩
local notation:max "B0c9" => ⟨.x0, .xc, .x9⟩
local notation:max "B0ca" => ⟨.x0, .xc, .xa⟩
local notation:max "B0cd" => ⟨.x0, .xc, .xd⟩
local notation:max "B0ce" => ⟨.x0, .xc, .xe⟩
local notation:max "B0cf" => ⟨.x0, .xc, .xf⟩
local notation:max "B0d1" => ⟨.x0, .xd, .x1⟩
local notation:max "B0d3" => ⟨.x0, .xd, .x3⟩
local notation:max "B0d4" => ⟨.x0, .xd, .x4⟩
local notation:max "B0e4" => ⟨.x0, .xe, .x4⟩
local notation:max "B0e5" => ⟨.x0, .xe, .x5⟩
local notation:max "B0e6" => ⟨.x0, .xe, .x6⟩
local notation:max "B0e7" => ⟨.x0, .xe, .x7⟩
local notation:max "B0e8" => ⟨.x0, .xe, .x8⟩
local notation:max "B0e9" => ⟨.x0, .xe, .x9⟩
local notation:max "B0ea" => ⟨.x0, .xe, .xa⟩
local notation:max "B0eb" => ⟨.x0, .xe, .xb⟩
local notation:max "B0ec" => ⟨.x0, .xe, .xc⟩
local notation:max "B0f4" => ⟨.x0, .xf, .x4⟩
local notation:max "B0f5" => ⟨.x0, .xf, .x5⟩
local notation:max "B0f6" => ⟨.x0, .xf, .x6⟩
local notation:max "B0f7" => ⟨.x0, .xf, .x7⟩
local notation:max "B0f8" => ⟨.x0, .xf, .x8⟩
local notation:max "B0f9" => ⟨.x0, .xf, .x9⟩
local notation:max "B0fa" => ⟨.x0, .xf, .xa⟩
local notation:max "B10f" => ⟨.x1, .x0, .xf⟩
local notation:max "B11a" => ⟨.x1, .x1, .xa⟩
local notation:max "B11c" => ⟨.x1, .x1, .xc⟩
local notation:max "B11f" => ⟨.x1, .x1, .xf⟩
local notation:max "B120" => ⟨.x1, .x2, .x0⟩
local notation:max "B121" => ⟨.x1, .x2, .x1⟩
local notation:max "B124" => ⟨.x1, .x2, .x4⟩
local notation:max "B126" => ⟨.x1, .x2, .x6⟩
local notation:max "B127" => ⟨.x1, .x2, .x7⟩
local notation:max "B128" => ⟨.x1, .x2, .x8⟩
local notation:max "B129" => ⟨.x1, .x2, .x9⟩
local notation:max "B12a" => ⟨.x1, .x2, .xa⟩
local notation:max "B12b" => ⟨.x1, .x2, .xb⟩
local notation:max "B12c" => ⟨.x1, .x2, .xc⟩
local notation:max "B131" => ⟨.x1, .x3, .x1⟩
local notation:max "B133" => ⟨.x1, .x3, .x3⟩
local notation:max "B134" => ⟨.x1, .x3, .x4⟩
local notation:max "B13c" => ⟨.x1, .x3, .xc⟩
local notation:max "B13d" => ⟨.x1, .x3, .xd⟩
local notation:max "B13e" => ⟨.x1, .x3, .xe⟩
local notation:max "B13f" => ⟨.x1, .x3, .xf⟩
local notation:max "B140" => ⟨.x1, .x4, .x0⟩
local notation:max "B144" => ⟨.x1, .x4, .x4⟩
local notation:max "B145" => ⟨.x1, .x4, .x5⟩
local notation:max "B14d" => ⟨.x1, .x4, .xd⟩
local notation:max "B14e" => ⟨.x1, .x4, .xe⟩
local notation:max "B151" => ⟨.x1, .x5, .x1⟩
local notation:max "B152" => ⟨.x1, .x5, .x2⟩
local notation:max "B153" => ⟨.x1, .x5, .x3⟩
local notation:max "B16f" => ⟨.x1, .x6, .xf⟩
local notation:max "B178" => ⟨.x1, .x7, .x8⟩
local notation:max "B17a" => ⟨.x1, .x7, .xa⟩
local notation:max "B185" => ⟨.x1, .x8, .x5⟩
local notation:max "B186" => ⟨.x1, .x8, .x6⟩
local notation:max "B18a" => ⟨.x1, .x8, .xa⟩
local notation:max "B18d" => ⟨.x1, .x8, .xd⟩
local notation:max "B191" => ⟨.x1, .x9, .x1⟩
local notation:max "B193" => ⟨.x1, .x9, .x3⟩
local notation:max "I0" => (Int.ofNat (nat_lit 0))
local notation:max "I1" => (Int.ofNat (nat_lit 1))
local notation:max "I2" => (Int.ofNat (nat_lit 2))
local notation:max "I3" => (Int.ofNat (nat_lit 3))
local notation:max "I4" => (Int.ofNat (nat_lit 4))
local notation:max "I5" => (Int.ofNat (nat_lit 5))
local notation:max "I6" => (Int.ofNat (nat_lit 6))
local notation:max "I60" => (Int.ofNat (nat_lit 60))
local notation:max "I7" => (Int.ofNat (nat_lit 7))
local notation:max "N10" => (nat_lit 10)
local notation:max "N11" => (nat_lit 11)
local notation:max "N12" => (nat_lit 12)
local notation:max "N120" => (nat_lit 120)
local notation:max "N13" => (nat_lit 13)
local notation:max "N14" => (nat_lit 14)
local notation:max "N2" => (nat_lit 2)
local notation:max "N200" => (nat_lit 200)
local notation:max "N2000" => (nat_lit 2000)
local notation:max "N5" => (nat_lit 5)
local notation:max "N8000" => (nat_lit 8000)
local notation:max "N9" => (nat_lit 9)
local notation:max "Z0" => (.i .i64 (Int.ofNat (nat_lit 0)))
local notation:max "Z1" => (.i .i64 (Int.ofNat (nat_lit 1)))
local notation:max "Z2" => (.i .i64 (Int.ofNat (nat_lit 2)))
local notation:max "Z3" => (.i .i64 (Int.ofNat (nat_lit 3)))
local notation:max "Z4" => (.i .i64 (Int.ofNat (nat_lit 4)))
local notation:max "Z5" => (.i .i64 (Int.ofNat (nat_lit 5)))
local notation:max "Z6" => (.i .i64 (Int.ofNat (nat_lit 6)))
local notation:max "Z7" => (.i .i64 (Int.ofNat (nat_lit 7)))
set_option linter.unusedVariables false
def F0 : List Fact := [.rng (.v N10) I0 I3, .rng (.v N11) I0 I3, .rng (.v N12) I0 I3, .rng (.v N13) I0 I3, .rng (.v N14) I0 I3]
def FB : List Fact := [.rng (.f1 N5 (.v N9)) I0 I60, .rng (.v N2) I0 I60]
noncomputable def tblI : Tab := tabOf [(B0c1, c193), (B0c5, c197)]
theorem tblI_ok {E : Env} : TabOk Tryz.prog E tblI := (tab_cons (tab_cons tab_nil e197) e193)
noncomputable def ins193 : List AV → Hp → RO := natSplit (callBy tblI (aev Tryz.prog envI tblI N200)) B0c1
theorem ins193_ok {E : Env} : EntOk Tryz.prog E B0c1 (.natm ins193) := natSplit_ok (eval_ok tblI_ok mixed _) (e193 (E := envI)).1
noncomputable def ins197 : List AV → Hp → RO := natSplit (callBy tblI (aev Tryz.prog envI tblI N200)) B0c5
theorem ins197_ok {E : Env} : EntOk Tryz.prog E B0c5 (.natm ins197) := natSplit_ok (eval_ok tblI_ok mixed _) (e197 (E := envI)).1
def tab229 : List (List AC) := [[Z1, Z1, Z1, Z0, Z0, Z0, Z0, Z0, .b false, .s [], .b true, .s [N120], .s []],
 [Z1, Z1, Z1, Z0, Z0, Z0, Z0, Z1, .b false, .s [], .b true, .s [N120], .s []],
 [Z1, Z1, Z1, Z0, Z0, Z0, Z0, Z2, .b false, .s [], .b true, .s [N120], .s []],
 [Z1, Z1, Z1, Z0, Z0, Z0, Z0, Z3, .b false, .s [], .b true, .s [N120], .s []],
 [Z1, Z1, Z1, Z0, Z0, Z0, Z0, .si .i64 (.v N10), .b false, .s [], .b true, .s [N120], .s []],
 [Z2, Z1, Z1, Z1, Z1, Z0, Z0, Z0, .b true, .s [N120], .b true, .s [N120], .s []],
 [Z2, Z1, Z1, Z1, Z1, Z0, Z0, Z1, .b false, .s [], .b true, .s [N120], .s []],
 [Z2, Z1, Z1, Z1, Z1, Z0, Z0, Z2, .b false, .s [], .b true, .s [N120], .s []],
 [Z2, Z1, Z1, Z1, Z1, Z0, Z0, Z3, .b false, .s [], .b true, .s [N120], .s []],
 [Z2, Z1, Z1, Z1, Z1, Z0, Z0, Z0, .b false, .s [], .b true, .s [N120], .s []],
 [Z2, Z1, Z1, Z1, Z1, Z0, Z0, Z1, .b true, .s [N120], .b true, .s [N120], .s []],
 [Z2, Z1, Z1, Z1, Z1, Z0, Z0, Z2, .b true, .s [N120], .b true, .s [N120], .s []],
 [Z2, Z1, Z1, Z1, Z1, Z0, Z0, Z3, .b true, .s [N120], .b true, .s [N120], .s []],
 [Z2, Z1, Z1, Z1, Z1, Z0, Z0, .si .i64 (.v N11), .b true, .s [N120], .b true, .s [N120], .s []],
 [Z3, Z1, Z1, Z2, Z2, Z0, Z0, Z0, .b true, .s [N120], .b true, .s [N120], .s []],
 [Z3, Z1, Z1, Z2, Z2, Z0, Z0, Z1, .b false, .s [], .b true, .s [N120], .s []],
 [Z3, Z1, Z1, Z2, Z2, Z0, Z0, Z2, .b false, .s [], .b true, .s [N120], .s []],
 [Z3, Z1, Z1, Z2, Z2, Z0, Z0, Z3, .b false, .s [], .b true, .s [N120], .s []],
 [Z2, Z1, Z1, Z1, Z1, Z0, Z0, .si .i64 (.v N11), .b false, .s [], .b true, .s [N120], .s []],
 [Z3, Z1, Z1, Z2, Z2, Z0, Z0, Z1, .b true, .s [N120], .b true, .s [N120], .s []],
 [Z3, Z1, Z1, Z2, Z2, Z0, Z0, Z2, .b true, .s [N120], .b true, .s [N120], .s []],
 [Z3, Z1, Z1, Z2, Z2, Z0, Z0, Z3, .b true, .s [N120], .b true, .s [N120], .s []],
 [Z3, Z1, Z1, Z2, Z2, Z0, Z0, Z0, .b false, .s [], .b true, .s [N120], .s []],
 [Z3, Z1, Z1, Z2, Z2, Z0, Z0, .si .i64 (.v N12), .b true, .s [N120], .b true, .s [N120], .s []],
 [Z4, Z1, Z1, Z3, Z3, Z0, Z0, Z0, .b true, .s [N120], .b true, .s [N120], .s []],
 [Z4, Z1, Z1, Z3, Z3, Z0, Z0, Z1, .b false, .s [], .b true, .s [N120], .s []],
 [Z4, Z1, Z1, Z3, Z3, Z0, Z0, Z2, .b false, .s [], .b true, .s [N120], .s []],
 [Z4, Z1, Z1, Z3, Z3, Z0, Z0, Z3, .b false, .s [], .b true, .s [N120], .s []],
 [Z3, Z1, Z1, Z2, Z2, Z0, Z0, .si .i64 (.v N12), .b false, .s [], .b true, .s [N120], .s []],
 [Z4, Z1, Z1, Z3, Z3, Z0, Z0, Z1, .b true, .s [N120], .b true, .s [N120], .s []],
 [Z4, Z1, Z1, Z3, Z3, Z0, Z0, Z2, .b true, .s [N120], .b true, .s [N120], .s []],
 [Z4, Z1, Z1, Z3, Z3, Z0, Z0, Z3, .b true, .s [N120], .b true, .s [N120], .s []],
 [Z4, Z1, Z1, Z3, Z3, Z0, Z0, Z0, .b false, .s [], .b true, .s [N120], .s []],
 [Z4, Z1, Z1, Z3, Z3, Z0, Z0, .si .i64 (.v N13), .b true, .s [N120], .b true, .s [N120], .s []],
 [Z5, Z1, Z1, Z4, Z4, Z0, Z0, Z0, .b true, .s [N120], .b true, .s [N120], .s []],
 [Z5, Z1, Z1, Z4, Z4, Z0, Z0, Z1, .b false, .s [], .b true, .s [N120], .s []],
 [Z5, Z1, Z1, Z4, Z4, Z0, Z0, Z2, .b false, .s [], .b true, .s [N120], .s []],
 [Z5, Z1, Z1, Z4, Z4, Z0, Z0, Z3, .b false, .s [], .b true, .s [N120], .s []],
 [Z4, Z1, Z1, Z3, Z3, Z0, Z0, .si .i64 (.v N13), .b false, .s [], .b true, .s [N120], .s []],
 [Z5, Z1, Z1, Z4, Z4, Z0, Z0, Z1, .b true, .s [N120], .b true, .s [N120], .s []],
 [Z5, Z1, Z1, Z4, Z4, Z0, Z0, Z2, .b true, .s [N120], .b true, .s [N120], .s []],
 [Z5, Z1, Z1, Z4, Z4, Z0, Z0, Z3, .b true, .s [N120], .b true, .s [N120], .s []],
 [Z5, Z1, Z1, Z4, Z4, Z0, Z0, Z0, .b false, .s [], .b true, .s [N120], .s []],
 [Z2, Z1, Z1, Z1, Z1, Z0, Z0, Z1, .b false, .s [], .b false, .s [], .s []],
 [Z3, Z7, Z0, Z0, Z0, Z1, Z0, Z0, .b false, .s [], .b false, .s [], .s []],
 [Z2, Z7, Z0, Z0, Z0, Z1, Z0, Z0, .b false, .s [], .b false, .s [], .s []],
 [Z2, Z1, Z1, Z1, Z1, Z0, Z0, Z1, .b true, .s [N120], .b false, .s [], .s []],
 [Z3, Z1, Z1, Z2, Z2, Z0, Z0, Z1, .b false, .s [], .b false, .s [], .s []],
 [Z4, Z7, Z0, Z0, Z0, Z2, Z0, Z0, .b false, .s [], .b false, .s [], .s []],
 [Z3, Z7, Z0, Z0, Z0, Z2, Z0, Z0, .b false, .s [], .b false, .s [], .s []],
 [Z3, Z1, Z1, Z2, Z2, Z0, Z0, Z1, .b true, .s [N120], .b false, .s [], .s []],
 [Z4, Z1, Z1, Z3, Z3, Z0, Z0, Z1, .b false, .s [], .b false, .s [], .s []],
 [Z5, Z7, Z0, Z0, Z0, Z3, Z0, Z0, .b false, .s [], .b false, .s [], .s []],
 [Z4, Z7, Z0, Z0, Z0, Z3, Z0, Z0, .b false, .s [], .b false, .s [], .s []],
 [Z4, Z1, Z1, Z3, Z3, Z0, Z0, Z1, .b true, .s [N120], .b false, .s [], .s []],
 [Z5, Z1, Z1, Z4, Z4, Z0, Z0, Z1, .b false, .s [], .b false, .s [], .s []],
 [Z6, Z7, Z0, Z0, Z0, Z4, Z0, Z0, .b false, .s [], .b false, .s [], .s []],
 [Z5, Z7, Z0, Z0, Z0, Z4, Z0, Z0, .b false, .s [], .b false, .s [], .s []],
 [Z5, Z1, Z1, Z4, Z4, Z0, Z0, Z1, .b true, .s [N120], .b false, .s [], .s []],
 [Z5, Z1, Z1, Z4, Z4, Z0, Z0, .si .i64 (.v N14), .b true, .s [N120], .b true, .s [N120], .s []],
 [Z6, Z1, Z1, Z5, Z5, Z0, Z0, Z1, .b false, .s [], .b false, .s [], .s []],
 [Z7, Z7, Z0, Z0, Z0, Z5, Z0, Z0, .b false, .s [], .b false, .s [], .s []],
 [Z6, Z7, Z0, Z0, Z0, Z5, Z0, Z0, .b false, .s [], .b false, .s [], .s []],
 [Z5, Z1, Z1, Z4, Z4, Z0, Z0, .si .i64 (.v N14), .b false, .s [], .b true, .s [N120], .s []],
 [Z6, Z1, Z1, Z5, Z5, Z0, Z0, Z1, .b true, .s [N120], .b false, .s [], .s []]]
def tab230 : List (List AC) := [[Z0, Z0, .b false, .s [], .b false, .s [], .b false, .s [], .b false, .s [], .b false, .s [], .b false, .s [], .b false, .s [], .b false, .s [], .b false, .s [], .b false, .s [], .b false, .s [], .b false, .s [], .b false, .s [], .b false, .s [], .b false, .s [], .b false, .s []],
 [Z0, Z1, .b true, .s [N120], .b false, .s [], .b false, .s [], .b false, .s [], .b false, .s [], .b false, .s [], .b false, .s [], .b false, .s [], .b false, .s [], .b false, .s [], .b false, .s [], .b false, .s [], .b false, .s [], .b false, .s [], .b false, .s [], .b false, .s []],
 [Z0, Z1, .b false, .s [], .b true, .s [N120], .b false, .s [], .b false, .s [], .b false, .s [], .b false, .s [], .b false, .s [], .b false, .s [], .b false, .s [], .b false, .s [], .b false, .s [], .b false, .s [], .b false, .s [], .b false, .s [], .b false, .s [], .b false, .s []],
 [Z0, Z1, .b false, .s [], .b false, .s [], .b true, .s [N120], .b false, .s [], .b false, .s [], .b false, .s [], .b false, .s [], .b false, .s [], .b false, .s [], .b false, .s [], .b false, .s [], .b false, .s [], .b false, .s [], .b false, .s [], .b false, .s [], .b false, .s []],
 [Z0, Z1, .b false, .s [], .b false, .s [], .b false, .s [], .b true, .s [N120], .b false, .s [], .b false, .s [], .b false, .s [], .b false, .s [], .b false, .s [], .b false, .s [], .b false, .s [], .b false, .s [], .b false, .s [], .b false, .s [], .b false, .s [], .b false, .s []],
 [Z0, Z2, .b true, .s [N120], .b false, .s [], .b false, .s [], .b false, .s [], .b false, .s [], .b false, .s [], .b false, .s [], .b false, .s [], .b false, .s [], .b false, .s [], .b false, .s [], .b false, .s [], .b false, .s [], .b false, .s [], .b false, .s [], .b false, .s []],
 [Z0, Z2, .b true, .s [N120], .b true, .s [N120], .b false, .s [], .b false, .s [], .b false, .s [], .b false, .s [], .b false, .s [], .b false, .s [], .b false, .s [], .b false, .s [], .b false, .s [], .b false, .s [], .b false, .s [], .b false, .s [], .b false, .s [], .b false, .s []],
 [Z0, Z2, .b true, .s [N120], .b false, .s [], .b true, .s [N120], .b false, .s [], .b false, .s [], .b false, .s [], .b false, .s [], .b false, .s [], .b false, .s [], .b false, .s [], .b false, .s [], .b false, .s [], .b false, .s [], .b false, .s [], .b false, .s [], .b false, .s []],
 [Z0, Z2, .b true, .s [N120], .b false, .s [], .b false, .s [], .b true, .s [N120], .b false, .s [], .b false, .s [], .b false, .s [], .b false, .s [], .b false, .s [], .b false, .s [], .b false, .s [], .b false, .s [], .b false, .s [], .b false, .s [], .b false, .s [], .b false, .s []],
 [Z0, Z2, .b false, .s [], .b true, .s [N120], .b false, .s [], .b false, .s [], .b false, .s [], .b false, .s [], .b false, .s [], .b false, .s [], .b false, .s [], .b false, .s [], .b false, .s [], .b false, .s [], .b false, .s [], .b false, .s [], .b false, .s [], .b false, .s []],
 [Z0, Z2, .b false, .s [], .b true, .s [N120], .b true, .s [N120], .b false, .s [], .b false, .s [], .b false, .s [], .b false, .s [], .b false, .s [], .b false, .s [], .b false, .s [], .b false, .s [], .b false, .s [], .b false, .s [], .b false, .s [], .b false, .s [], .b false, .s []],
 [Z0, Z2, .b false, .s [], .b true, .s [N120], .b false, .s [], .b true, .s [N120], .b false, .s [], .b false, .s [], .b false, .s [], .b false, .s [], .b false, .s [], .b false, .s [], .b false, .s [], .b false, .s [], .b false, .s [], .b false, .s [], .b false, .s [], .b false, .s []],
 [Z0, Z2, .b false, .s [], .b false, .s [], .b true, .s [N120], .b false, .s [], .b false, .s [], .b false, .s [], .b false, .s [], .b false, .s [], .b false, .s [], .b false, .s [], .b false, .s [], .b false, .s [], .b false, .s [], .b false, .s [], .b false, .s [], .b false, .s []],
 [Z0, Z2, .b false, .s [], .b false, .s [], .b true, .s [N120], .b true, .s [N120], .b false, .s [], .b false, .s [], .b false, .s [], .b false, .s [], .b false, .s [], .b false, .s [], .b false, .s [], .b false, .s [], .b false, .s [], .b false, .s [], .b false, .s [], .b false, .s []],
 [Z0, Z2, .b false, .s [], .b false, .s [], .b false, .s [], .b true, .s [N120], .b false, .s [], .b false, .s [], .b false, .s [], .b false, .s [], .b false, .s [], .b false, .s [], .b false, .s [], .b false, .s [], .b false, .s [], .b false, .s [], .b false, .s [], .b false, .s []],
 [Z0, Z3, .b true, .s [N120], .b false, .s [], .b false, .s [], .b false, .s [], .b false, .s [], .b false, .s [], .b false, .s [], .b false, .s [], .b false, .s [], .b false, .s [], .b false, .s [], .b false, .s [], .b false, .s [], .b false, .s [], .b false, .s [], .b false, .s []],
 [Z0, Z3, .b true, .s [N120], .b true, .s [N120], .b false, .s [], .b false, .s [], .b false, .s [], .b false, .s [], .b false, .s [], .b false, .s [], .b false, .s [], .b false, .s [], .b false, .s [], .b false, .s [], .b false, .s [], .b false, .s [], .b false, .s [], .b false, .s []],
 [Z0, Z3, .b true, .s [N120], .b false, .s [], .b true, .s [N120], .b false, .s [], .b false, .s [], .b false, .s [], .b false, .s [], .b false, .s [], .b false, .s [], .b false, .s [], .b false, .s [], .b false, .s [], .b false, .s [], .b false, .s [], .b false, .s [], .b false, .s []],
 [Z0, Z3, .b true, .s [N120], .b false, .s [], .b false, .s [], .b true, .s [N120], .b false, .s [], .b false, .s [], .b false, .s [], .b false, .s [], .b false, .s [], .b false, .s [], .b false, .s [], .b false, .s [], .b false, .s [], .b false, .s [], .b false, .s [], .b false, .s []],
 [Z0, Z3, .b true, .s [N120], .b true, .s [N120], .b true, .s [N120], .b false, .s [], .b false, .s [], .b false, .s [], .b false, .s [], .b false, .s [], .b false, .s [], .b false, .s [], .b false, .s [], .b false, .s [], .b false, .s [], .b false, .s [], .b false, .s [], .b false, .s []],
 [Z0, Z3, .b true, .s [N120], .b true, .s [N120], .b false, .s [], .b true, .s [N120], .b false, .s [], .b false, .s [], .b false, .s [], .b false, .s [], .b false, .s [], .b false, .s [], .b false, .s [], .b false, .s [], .b false, .s [], .b false, .s [], .b false, .s [], .b false, .s []],
 [Z0, Z3, .b true, .s [N120], .b false, .s [], .b true, .s [N120], .b true, .s [N120], .b false, .s [], .b false, .s [], .b false, .s [], .b false, .s [], .b false, .s [], .b false, .s [], .b false, .s [], .b false, .s [], .b false, .s [], .b false, .s [], .b false, .s [], .b false, .s []],
 [Z0, Z3, .b false, .s [], .b true, .s [N120], .b false, .s [], .b false, .s [], .b false, .s [], .b false, .s [], .b false, .s [], .b false, .s [], .b false, .s [], .b false, .s [], .b false, .s [], .b false, .s [], .b false, .s [], .b false, .s [], .b false, .s [], .b false, .s []],
 [Z0, Z3, .b false, .s [], .b true, .s [N120], .b true, .s [N120], .b false, .s [], .b false, .s [], .b false, .s [], .b false, .s [], .b false, .s [], .b false, .s [], .b false, .s [], .b false, .s [], .b false, .s [], .b false, .s [], .b false, .s [], .b false, .s [], .b false, .s []],
 [Z0, Z3, .b false, .s [], .b true, .s [N120], .b false, .s [], .b true, .s [N120], .b false, .s [], .b false, .s [], .b false, .s [], .b false, .s [], .b false, .s [], .b false, .s [], .b false, .s [], .b false, .s [], .b false, .s [], .b false, .s [], .b false, .s [], .b false, .s []],
 [Z0, Z3, .b false, .s [], .b true, .s [N120], .b true, .s [N120], .b true, .s [N120], .b false, .s [], .b false, .s [], .b false, .s [], .b false, .s [], .b false, .s [], .b false, .s [], .b false, .s [], .b false, .s [], .b false, .s [], .b false, .s [], .b false, .s [], .b false, .s []],
 [Z0, Z3, .b false, .s [], .b false, .s [], .b true, .s [N120], .b false, .s [], .b false, .s [], .b false, .s [], .b false, .s [], .b false, .s [], .b false, .s [], .b false, .s [], .b false, .s [], .b false, .s [], .b false, .s [], .b false, .s [], .b false, .s [], .b false, .s []],
 [Z0, Z3, .b false, .s [], .b false, .s [], .b true, .s [N120], .b true, .s [N120], .b false, .s [], .b false, .s [], .b false, .s [], .b false, .s [], .b false, .s [], .b false, .s [], .b false, .s [], .b false, .s [], .b false, .s [], .b false, .s [], .b false, .s [], .b false, .s []],
 [Z0, Z3, .b false, .s [], .b false, .s [], .b false, .s [], .b true, .s [N120], .b false, .s [], .b false, .s [], .b false, .s [], .b false, .s [], .b false, .s [], .b false, .s [], .b false, .s [], .b false, .s [], .b false, .s [], .b false, .s [], .b false, .s [], .b false, .s []],
 [Z0, Z4, .b true, .s [N120], .b false, .s [], .b false, .s [], .b false, .s [], .b false, .s [], .b false, .s [], .b false, .s [], .b false, .s [], .b false, .s [], .b false, .s [], .b false, .s [], .b false, .s [], .b false, .s [], .b false, .s [], .b false, .s [], .b false, .s []],
 [Z0, Z4, .b true, .s [N120], .b true, .s [N120], .b false, .s [], .b false, .s [], .b false, .s [], .b false, .s [], .b false, .s [], .b false, .s [], .b false, .s [], .b false, .s [], .b false, .s [], .b false, .s [], .b false, .s [], .b false, .s [], .b false, .s [], .b false, .s []],
 [Z0, Z4, .b true, .s [N120], .b false, .s [], .b true, .s [N120], .b false, .s [], .b false, .s [], .b false, .s [], .b false, .s [], .b false, .s [], .b false, .s [], .b false, .s [], .b false, .s [], .b false, .s [], .b false, .s [], .b false, .s [], .b false, .s [], .b false, .s []],
 [Z0, Z4, .b true, .s [N120], .b false, .s [], .b false, .s [], .b true, .s [N120], .b false, .s [], .b false, .s [], .b false, .s [], .b false, .s [], .b false, .s [], .b false, .s [], .b false, .s [], .b false, .s [], .b false, .s [], .b false, .s [], .b false, .s [], .b false, .s []],
 [Z0, Z4, .b true, .s [N120], .b true, .s [N120], .b true, .s [N120], .b false, .s [], .b false, .s [], .b false, .s [], .b false, .s [], .b false, .s [], .b false, .s [], .b false, .s [], .b false, .s [], .b false, .s [], .b false, .s [], .b false, .s [], .b false, .s [], .b false, .s []],
 [Z0, Z4, .b true, .s [N120], .b true, .s [N120], .b false, .s [], .b true, .s [N120], .b false, .s [], .b false, .s [], .b false, .s [], .b false, .s [], .b false, .s [], .b false, .s [], .b false, .s [], .b false, .s [], .b false, .s [], .b false, .s [], .b false, .s [], .b false, .s []],
 [Z0, Z4, .b true, .s [N120], .b false, .s [], .b true, .s [N120], .b true, .s [N120], .b false, .s [], .b false, .s [], .b false, .s [], .b false, .s [], .b false, .s [], .b false, .s [], .b false, .s [], .b false, .s [], .b false, .s [], .b false, .s [], .b false, .s [], .b false, .s []],
 [Z0, Z4, .b true, .s [N120], .b true, .s [N120], .b true, .s [N120], .b true, .s [N120], .b false, .s [], .b false, .s [], .b false, .s [], .b false, .s [], .b false, .s [], .b false, .s [], .b false, .s [], .b false, .s [], .b false, .s [], .b false, .s [], .b false, .s [], .b false, .s []],
 [Z0, Z4, .b false, .s [], .b true, .s [N120], .b false, .s [], .b false, .s [], .b false, .s [], .b false, .s [], .b false, .s [], .b false, .s [], .b false, .s [], .b false, .s [], .b false, .s [], .b false, .s [], .b false, .s [], .b false, .s [], .b false, .s [], .b false, .s []],
 [Z0, Z4, .b false, .s [], .b true, .s [N120], .b true, .s [N120], .b false, .s [], .b false, .s [], .b false, .s [], .b false, .s [], .b false, .s [], .b false, .s [], .b false, .s [], .b false, .s [], .b false, .s [], .b false, .s [], .b false, .s [], .b false, .s [], .b false, .s []],
 [Z0, Z4, .b false, .s [], .b true, .s [N120], .b false, .s [], .b true, .s [N120], .b false, .s [], .b false, .s [], .b false, .s [], .b false, .s [], .b false, .s [], .b false, .s [], .b false, .s [], .b false, .s [], .b false, .s [], .b false, .s [], .b false, .s [], .b false, .s []],
 [Z0, Z4, .b false, .s [], .b true, .s [N120], .b true, .s [N120], .b true, .s [N120], .b false, .s [], .b false, .s [], .b false, .s [], .b false, .s [], .b false, .s [], .b false, .s [], .b false, .s [], .b false, .s [], .b false, .s [], .b false, .s [], .b false, .s [], .b false, .s []],
 [Z0, Z4, .b false, .s [], .b false, .s [], .b true, .s [N120], .b false, .s [], .b false, .s [], .b false, .s [], .b false, .s [], .b false, .s [], .b false, .s [], .b false, .s [], .b false, .s [], .b false, .s [], .b false, .s [], .b false, .s [], .b false, .s [], .b false, .s []],
 [Z0, Z4, .b false, .s [], .b false, .s [], .b true, .s [N120], .b true, .s [N120], .b false, .s [], .b false, .s [], .b false, .s [], .b false, .s [], .b false, .s [], .b false, .s [], .b false, .s [], .b false, .s [], .b false, .s [], .b false, .s [], .b false, .s [], .b false, .s []],
 [Z0, Z4, .b false, .s [], .b false, .s [], .b false, .s [], .b true, .s [N120], .b false, .s [], .b false, .s [], .b false, .s [], .b false, .s [], .b false, .s [], .b false, .s [], .b false, .s [], .b false, .s [], .b false, .s [], .b false, .s [], .b false, .s [], .b false, .s []],
 [Z0, Z2, .b false, .s [], .b false, .s [], .b false, .s [], .b false, .s [], .b false, .s [], .b false, .s [], .b false, .s [], .b false, .s [], .b false, .s [], .b false, .s [], .b false, .s [], .b false, .s [], .b false, .s [], .b false, .s [], .b false, .s [], .b false, .s []],
 [Z0, Z3, .b false, .s [], .b false, .s [], .b false, .s [], .b false, .s [], .b false, .s [], .b false, .s [], .b false, .s [], .b false, .s [], .b false, .s [], .b false, .s [], .b false, .s [], .b false, .s [], .b false, .s [], .b false, .s [], .b false, .s [], .b false, .s []],
 [Z0, Z4, .b false, .s [], .b false, .s [], .b false, .s [], .b false, .s [], .b false, .s [], .b false, .s [], .b false, .s [], .b false, .s [], .b false, .s [], .b false, .s [], .b false, .s [], .b false, .s [], .b false, .s [], .b false, .s [], .b false, .s [], .b false, .s []],
 [Z0, Z5, .b true, .s [N120], .b false, .s [], .b false, .s [], .b false, .s [], .b false, .s [], .b false, .s [], .b false, .s [], .b false, .s [], .b false, .s [], .b false, .s [], .b false, .s [], .b false, .s [], .b false, .s [], .b false, .s [], .b false, .s [], .b false, .s []],
 [Z0, Z5, .b true, .s [N120], .b false, .s [], .b true, .s [N120], .b false, .s [], .b false, .s [], .b false, .s [], .b false, .s [], .b false, .s [], .b false, .s [], .b false, .s [], .b false, .s [], .b false, .s [], .b false, .s [], .b false, .s [], .b false, .s [], .b false, .s []],
 [Z0, Z5, .b true, .s [N120], .b false, .s [], .b false, .s [], .b true, .s [N120], .b false, .s [], .b false, .s [], .b false, .s [], .b false, .s [], .b false, .s [], .b false, .s [], .b false, .s [], .b false, .s [], .b false, .s [], .b false, .s [], .b false, .s [], .b false, .s []],
 [Z0, Z5, .b true, .s [N120], .b false, .s [], .b true, .s [N120], .b true, .s [N120], .b false, .s [], .b false, .s [], .b false, .s [], .b false, .s [], .b false, .s [], .b false, .s [], .b false, .s [], .b false, .s [], .b false, .s [], .b false, .s [], .b false, .s [], .b false, .s []],
 [Z0, Z5, .b false, .s [], .b false, .s [], .b false, .s [], .b false, .s [], .b false, .s [], .b false, .s [], .b false, .s [], .b false, .s [], .b false, .s [], .b false, .s [], .b false, .s [], .b false, .s [], .b false, .s [], .b false, .s [], .b false, .s [], .b false, .s []],
 [Z0, Z5, .b false, .s [], .b false, .s [], .b true, .s [N120], .b false, .s [], .b false, .s [], .b false, .s [], .b false, .s [], .b false, .s [], .b false, .s [], .b false, .s [], .b false, .s [], .b false, .s [], .b false, .s [], .b false, .s [], .b false, .s [], .b false, .s []],
 [Z0, Z5, .b false, .s [], .b false, .s [], .b false, .s [], .b true, .s [N120], .b false, .s [], .b false, .s [], .b false, .s [], .b false, .s [], .b false, .s [], .b false, .s [], .b false, .s [], .b false, .s [], .b false, .s [], .b false, .s [], .b false, .s [], .b false, .s []],
 [Z0, Z5, .b false, .s [], .b false, .s [], .b true, .s [N120], .b true, .s [N120], .b false, .s [], .b false, .s [], .b false, .s [], .b false, .s [], .b false, .s [], .b false, .s [], .b false, .s [], .b false, .s [], .b false, .s [], .b false, .s [], .b false, .s [], .b false, .s []],
 [Z0, Z6, .b true, .s [N120], .b false, .s [], .b false, .s [], .b false, .s [], .b false, .s [], .b false, .s [], .b false, .s [], .b false, .s [], .b false, .s [], .b false, .s [], .b false, .s [], .b false, .s [], .b false, .s [], .b false, .s [], .b false, .s [], .b false, .s []],
 [Z0, Z5, .b true, .s [N120], .b true, .s [N120], .b false, .s [], .b false, .s [], .b false, .s [], .b false, .s [], .b false, .s [], .b false, .s [], .b false, .s [], .b false, .s [], .b false, .s [], .b false, .s [], .b false, .s [], .b false, .s [], .b false, .s [], .b false, .s []],
 [Z0, Z6, .b true, .s [N120], .b false, .s [], .b true, .s [N120], .b false, .s [], .b false, .s [], .b false, .s [], .b false, .s [], .b false, .s [], .b false, .s [], .b false, .s [], .b false, .s [], .b false, .s [], .b false, .s [], .b false, .s [], .b false, .s [], .b false, .s []],
 [Z0, Z6, .b true, .s [N120], .b false, .s [], .b false, .s [], .b true, .s [N120], .b false, .s [], .b false, .s [], .b false, .s [], .b false, .s [], .b false, .s [], .b false, .s [], .b false, .s [], .b false, .s [], .b false, .s [], .b false, .s [], .b false, .s [], .b false, .s []],
 [Z0, Z5, .b true, .s [N120], .b true, .s [N120], .b true, .s [N120], .b false, .s [], .b false, .s [], .b false, .s [], .b false, .s [], .b false, .s [], .b false, .s [], .b false, .s [], .b false, .s [], .b false, .s [], .b false, .s [], .b false, .s [], .b false, .s [], .b false, .s []],
 [Z0, Z5, .b true, .s [N120], .b true, .s [N120], .b false, .s [], .b true, .s [N120], .b false, .s [], .b false, .s [], .b false, .s [], .b false, .s [], .b false, .s [], .b false, .s [], .b false, .s [], .b false, .s [], .b false, .s [], .b false, .s [], .b false, .s [], .b false, .s []],
 [Z0, Z6, .b true, .s [N120], .b false, .s [], .b true, .s [N120], .b true, .s [N120], .b false, .s [], .b false, .s [], .b false, .s [], .b false, .s [], .b false, .s [], .b false, .s [], .b false, .s [], .b false, .s [], .b false, .s [], .b false, .s [], .b false, .s [], .b false, .s []],
 [Z0, Z5, .b true, .s [N120], .b true, .s [N120], .b true, .s [N120], .b true, .s [N120], .b false, .s [], .b false, .s [], .b false, .s [], .b false, .s [], .b false, .s [], .b false, .s [], .b false, .s [], .b false, .s [], .b false, .s [], .b false, .s [], .b false, .s [], .b false, .s []],
 [Z0, Z5, .b false, .s [], .b true, .s [N120], .b false, .s [], .b false, .s [], .b false, .s [], .b false, .s [], .b false, .s [], .b false, .s [], .b false, .s [], .b false, .s [], .b false, .s [], .b false, .s [], .b false, .s [], .b false, .s [], .b false, .s [], .b false, .s []],
 [Z0, Z6, .b false, .s [], .b false, .s [], .b false, .s [], .b false, .s [], .b false, .s [], .b false, .s [], .b false, .s [], .b false, .s [], .b false, .s [], .b false, .s [], .b false, .s [], .b false, .s [], .b false, .s [], .b false, .s [], .b false, .s [], .b false, .s []],
 [Z0, Z5, .b false, .s [], .b true, .s [N120], .b true, .s [N120], .b false, .s [], .b false, .s [], .b false, .s [], .b false, .s [], .b false, .s [], .b false, .s [], .b false, .s [], .b false, .s [], .b false, .s [], .b false, .s [], .b false, .s [], .b false, .s [], .b false, .s []],
 [Z0, Z6, .b false, .s [], .b false, .s [], .b true, .s [N120], .b false, .s [], .b false, .s [], .b false, .s [], .b false, .s [], .b false, .s [], .b false, .s [], .b false, .s [], .b false, .s [], .b false, .s [], .b false, .s [], .b false, .s [], .b false, .s [], .b false, .s []],
 [Z0, Z5, .b false, .s [], .b true, .s [N120], .b false, .s [], .b true, .s [N120], .b false, .s [], .b false, .s [], .b false, .s [], .b false, .s [], .b false, .s [], .b false, .s [], .b false, .s [], .b false, .s [], .b false, .s [], .b false, .s [], .b false, .s [], .b false, .s []],
 [Z0, Z6, .b false, .s [], .b false, .s [], .b false, .s [], .b true, .s [N120], .b false, .s [], .b false, .s [], .b false, .s [], .b false, .s [], .b false, .s [], .b false, .s [], .b false, .s [], .b false, .s [], .b false, .s [], .b false, .s [], .b false, .s [], .b false, .s []],
 [Z0, Z5, .b false, .s [], .b true, .s [N120], .b true, .s [N120], .b true, .s [N120], .b false, .s [], .b false, .s [], .b false, .s [], .b false, .s [], .b false, .s [], .b false, .s [], .b false, .s [], .b false, .s [], .b false, .s [], .b false, .s [], .b false, .s [], .b false, .s []],
 [Z0, Z6, .b false, .s [], .b false, .s [], .b true, .s [N120], .b true, .s [N120], .b false, .s [], .b false, .s [], .b false, .s [], .b false, .s [], .b false, .s [], .b false, .s [], .b false, .s [], .b false, .s [], .b false, .s [], .b false, .s [], .b false, .s [], .b false, .s []]]
noncomputable def tblT : Tab := tabOf [(B0e5, c229), (B0e6, c230), (B126, c294), (B127, c295), (B131, c305), (B13c, c316), (B13d, c317), (B17a, c378), (B185, c389), (B186, c390), (B18a, c394), (B18d, c397)]
theorem tblT_ok {E : Env} : TabOk Tryz.prog E tblT := (tab_cons (tab_cons (tab_cons (tab_cons (tab_cons (tab_cons (tab_cons (tab_cons (tab_cons (tab_cons (tab_cons (tab_cons tab_nil e397) e394) e390) e389) e378) e317) e316) e305) e295) e294) e230) e229)
theorem tab229_runs : (tab229.all fun l => l.all plainC && isTrue (callBy tblT (aev Tryz.prog (envA F0) tblT N2000) B0e5 [.a l] hp0)) = true := by kernel_rfl
theorem tab229_ok {G : List Fact} (h : ∀ f ∈ F0, f ∈ G) : EntOk Tryz.prog (envA G) B0e5 (.nat (natTab tab229)) := natTab_ok h (eval_ok tblT_ok mixed _) (e229 (E := envI)).1 tab229_runs
theorem tab230_runs : (tab230.all fun l => l.all plainC && isTrue (callBy tblT (aev Tryz.prog (envA F0) tblT N2000) B0e6 [.a l] hp0)) = true := by kernel_rfl
theorem tab230_ok {G : List Fact} (h : ∀ f ∈ F0, f ∈ G) : EntOk Tryz.prog (envA G) B0e6 (.nat (natTab tab230)) := natTab_ok h (eval_ok tblT_ok mixed _) (e230 (E := envI)).1 tab230_runs
noncomputable def tblA : Tab := tabOf [(B128, .nat natPut), (B12a, .nat natRepeat), (B12b, .nat natSum), (B0c1, .natm ins193), (B0c5, .natm ins197), (B00b, c11), (B01f, c31), (B020, c32), (B021, c33), (B022, c34), (B023, c35), (B024, c36), (B02c, c44), (B02f, c47), (B037, c55), (B038, c56), (B039, c57), (B044, c68), (B045, c69), (B04e, c78), (B05a, c90), (B05b, c91), (B05c, c92), (B05d, c93), (B05e, c94), (B05f, c95), (B060, c96), (B061, c97), (B062, c98), (B063, c99), (B064, c100), (B065, c101), (B066, c102), (B067, c103), (B078, c120), (B079, c121), (B07a, c122), (B07b, c123), (B07c, c124), (B07d, c125), (B07e, c126), (B07f, c127), (B080, c128), (B081, c129), (B082, c130), (B08a, c138), (B08b, c139), (B08c, c140), (B08d, c141), (B08f, c143), (B090, c144), (B091, c145), (B092, c146), (B0a5, c165), (B0a8, c168), (B0b3, c179), (B0b4, c180), (B0b5, c181), (B0b7, c183), (B0bd, c189), (B0bf, c191), (B0c0, c192), (B0c2, c194), (B0c3, c195), (B0c4, c196), (B0c6, c198), (B0c7, c199), (B0c8, c200), (B0c9, c201), (B0ca, c202), (B0cd, c205), (B0ce, c206), (B0cf, c207), (B0d1, c209), (B0d3, c211), (B0d4, c212), (B0e4, c228), (B0e5, c229), (B0e6, c230), (B0e7, c231), (B0e8, c232), (B0e9, c233), (B0ea, c234), (B0eb, c235), (B0ec, c236), (B0f4, c244), (B0f5, c245), (B0f6, c246), (B0f7, c247), (B0f8, c248), (B0f9, c249), (B0fa, c250), (B10f, c271), (B11a, c282), (B11c, c284), (B11f, c287), (B120, c288), (B121, c289), (B124, c292), (B126, c294), (B127, c295), (B129, c297), (B12c, c300), (B131, c305), (B133, c307), (B134, c308), (B13c, c316), (B13d, c317), (B13e, c318), (B13f, c319), (B140, c320), (B144, c324), (B145, c325), (B14d, c333), (B14e, c334), (B151, c337), (B152, c338), (B153, c339), (B16f, c367), (B178, c376), (B17a, c378), (B185, c389), (B186, c390), (B18a, c394), (B18d, c397), (B191, c401), (B193, c403)]
theorem tblA_ok {E : Env} : TabOk Tryz.prog E tblA := (tab_cons (tab_cons (tab_cons (tab_cons (tab_cons (tab_cons (tab_cons (tab_cons (tab_cons (tab_cons (tab_cons (tab_cons (tab_cons (tab_cons (tab_cons (tab_cons (tab_cons (tab_cons (tab_cons (tab_cons (tab_cons (tab_cons (tab_cons (tab_cons (tab_cons (tab_cons (tab_cons (tab_cons (tab_cons (tab_cons (tab_cons (tab_cons (tab_cons (tab_cons (tab_cons (tab_cons (tab_cons (tab_cons (tab_cons (tab_cons (tab_cons (tab_cons (tab_cons (tab_cons (tab_cons (tab_cons (tab_cons (tab_cons (tab_cons (tab_cons (tab_cons (tab_cons (tab_cons (tab_cons (tab_cons (tab_cons (tab_cons (tab_cons (tab_cons (tab_cons (tab_cons (tab_cons (tab_cons (tab_cons (tab_cons (tab_cons (tab_cons (tab_cons (tab_cons (tab_cons (tab_cons (tab_cons (tab_cons (tab_cons (tab_cons (tab_cons (tab_cons (tab_cons (tab_cons (tab_cons (tab_cons (tab_cons (tab_cons (tab_cons (tab_cons (tab_cons (tab_cons (tab_cons (tab_cons (tab_cons (tab_cons (tab_cons (tab_cons (tab_cons (tab_cons (tab_cons (tab_cons (tab_cons (tab_cons (tab_cons (tab_cons (tab_cons (tab_cons (tab_cons (tab_cons (tab_cons (tab_cons (tab_cons (tab_cons (tab_cons (tab_cons (tab_cons (tab_cons (tab_cons (tab_cons (tab_cons (tab_cons (tab_cons (tab_cons (tab_cons (tab_cons (tab_cons (tab_cons (tab_cons (tab_cons (tab_cons (tab_cons tab_nil e403) e401) e397) e394) e390) e389) e378) e376) e367) e339) e338) e337) e334) e333) e325) e324) e320) e319) e318) e317) e316) e308) e307) e305) e300) e297) e295) e294) e292) e289) e288) e287) e284) e282) e271) e250) e249) e248) e247) e246) e245) e244) e236) e235) e234) e233) e232) e231) e230) e229) e228) e212) e211) e209) e207) e206) e205) e202) e201) e200) e199) e198) e196) e195) e194) e192) e191) e189) e183) e181) e180) e179) e168) e165) e146) e145) e144) e143) e141) e140) e139) e138) e130) e129) e128) e127) e126) e125) e124) e123) e122) e121) e120) e103) e102) e101) e100) e99) e98) e97) e96) e95) e94) e93) e92) e91) e90) e78) e69) e68) e57) e56) e55) e47) e44) e36) e35) e34) e33) e32) e31) e11) ins197_ok) ins193_ok) natSum_ok) natRepeat_ok) natPut_ok)
theorem awake_run : isTrue (callBy tblA (aev Tryz.prog env0 tblA N8000) B01f [] hp0) = true := by kernel_rfl
theorem awake_nat {E : Env} : EntOk Tryz.prog E B01f (.nat natTrue) := natTrue_ok (eval_ok tblA_ok mixed _) env0_ok awake_run
noncomputable def tbl : Tab := tabOf [(B128, .nat natPut), (B12a, .nat natRepeat), (B12b, .nat natSum), (B0c1, .natm ins193), (B0c5, .natm ins197), (B01f, .nat natTrue), (B0e5, .nat (natTab tab229)), (B0e6, .nat (natTab tab230)), (B00b, c11), (B020, c32), (B021, c33), (B022, c34), (B023, c35), (B024, c36), (B02c, c44), (B02f, c47), (B037, c55), (B038, c56), (B039, c57), (B044, c68), (B045, c69), (B04e, c78), (B05a, c90), (B05b, c91), (B05c, c92), (B05d, c93), (B05e, c94), (B05f, c95), (B060, c96), (B061, c97), (B062, c98), (B063, c99), (B064, c100), (B065, c101), (B066, c102), (B067, c103), (B078, c120), (B079, c121), (B07a, c122), (B07b, c123), (B07c, c124), (B07d, c125), (B07e, c126), (B07f, c127), (B080, c128), (B081, c129), (B082, c130), (B08a, c138), (B08b, c139), (B08c, c140), (B08d, c141), (B08f, c143), (B090, c144), (B091, c145), (B092, c146), (B0a5, c165), (B0a8, c168), (B0b3, c179), (B0b4, c180), (B0b5, c181), (B0b7, c183), (B0bd, c189), (B0bf, c191), (B0c0, c192), (B0c2, c194), (B0c3, c195), (B0c4, c196), (B0c6, c198), (B0c7, c199), (B0c8, c200), (B0c9, c201), (B0ca, c202), (B0cd, c205), (B0ce, c206), (B0cf, c207), (B0d1, c209), (B0d3, c211), (B0d4, c212), (B0e4, c228), (B0e7, c231), (B0e8, c232), (B0e9, c233), (B0ea, c234), (B0eb, c235), (B0ec, c236), (B0f4, c244), (B0f5, c245), (B0f6, c246), (B0f7, c247), (B0f8, c248), (B0f9, c249), (B0fa, c250), (B10f, c271), (B11a, c282), (B11c, c284), (B11f, c287), (B120, c288), (B121, c289), (B124, c292), (B126, c294), (B127, c295), (B129, c297), (B12c, c300), (B131, c305), (B133, c307), (B134, c308), (B13c, c316), (B13d, c317), (B13e, c318), (B13f, c319), (B140, c320), (B144, c324), (B145, c325), (B14d, c333), (B14e, c334), (B151, c337), (B152, c338), (B153, c339), (B16f, c367), (B178, c376), (B17a, c378), (B185, c389), (B186, c390), (B18a, c394), (B18d, c397), (B191, c401), (B193, c403)]
theorem tbl_ok {G : List Fact} (h : ∀ f ∈ F0, f ∈ G) : TabOk Tryz.prog (envA G) tbl := (tab_cons (tab_cons (tab_cons (tab_cons (tab_cons (tab_cons (tab_cons (tab_cons (tab_cons (tab_cons (tab_cons (tab_cons (tab_cons (tab_cons (tab_cons (tab_cons (tab_cons (tab_cons (tab_cons (tab_cons (tab_cons (tab_cons (tab_cons (tab_cons (tab_cons (tab_cons (tab_cons (tab_cons (tab_cons (tab_cons (tab_cons (tab_cons (tab_cons (tab_cons (tab_cons (tab_cons (tab_cons (tab_cons (tab_cons (tab_cons (tab_cons (tab_cons (tab_cons (tab_cons (tab_cons (tab_cons (tab_cons (tab_cons (tab_cons (tab_cons (tab_cons (tab_cons (tab_cons (tab_cons (tab_cons (tab_cons (tab_cons (tab_cons (tab_cons (tab_cons (tab_cons (tab_cons (tab_cons (tab_cons (tab_cons (tab_cons (tab_cons (tab_cons (tab_cons (tab_cons (tab_cons (tab_cons (tab_cons (tab_cons (tab_cons (tab_cons (tab_cons (tab_cons (tab_cons (tab_cons (tab_cons (tab_cons (tab_cons (tab_cons (tab_cons (tab_cons (tab_cons (tab_cons (tab_cons (tab_cons (tab_cons (tab_cons (tab_cons (tab_cons (tab_cons (tab_cons (tab_cons (tab_cons (tab_cons (tab_cons (tab_cons (tab_cons (tab_cons (tab_cons (tab_cons (tab_cons (tab_cons (tab_cons (tab_cons (tab_cons (tab_cons (tab_cons (tab_cons (tab_cons (tab_cons (tab_cons (tab_cons (tab_cons (tab_cons (tab_cons (tab_cons (tab_cons (tab_cons (tab_cons (tab_cons (tab_cons (tab_cons tab_nil e403) e401) e397) e394) e390) e389) e378) e376) e367) e339) e338) e337) e334) e333) e325) e324) e320) e319) e318) e317) e316) e308) e307) e305) e300) e297) e295) e294) e292) e289) e288) e287) e284) e282) e271) e250) e249) e248) e247) e246) e245) e244) e236) e235) e234) e233) e232) e231) e228) e212) e211) e209) e207) e206) e205) e202) e201) e200) e199) e198) e196) e195) e194) e192) e191) e189) e183) e181) e180) e179) e168) e165) e146) e145) e144) e143) e141) e140) e139) e138) e130) e129) e128) e127) e126) e125) e124) e123) e122) e121) e120) e103) e102) e101) e100) e99) e98) e97) e96) e95) e94) e93) e92) e91) e90) e78) e69) e68) e57) e56) e55) e47) e44) e36) e35) e34) e33) e32) e11) (tab230_ok h)) (tab229_ok h)) awake_nat) ins197_ok) ins193_ok) natSum_ok) natRepeat_ok) natPut_ok)
end Go.Proofs.YtpecbnkhppglkaaGreat
