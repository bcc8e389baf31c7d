/-
  The compiled functions of this seat (printed by a program), part 0.
-/
import Derived.Test.YtnofmmceafkkoaaGreatSg
import Derived.Test.YtnofmmceafkkoaaGreatChecked
import Derived.Test.YtnofmmceafkkoaaGreatEvG
import Derived.KernelRfl
set_option linter.unusedVariables false
set_option linter.unusedSimpArgs false
namespace Go.Proofs.YtnofmmceafkkoaaGreat
set_option maxRecDepth 100000
def c204 : AFn := .code (.seq (.reg [oy P00 (.al [.i .u32 J0,.i .u32 J0,.i .u32 J0,.i .u32 J0,.i .u32 J0,.i .u32 J0,.i .u32 J0,.i .u32 J0,.i .u32 J0,.i .u32 J0,.i .u32 J0,.i .u32 J0,.i .u32 J0,.i .u32 J0,.i .u32 J0,.i .u32 J0])]) (.seq (.reg [oy P01 (.al [.i .u32 J0,.i .u32 J0,.i .u32 J0,.i .u32 J0,.i .u32 J0,.i .u32 J0,.i .u32 J0,.i .u32 J0,.i .u32 J0,.i .u32 J0,.i .u32 J0,.i .u32 J0,.i .u32 J0,.i .u32 J0,.i .u32 J0,.i .u32 J0])]) (.seq (.seq (.reg [oy P04 (.mv k0)]) (.block M0 (.loop (.seq (.reg [oy P05 (.bin .lss Q04 (kz Z16))]) (.seq (.cond Q05 .skip (.exit M0)) (.seq (.block M1 (.seq (.reg [oy P06 (.mv Q04),oy P02 (.mv Q06)]) (.seq (.reg [oy P07 (.mv Q02),oy P08 (.ci .u32 Q07),oy P03 (.mv Q08)]) (.seq (.seq (.reg [oy P09 (.mv k0)]) (.block M2 (.loop (.seq (.reg [oy P0a (.bin .lss Q09 (kz Z4))]) (.seq (.cond Q0a .skip (.exit M2)) (.seq (.block M3 (.seq (.reg [oy P0b (.mv Q03),oy P0c (.gen (.binOp .and 217 (.tmp 11) (.const (.int .u32 J1)) 0)),oy P0d (.bin .eql Q0c (.k (.c (.i .u32 J1))))]) (.cond Q0d (.reg [oy P0e (.mv Q03),oy P0f (.gen (.binOp .shr 217 (.tmp 14) (.const (.int .u64 J1)) 0)),oy P10 (.gen (.binOp .xor 217 (.tmp 15) (.const (.int .u32 J2197175160)) 0)),oy P03 (.mv Q10)]) (.reg [oy P11 (.mv Q03),oy P12 (.gen (.binOp .shr 217 (.tmp 17) (.const (.int .u64 J1)) 0)),oy P03 (.mv Q12)])))) (.reg [oy P13 (.bin .add Q09 k1),oy P09 (.mv Q13)]))))))) (.reg [oy P14 (.mv Q02),oy P15 (.mv Q03),oy P16 (.iaa M16 M1 Q01 Q14),oy none (.st M1 Q16 Q15)]))))) (.reg [oy P17 (.bin .add Q04 k1),oy P04 (.mv Q17)]))))))) (.seq (.reg [oy P18 (.ldn M16 Q01),oy none (.st M16 Q00 Q18)]) .ret)))) [.cells .x0 .x0 M16]
theorem e204 {E : Env} : EntOk Tryz.prog E B0cc c204 := ent_code Tryz.func204 rfl (by kernel_rfl) (by kernel_rfl)
end Go.Proofs.YtnofmmceafkkoaaGreat
