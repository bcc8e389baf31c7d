/-
  KernelWaits: runs by cases, part 2.
-/
import Derived.Test.YtpecbnkhppglkaaGreatWS
import Derived.KernelRfl
namespace Go.Proofs.YtpecbnkhppglkaaGreat
open Go.RowKit
set_option maxRecDepth 100000
set_option linter.unusedVariables false
def vC12 : AV := (.a [.i .i64 (Int.ofNat (nat_lit 2)), .i .i64 (Int.ofNat (nat_lit 0)), .si .i64 (.v (nat_lit 3)), .ss (.v (nat_lit 4))])
def stC12 : Lit := ⟨(.x0, .xe, .c (.p ⟨.x0, .x0, .x8⟩ (nat_lit 0))) :: SH.fr, (⟨.x0, .x0, .x8⟩, .cells [.i .i64 (Int.ofNat (nat_lit 2)), .i .i64 (Int.ofNat (nat_lit 0)), .si .i64 (.v (nat_lit 3)), .ss (.v (nat_lit 4))]) :: SH.mem, ⟨.x0, .x0, .x9⟩⟩
def F12 : List Fact := [.cmp .geq (.v (nat_lit 3)) (.num (Int.ofNat (nat_lit 0))) true, .cmp .leq (.v (nat_lit 3)) (.num (Int.ofNat (nat_lit 15))) false]
theorem rA12 : endsR ((⟨.x0, .x0, .x8⟩, ⟨.x0, .x0, .x8⟩) :: idm) nmId stC12 (aregion Tryz.prog (envA []) cl0 l2A (s1A.put (some (.x5, .x5)) vC12).frame (s1A.put (some (.x5, .x5)) vC12).hp) = true := by kernel_rfl
theorem rR12 : endsAt (.nrm) idm nmH SH (aev Tryz.prog (envA F12) tbl (nat_lit 8000) wRst stC12.frame stC12.hp) = true := by kernel_rfl
def vC13 : AV := (.a [.i .i64 (Int.ofNat (nat_lit 2)), .si .i64 (.v (nat_lit 2)), .si .i64 (.v (nat_lit 3)), .ss (.v (nat_lit 4))])
def stC13 : Lit := ⟨(.x0, .xe, .c (.p ⟨.x0, .x0, .x8⟩ (nat_lit 0))) :: SH.fr, (⟨.x0, .x0, .x8⟩, .cells [.i .i64 (Int.ofNat (nat_lit 2)), .si .i64 (.v (nat_lit 2)), .si .i64 (.v (nat_lit 3)), .ss (.v (nat_lit 4))]) :: SH.mem, ⟨.x0, .x0, .x9⟩⟩
def F13 : List Fact := [.cmp .geq (.v (nat_lit 2)) (.num (Int.ofNat (nat_lit 0))) true, .cmp .leq (.v (nat_lit 2)) (.num (Int.ofNat (nat_lit 0))) false]
theorem rA13 : endsR ((⟨.x0, .x0, .x8⟩, ⟨.x0, .x0, .x8⟩) :: idm) nmId stC13 (aregion Tryz.prog (envA []) cl0 l2A (s1A.put (some (.x5, .x5)) vC13).frame (s1A.put (some (.x5, .x5)) vC13).hp) = true := by kernel_rfl
theorem rR13 : endsAt (.nrm) idm nmH SH (aev Tryz.prog (envA F13) tbl (nat_lit 8000) wRst stC13.frame stC13.hp) = true := by kernel_rfl
def vC14 : AV := (.a [.i .i64 (Int.ofNat (nat_lit 3)), .si .i64 (.v (nat_lit 2)), .si .i64 (.v (nat_lit 3)), .s []])
def stC14 : Lit := ⟨(.x0, .xe, .c (.p ⟨.x0, .x0, .x8⟩ (nat_lit 0))) :: SH.fr, (⟨.x0, .x0, .x8⟩, .cells [.i .i64 (Int.ofNat (nat_lit 3)), .si .i64 (.v (nat_lit 2)), .si .i64 (.v (nat_lit 3)), .s []]) :: SH.mem, ⟨.x0, .x0, .x9⟩⟩
def F14 : List Fact := [.cmp .geq (.v (nat_lit 2)) (.num (Int.ofNat (nat_lit 0))) false]
theorem rA14 : endsR ((⟨.x0, .x0, .x8⟩, ⟨.x0, .x0, .x8⟩) :: idm) nmId stC14 (aregion Tryz.prog (envA []) cl0 l2A (s1A.put (some (.x5, .x5)) vC14).frame (s1A.put (some (.x5, .x5)) vC14).hp) = true := by kernel_rfl
theorem rR14 : endsAt (.nrm) idm nmH SH (aev Tryz.prog (envA F14) tbl (nat_lit 8000) wRst stC14.frame stC14.hp) = true := by kernel_rfl
def vC15 : AV := (.a [.i .i64 (Int.ofNat (nat_lit 3)), .i .i64 (Int.ofNat (nat_lit 0)), .si .i64 (.v (nat_lit 3)), .s []])
def stC15 : Lit := ⟨(.x0, .xe, .c (.p ⟨.x0, .x0, .x8⟩ (nat_lit 0))) :: SH.fr, (⟨.x0, .x0, .x8⟩, .cells [.i .i64 (Int.ofNat (nat_lit 3)), .i .i64 (Int.ofNat (nat_lit 0)), .si .i64 (.v (nat_lit 3)), .s []]) :: SH.mem, ⟨.x0, .x0, .x9⟩⟩
def F15 : List Fact := [.cmp .geq (.v (nat_lit 3)) (.num (Int.ofNat (nat_lit 0))) false]
theorem rA15 : endsR ((⟨.x0, .x0, .x8⟩, ⟨.x0, .x0, .x8⟩) :: idm) nmId stC15 (aregion Tryz.prog (envA []) cl0 l2A (s1A.put (some (.x5, .x5)) vC15).frame (s1A.put (some (.x5, .x5)) vC15).hp) = true := by kernel_rfl
theorem rR15 : endsAt (.nrm) idm nmH SH (aev Tryz.prog (envA F15) tbl (nat_lit 8000) wRst stC15.frame stC15.hp) = true := by kernel_rfl
def vC16 : AV := (.a [.i .i64 (Int.ofNat (nat_lit 3)), .i .i64 (Int.ofNat (nat_lit 0)), .i .i64 (Int.ofNat (nat_lit 0)), .s []])
def stC16 : Lit := ⟨(.x0, .xe, .c (.p ⟨.x0, .x0, .x8⟩ (nat_lit 0))) :: SH.fr, (⟨.x0, .x0, .x8⟩, .cells [.i .i64 (Int.ofNat (nat_lit 3)), .i .i64 (Int.ofNat (nat_lit 0)), .i .i64 (Int.ofNat (nat_lit 0)), .s []]) :: SH.mem, ⟨.x0, .x0, .x9⟩⟩
def F16 : List Fact := []
theorem rA16 : endsR ((⟨.x0, .x0, .x8⟩, ⟨.x0, .x0, .x8⟩) :: idm) nmId stC16 (aregion Tryz.prog (envA []) cl0 l2A (s1A.put (some (.x5, .x5)) vC16).frame (s1A.put (some (.x5, .x5)) vC16).hp) = true := by kernel_rfl
theorem rR16 : endsAt (.nrm) idm nmH SH (aev Tryz.prog (envA F16) tbl (nat_lit 8000) wRst stC16.frame stC16.hp) = true := by kernel_rfl
def vC17 : AV := (.a [.i .i64 (Int.ofNat (nat_lit 3)), .i .i64 (Int.ofNat (nat_lit 0)), .i .i64 (Int.ofNat (nat_lit 1)), .s []])
def stC17 : Lit := ⟨(.x0, .xe, .c (.p ⟨.x0, .x0, .x8⟩ (nat_lit 0))) :: SH.fr, (⟨.x0, .x0, .x8⟩, .cells [.i .i64 (Int.ofNat (nat_lit 3)), .i .i64 (Int.ofNat (nat_lit 0)), .i .i64 (Int.ofNat (nat_lit 1)), .s []]) :: SH.mem, ⟨.x0, .x0, .x9⟩⟩
def F17 : List Fact := []
theorem rA17 : endsR ((⟨.x0, .x0, .x8⟩, ⟨.x0, .x0, .x8⟩) :: idm) nmId stC17 (aregion Tryz.prog (envA []) cl0 l2A (s1A.put (some (.x5, .x5)) vC17).frame (s1A.put (some (.x5, .x5)) vC17).hp) = true := by kernel_rfl
theorem rR17 : endsAt (.nrm) idm nmH SH (aev Tryz.prog (envA F17) tbl (nat_lit 8000) wRst stC17.frame stC17.hp) = true := by kernel_rfl
end Go.Proofs.YtpecbnkhppglkaaGreat
