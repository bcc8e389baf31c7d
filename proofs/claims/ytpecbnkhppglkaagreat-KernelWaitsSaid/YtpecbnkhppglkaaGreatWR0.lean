/-
  KernelWaits: runs by cases, part 0.
-/
import Derived.Test.YtpecbnkhppglkaaGreatWS
import Derived.KernelRfl
namespace Go.Proofs.YtpecbnkhppglkaaGreat
open Go.RowKit
set_option maxRecDepth 100000
set_option linter.unusedVariables false
def vC0 : AV := (.a [.i .i64 (Int.ofNat (nat_lit 1)), .si .i64 (.v (nat_lit 2)), .si .i64 (.v (nat_lit 3)), .s []])
def stC0 : Lit := ⟨(.x0, .xe, .c (.p ⟨.x0, .x0, .x8⟩ (nat_lit 0))) :: SH.fr, (⟨.x0, .x0, .x8⟩, .cells [.i .i64 (Int.ofNat (nat_lit 1)), .si .i64 (.v (nat_lit 2)), .si .i64 (.v (nat_lit 3)), .s []]) :: SH.mem, ⟨.x0, .x0, .x9⟩⟩
def F0 : List Fact := [.cmp .geq (.v (nat_lit 2)) (.num (Int.ofNat (nat_lit 0))) false, .cmp .eql (.v (nat_lit 2)) (.num (Int.ofNat (nat_lit 0))) false]
theorem rA0 : endsR ((⟨.x0, .x0, .x8⟩, ⟨.x0, .x0, .x8⟩) :: idm) nmId stC0 (aregion Tryz.prog (envA []) cl0 l2A (s1A.put (some (.x5, .x5)) vC0).frame (s1A.put (some (.x5, .x5)) vC0).hp) = true := by kernel_rfl
theorem rR0 : endsAt (.nrm) idm nmH SH (aev Tryz.prog (envA F0) tbl (nat_lit 8000) wRst stC0.frame stC0.hp) = true := by kernel_rfl
def vC1 : AV := (.a [.i .i64 (Int.ofNat (nat_lit 1)), .i .i64 (Int.ofNat (nat_lit 0)), .si .i64 (.v (nat_lit 3)), .s []])
def stC1 : Lit := ⟨(.x0, .xe, .c (.p ⟨.x0, .x0, .x8⟩ (nat_lit 0))) :: SH.fr, (⟨.x0, .x0, .x8⟩, .cells [.i .i64 (Int.ofNat (nat_lit 1)), .i .i64 (Int.ofNat (nat_lit 0)), .si .i64 (.v (nat_lit 3)), .s []]) :: SH.mem, ⟨.x0, .x0, .x9⟩⟩
def F1 : List Fact := [.cmp .geq (.v (nat_lit 3)) (.num (Int.ofNat (nat_lit 0))) false, .cmp .eql (.v (nat_lit 3)) (.num (Int.ofNat (nat_lit 1))) false]
theorem rA1 : endsR ((⟨.x0, .x0, .x8⟩, ⟨.x0, .x0, .x8⟩) :: idm) nmId stC1 (aregion Tryz.prog (envA []) cl0 l2A (s1A.put (some (.x5, .x5)) vC1).frame (s1A.put (some (.x5, .x5)) vC1).hp) = true := by kernel_rfl
theorem rR1 : endsAt (.nrm) idm nmH SH (aev Tryz.prog (envA F1) tbl (nat_lit 8000) wRst stC1.frame stC1.hp) = true := by kernel_rfl
def vC2 : AV := (.a [.i .i64 (Int.ofNat (nat_lit 1)), .i .i64 (Int.ofNat (nat_lit 0)), .i .i64 (Int.ofNat (nat_lit 0)), .s []])
def stC2 : Lit := ⟨(.x0, .xe, .c (.p ⟨.x0, .x0, .x8⟩ (nat_lit 0))) :: SH.fr, (⟨.x0, .x0, .x8⟩, .cells [.i .i64 (Int.ofNat (nat_lit 1)), .i .i64 (Int.ofNat (nat_lit 0)), .i .i64 (Int.ofNat (nat_lit 0)), .s []]) :: SH.mem, ⟨.x0, .x0, .x9⟩⟩
def F2 : List Fact := []
theorem rA2 : endsR ((⟨.x0, .x0, .x8⟩, ⟨.x0, .x0, .x8⟩) :: idm) nmId stC2 (aregion Tryz.prog (envA []) cl0 l2A (s1A.put (some (.x5, .x5)) vC2).frame (s1A.put (some (.x5, .x5)) vC2).hp) = true := by kernel_rfl
theorem rR2 : endsAt (.nrm) idm nmH SH (aev Tryz.prog (envA F2) tbl (nat_lit 8000) wRst stC2.frame stC2.hp) = true := by kernel_rfl
def vC3 : AV := (.a [.i .i64 (Int.ofNat (nat_lit 1)), .i .i64 (Int.ofNat (nat_lit 0)), .i .i64 (Int.ofNat (nat_lit 1)), .s []])
def stC3 : Lit := ⟨(.x0, .xe, .c (.p ⟨.x0, .x0, .x8⟩ (nat_lit 0))) :: SH.fr, (⟨.x0, .x0, .x8⟩, .cells [.i .i64 (Int.ofNat (nat_lit 1)), .i .i64 (Int.ofNat (nat_lit 0)), .i .i64 (Int.ofNat (nat_lit 1)), .s []]) :: SH.mem, ⟨.x0, .x0, .x9⟩⟩
def F3 : List Fact := []
theorem rA3 : endsR ((⟨.x0, .x0, .x8⟩, ⟨.x0, .x0, .x8⟩) :: idm) nmId stC3 (aregion Tryz.prog (envA []) cl0 l2A (s1A.put (some (.x5, .x5)) vC3).frame (s1A.put (some (.x5, .x5)) vC3).hp) = true := by kernel_rfl
theorem rR3 : endsAt (.nrm) idm nmH SH (aev Tryz.prog (envA F3) tbl (nat_lit 8000) wRst stC3.frame stC3.hp) = true := by kernel_rfl
def vC4 : AV := (.a [.i .i64 (Int.ofNat (nat_lit 1)), .i .i64 (Int.ofNat (nat_lit 0)), .si .i64 (.v (nat_lit 3)), .s []])
def stC4 : Lit := ⟨(.x0, .xe, .c (.p ⟨.x0, .x0, .x8⟩ (nat_lit 0))) :: SH.fr, (⟨.x0, .x0, .x8⟩, .cells [.i .i64 (Int.ofNat (nat_lit 1)), .i .i64 (Int.ofNat (nat_lit 0)), .si .i64 (.v (nat_lit 3)), .s []]) :: SH.mem, ⟨.x0, .x0, .x9⟩⟩
def F4 : List Fact := [.cmp .geq (.v (nat_lit 3)) (.num (Int.ofNat (nat_lit 0))) true, .cmp .leq (.v (nat_lit 3)) (.num (Int.ofNat (nat_lit 15))) true, .cmp .eql (.num (Int.ofNat (nat_lit 1))) (.v (nat_lit 3)) false, .cmp .eql (.v (nat_lit 3)) (.num (Int.ofNat (nat_lit 1))) false]
theorem rA4 : endsR ((⟨.x0, .x0, .x8⟩, ⟨.x0, .x0, .x8⟩) :: idm) nmId stC4 (aregion Tryz.prog (envA []) cl0 l2A (s1A.put (some (.x5, .x5)) vC4).frame (s1A.put (some (.x5, .x5)) vC4).hp) = true := by kernel_rfl
theorem rR4 : endsAt (.nrm) idm nmH SH (aev Tryz.prog (envA F4) tbl (nat_lit 8000) wRst stC4.frame stC4.hp) = true := by kernel_rfl
def vC5 : AV := (.a [.i .i64 (Int.ofNat (nat_lit 1)), .i .i64 (Int.ofNat (nat_lit 0)), .si .i64 (.v (nat_lit 3)), .s []])
def stC5 : Lit := ⟨(.x0, .xe, .c (.p ⟨.x0, .x0, .x8⟩ (nat_lit 0))) :: SH.fr, (⟨.x0, .x0, .x8⟩, .cells [.i .i64 (Int.ofNat (nat_lit 1)), .i .i64 (Int.ofNat (nat_lit 0)), .si .i64 (.v (nat_lit 3)), .s []]) :: SH.mem, ⟨.x0, .x0, .x9⟩⟩
def F5 : List Fact := [.cmp .geq (.v (nat_lit 3)) (.num (Int.ofNat (nat_lit 0))) true, .cmp .leq (.v (nat_lit 3)) (.num (Int.ofNat (nat_lit 15))) false, .cmp .eql (.v (nat_lit 3)) (.num (Int.ofNat (nat_lit 1))) false]
theorem rA5 : endsR ((⟨.x0, .x0, .x8⟩, ⟨.x0, .x0, .x8⟩) :: idm) nmId stC5 (aregion Tryz.prog (envA []) cl0 l2A (s1A.put (some (.x5, .x5)) vC5).frame (s1A.put (some (.x5, .x5)) vC5).hp) = true := by kernel_rfl
theorem rR5 : endsAt (.nrm) idm nmH SH (aev Tryz.prog (envA F5) tbl (nat_lit 8000) wRst stC5.frame stC5.hp) = true := by kernel_rfl
end Go.Proofs.YtpecbnkhppglkaaGreat
