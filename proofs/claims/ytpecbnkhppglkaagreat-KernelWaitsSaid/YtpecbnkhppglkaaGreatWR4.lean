/-
  KernelWaits: runs by cases, part 4.
-/
import Derived.Test.YtpecbnkhppglkaaGreatWS
import Derived.KernelRfl
namespace Go.Proofs.YtpecbnkhppglkaaGreat
open Go.RowKit
set_option maxRecDepth 100000
set_option linter.unusedVariables false
def vC24 : AV := (.a [.i .i64 (Int.ofNat (nat_lit 4)), .i .i64 (Int.ofNat (nat_lit 0)), .si .i64 (.v (nat_lit 3)), .s []])
def stC24 : Lit := ⟨(.x0, .xe, .c (.p ⟨.x0, .x0, .x8⟩ (nat_lit 0))) :: SH.fr, (⟨.x0, .x0, .x8⟩, .cells [.i .i64 (Int.ofNat (nat_lit 4)), .i .i64 (Int.ofNat (nat_lit 0)), .si .i64 (.v (nat_lit 3)), .s []]) :: SH.mem, ⟨.x0, .x0, .x9⟩⟩
def F24 : List Fact := [.cmp .geq (.v (nat_lit 3)) (.num (Int.ofNat (nat_lit 0))) true, .cmp .leq (.v (nat_lit 3)) (.num (Int.ofNat (nat_lit 0))) false]
theorem rA24 : endsR ((⟨.x0, .x0, .x8⟩, ⟨.x0, .x0, .x8⟩) :: idm) nmId stC24 (aregion Tryz.prog (envA []) cl0 l2A (s1A.put (some (.x5, .x5)) vC24).frame (s1A.put (some (.x5, .x5)) vC24).hp) = true := by kernel_rfl
theorem rR24 : endsAt (.nrm) idm nmH SH (aev Tryz.prog (envA F24) tbl (nat_lit 8000) wRst stC24.frame stC24.hp) = true := by kernel_rfl
def vC25 : AV := (.a [.i .i64 (Int.ofNat (nat_lit 4)), .si .i64 (.v (nat_lit 2)), .si .i64 (.v (nat_lit 3)), .s []])
def stC25 : Lit := ⟨(.x0, .xe, .c (.p ⟨.x0, .x0, .x8⟩ (nat_lit 0))) :: SH.fr, (⟨.x0, .x0, .x8⟩, .cells [.i .i64 (Int.ofNat (nat_lit 4)), .si .i64 (.v (nat_lit 2)), .si .i64 (.v (nat_lit 3)), .s []]) :: SH.mem, ⟨.x0, .x0, .x9⟩⟩
def F25 : List Fact := [.cmp .geq (.v (nat_lit 2)) (.num (Int.ofNat (nat_lit 0))) true, .cmp .leq (.v (nat_lit 2)) (.num (Int.ofNat (nat_lit 0))) false]
theorem rA25 : endsR ((⟨.x0, .x0, .x8⟩, ⟨.x0, .x0, .x8⟩) :: idm) nmId stC25 (aregion Tryz.prog (envA []) cl0 l2A (s1A.put (some (.x5, .x5)) vC25).frame (s1A.put (some (.x5, .x5)) vC25).hp) = true := by kernel_rfl
theorem rR25 : endsAt (.nrm) idm nmH SH (aev Tryz.prog (envA F25) tbl (nat_lit 8000) wRst stC25.frame stC25.hp) = true := by kernel_rfl
def vC26 : AV := (.a [.i .i64 (Int.ofNat (nat_lit 5)), .si .i64 (.v (nat_lit 2)), .si .i64 (.v (nat_lit 3)), .s []])
def stC26 : Lit := ⟨(.x0, .xe, .c (.p ⟨.x0, .x0, .x8⟩ (nat_lit 0))) :: SH.fr, (⟨.x0, .x0, .x8⟩, .cells [.i .i64 (Int.ofNat (nat_lit 5)), .si .i64 (.v (nat_lit 2)), .si .i64 (.v (nat_lit 3)), .s []]) :: SH.mem, ⟨.x0, .x0, .x9⟩⟩
def F26 : List Fact := [.cmp .geq (.v (nat_lit 2)) (.num (Int.ofNat (nat_lit 0))) false, .cmp .eql (.v (nat_lit 2)) (.num (Int.ofNat (nat_lit 0))) false, .cmp .eql (.v (nat_lit 3)) (.num (Int.ofNat (nat_lit 0))) false]
theorem rA26 : endsR ((⟨.x0, .x0, .x8⟩, ⟨.x0, .x0, .x8⟩) :: idm) nmId stC26 (aregion Tryz.prog (envA []) cl0 l2A (s1A.put (some (.x5, .x5)) vC26).frame (s1A.put (some (.x5, .x5)) vC26).hp) = true := by kernel_rfl
theorem rR26 : endsAt (.nrm) idm nmH SH (aev Tryz.prog (envA F26) tbl (nat_lit 8000) wRst stC26.frame stC26.hp) = true := by kernel_rfl
def vC27 : AV := (.a [.i .i64 (Int.ofNat (nat_lit 5)), .si .i64 (.v (nat_lit 2)), .i .i64 (Int.ofNat (nat_lit 0)), .s []])
def stC27 : Lit := ⟨(.x0, .xe, .c (.p ⟨.x0, .x0, .x8⟩ (nat_lit 0))) :: SH.fr, (⟨.x0, .x0, .x8⟩, .cells [.i .i64 (Int.ofNat (nat_lit 5)), .si .i64 (.v (nat_lit 2)), .i .i64 (Int.ofNat (nat_lit 0)), .s []]) :: SH.mem, ⟨.x0, .x0, .x9⟩⟩
def F27 : List Fact := [.cmp .geq (.v (nat_lit 2)) (.num (Int.ofNat (nat_lit 0))) false, .cmp .eql (.v (nat_lit 2)) (.num (Int.ofNat (nat_lit 0))) false]
theorem rA27 : endsR ((⟨.x0, .x0, .x8⟩, ⟨.x0, .x0, .x8⟩) :: idm) nmId stC27 (aregion Tryz.prog (envA []) cl0 l2A (s1A.put (some (.x5, .x5)) vC27).frame (s1A.put (some (.x5, .x5)) vC27).hp) = true := by kernel_rfl
theorem rR27 : endsAt (.nrm) idm nmH SH (aev Tryz.prog (envA F27) tbl (nat_lit 8000) wRst stC27.frame stC27.hp) = true := by kernel_rfl
def vC28 : AV := (.a [.i .i64 (Int.ofNat (nat_lit 5)), .si .i64 (.v (nat_lit 2)), .si .i64 (.v (nat_lit 3)), .s []])
def stC28 : Lit := ⟨(.x0, .xe, .c (.p ⟨.x0, .x0, .x8⟩ (nat_lit 0))) :: SH.fr, (⟨.x0, .x0, .x8⟩, .cells [.i .i64 (Int.ofNat (nat_lit 5)), .si .i64 (.v (nat_lit 2)), .si .i64 (.v (nat_lit 3)), .s []]) :: SH.mem, ⟨.x0, .x0, .x9⟩⟩
def F28 : List Fact := [.cmp .geq (.v (nat_lit 2)) (.num (Int.ofNat (nat_lit 0))) false, .cmp .eql (.v (nat_lit 2)) (.num (Int.ofNat (nat_lit 0))) false, .cmp .eql (.v (nat_lit 3)) (.num (Int.ofNat (nat_lit 0))) false]
theorem rA28 : endsR ((⟨.x0, .x0, .x8⟩, ⟨.x0, .x0, .x8⟩) :: idm) nmId stC28 (aregion Tryz.prog (envA []) cl0 l2A (s1A.put (some (.x5, .x5)) vC28).frame (s1A.put (some (.x5, .x5)) vC28).hp) = true := by kernel_rfl
theorem rR28 : endsAt (.nrm) idm nmH SH (aev Tryz.prog (envA F28) tbl (nat_lit 8000) wRst stC28.frame stC28.hp) = true := by kernel_rfl
def vC29 : AV := (.a [.i .i64 (Int.ofNat (nat_lit 5)), .i .i64 (Int.ofNat (nat_lit 0)), .si .i64 (.v (nat_lit 3)), .s []])
def stC29 : Lit := ⟨(.x0, .xe, .c (.p ⟨.x0, .x0, .x8⟩ (nat_lit 0))) :: SH.fr, (⟨.x0, .x0, .x8⟩, .cells [.i .i64 (Int.ofNat (nat_lit 5)), .i .i64 (Int.ofNat (nat_lit 0)), .si .i64 (.v (nat_lit 3)), .s []]) :: SH.mem, ⟨.x0, .x0, .x9⟩⟩
def F29 : List Fact := [.cmp .geq (.v (nat_lit 3)) (.num (Int.ofNat (nat_lit 0))) false, .cmp .eql (.v (nat_lit 3)) (.num (Int.ofNat (nat_lit 0))) false]
theorem rA29 : endsR ((⟨.x0, .x0, .x8⟩, ⟨.x0, .x0, .x8⟩) :: idm) nmId stC29 (aregion Tryz.prog (envA []) cl0 l2A (s1A.put (some (.x5, .x5)) vC29).frame (s1A.put (some (.x5, .x5)) vC29).hp) = true := by kernel_rfl
theorem rR29 : endsAt (.nrm) idm nmH SH (aev Tryz.prog (envA F29) tbl (nat_lit 8000) wRst stC29.frame stC29.hp) = true := by kernel_rfl
end Go.Proofs.YtpecbnkhppglkaaGreat
