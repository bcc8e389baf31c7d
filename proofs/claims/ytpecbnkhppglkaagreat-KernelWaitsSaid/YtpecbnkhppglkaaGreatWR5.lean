/-
  KernelWaits: runs by cases, part 5.
-/
import Derived.Test.YtpecbnkhppglkaaGreatWS
import Derived.KernelRfl
namespace Go.Proofs.YtpecbnkhppglkaaGreat
open Go.RowKit
set_option maxRecDepth 100000
set_option linter.unusedVariables false
def vC30 : AV := (.a [.i .i64 (Int.ofNat (nat_lit 5)), .i .i64 (Int.ofNat (nat_lit 0)), .i .i64 (Int.ofNat (nat_lit 0)), .s []])
def stC30 : Lit := ⟨(.x0, .xe, .c (.p ⟨.x0, .x0, .x8⟩ (nat_lit 0))) :: SH.fr, (⟨.x0, .x0, .x8⟩, .cells [.i .i64 (Int.ofNat (nat_lit 5)), .i .i64 (Int.ofNat (nat_lit 0)), .i .i64 (Int.ofNat (nat_lit 0)), .s []]) :: SH.mem, ⟨.x0, .x0, .x9⟩⟩
def F30 : List Fact := []
theorem rA30 : endsR ((⟨.x0, .x0, .x8⟩, ⟨.x0, .x0, .x8⟩) :: idm) nmId stC30 (aregion Tryz.prog (envA []) cl0 l2A (s1A.put (some (.x5, .x5)) vC30).frame (s1A.put (some (.x5, .x5)) vC30).hp) = true := by kernel_rfl
theorem rR30 : endsAt (.ex (nat_lit 1)) idm nmH SH (aev Tryz.prog (envA F30) tbl (nat_lit 8000) wRst stC30.frame stC30.hp) = true := by kernel_rfl
def vC31 : AV := (.a [.i .i64 (Int.ofNat (nat_lit 5)), .i .i64 (Int.ofNat (nat_lit 0)), .si .i64 (.v (nat_lit 3)), .s []])
def stC31 : Lit := ⟨(.x0, .xe, .c (.p ⟨.x0, .x0, .x8⟩ (nat_lit 0))) :: SH.fr, (⟨.x0, .x0, .x8⟩, .cells [.i .i64 (Int.ofNat (nat_lit 5)), .i .i64 (Int.ofNat (nat_lit 0)), .si .i64 (.v (nat_lit 3)), .s []]) :: SH.mem, ⟨.x0, .x0, .x9⟩⟩
def F31 : List Fact := [.cmp .geq (.v (nat_lit 3)) (.num (Int.ofNat (nat_lit 0))) true, .cmp .leq (.v (nat_lit 3)) (.num (Int.ofNat (nat_lit 0))) false, .cmp .eql (.v (nat_lit 3)) (.num (Int.ofNat (nat_lit 0))) false]
theorem rA31 : endsR ((⟨.x0, .x0, .x8⟩, ⟨.x0, .x0, .x8⟩) :: idm) nmId stC31 (aregion Tryz.prog (envA []) cl0 l2A (s1A.put (some (.x5, .x5)) vC31).frame (s1A.put (some (.x5, .x5)) vC31).hp) = true := by kernel_rfl
theorem rR31 : endsAt (.nrm) idm nmH SH (aev Tryz.prog (envA F31) tbl (nat_lit 8000) wRst stC31.frame stC31.hp) = true := by kernel_rfl
def vC32 : AV := (.a [.i .i64 (Int.ofNat (nat_lit 5)), .si .i64 (.v (nat_lit 2)), .si .i64 (.v (nat_lit 3)), .s []])
def stC32 : Lit := ⟨(.x0, .xe, .c (.p ⟨.x0, .x0, .x8⟩ (nat_lit 0))) :: SH.fr, (⟨.x0, .x0, .x8⟩, .cells [.i .i64 (Int.ofNat (nat_lit 5)), .si .i64 (.v (nat_lit 2)), .si .i64 (.v (nat_lit 3)), .s []]) :: SH.mem, ⟨.x0, .x0, .x9⟩⟩
def F32 : List Fact := [.cmp .geq (.v (nat_lit 2)) (.num (Int.ofNat (nat_lit 0))) true, .cmp .leq (.v (nat_lit 2)) (.num (Int.ofNat (nat_lit 0))) false, .cmp .eql (.v (nat_lit 2)) (.num (Int.ofNat (nat_lit 0))) false, .cmp .eql (.v (nat_lit 3)) (.num (Int.ofNat (nat_lit 0))) false]
theorem rA32 : endsR ((⟨.x0, .x0, .x8⟩, ⟨.x0, .x0, .x8⟩) :: idm) nmId stC32 (aregion Tryz.prog (envA []) cl0 l2A (s1A.put (some (.x5, .x5)) vC32).frame (s1A.put (some (.x5, .x5)) vC32).hp) = true := by kernel_rfl
theorem rR32 : endsAt (.nrm) idm nmH SH (aev Tryz.prog (envA F32) tbl (nat_lit 8000) wRst stC32.frame stC32.hp) = true := by kernel_rfl
def vC33 : AV := (.a [.i .i64 (Int.ofNat (nat_lit 5)), .si .i64 (.v (nat_lit 2)), .i .i64 (Int.ofNat (nat_lit 0)), .s []])
def stC33 : Lit := ⟨(.x0, .xe, .c (.p ⟨.x0, .x0, .x8⟩ (nat_lit 0))) :: SH.fr, (⟨.x0, .x0, .x8⟩, .cells [.i .i64 (Int.ofNat (nat_lit 5)), .si .i64 (.v (nat_lit 2)), .i .i64 (Int.ofNat (nat_lit 0)), .s []]) :: SH.mem, ⟨.x0, .x0, .x9⟩⟩
def F33 : List Fact := [.cmp .geq (.v (nat_lit 2)) (.num (Int.ofNat (nat_lit 0))) true, .cmp .leq (.v (nat_lit 2)) (.num (Int.ofNat (nat_lit 0))) false, .cmp .eql (.v (nat_lit 2)) (.num (Int.ofNat (nat_lit 0))) false]
theorem rA33 : endsR ((⟨.x0, .x0, .x8⟩, ⟨.x0, .x0, .x8⟩) :: idm) nmId stC33 (aregion Tryz.prog (envA []) cl0 l2A (s1A.put (some (.x5, .x5)) vC33).frame (s1A.put (some (.x5, .x5)) vC33).hp) = true := by kernel_rfl
theorem rR33 : endsAt (.nrm) idm nmH SH (aev Tryz.prog (envA F33) tbl (nat_lit 8000) wRst stC33.frame stC33.hp) = true := by kernel_rfl
def vC34 : AV := (.a [.i .i64 (Int.ofNat (nat_lit 5)), .si .i64 (.v (nat_lit 2)), .si .i64 (.v (nat_lit 3)), .s []])
def stC34 : Lit := ⟨(.x0, .xe, .c (.p ⟨.x0, .x0, .x8⟩ (nat_lit 0))) :: SH.fr, (⟨.x0, .x0, .x8⟩, .cells [.i .i64 (Int.ofNat (nat_lit 5)), .si .i64 (.v (nat_lit 2)), .si .i64 (.v (nat_lit 3)), .s []]) :: SH.mem, ⟨.x0, .x0, .x9⟩⟩
def F34 : List Fact := [.cmp .geq (.v (nat_lit 2)) (.num (Int.ofNat (nat_lit 0))) true, .cmp .leq (.v (nat_lit 2)) (.num (Int.ofNat (nat_lit 0))) false, .cmp .eql (.v (nat_lit 2)) (.num (Int.ofNat (nat_lit 0))) false, .cmp .eql (.v (nat_lit 3)) (.num (Int.ofNat (nat_lit 0))) false]
theorem rA34 : endsR ((⟨.x0, .x0, .x8⟩, ⟨.x0, .x0, .x8⟩) :: idm) nmId stC34 (aregion Tryz.prog (envA []) cl0 l2A (s1A.put (some (.x5, .x5)) vC34).frame (s1A.put (some (.x5, .x5)) vC34).hp) = true := by kernel_rfl
theorem rR34 : endsAt (.nrm) idm nmH SH (aev Tryz.prog (envA F34) tbl (nat_lit 8000) wRst stC34.frame stC34.hp) = true := by kernel_rfl
def vC35 : AV := (.a [.i .i64 (Int.ofNat (nat_lit 6)), .si .i64 (.v (nat_lit 2)), .si .i64 (.v (nat_lit 3)), .s []])
def stC35 : Lit := ⟨(.x0, .xe, .c (.p ⟨.x0, .x0, .x8⟩ (nat_lit 0))) :: SH.fr, (⟨.x0, .x0, .x8⟩, .cells [.i .i64 (Int.ofNat (nat_lit 6)), .si .i64 (.v (nat_lit 2)), .si .i64 (.v (nat_lit 3)), .s []]) :: SH.mem, ⟨.x0, .x0, .x9⟩⟩
def F35 : List Fact := [.cmp .geq (.v (nat_lit 2)) (.num (Int.ofNat (nat_lit 0))) false]
theorem rA35 : endsR ((⟨.x0, .x0, .x8⟩, ⟨.x0, .x0, .x8⟩) :: idm) nmId stC35 (aregion Tryz.prog (envA []) cl0 l2A (s1A.put (some (.x5, .x5)) vC35).frame (s1A.put (some (.x5, .x5)) vC35).hp) = true := by kernel_rfl
theorem rR35 : endsAt (.nrm) idm nmH SH (aev Tryz.prog (envA F35) tbl (nat_lit 8000) wRst stC35.frame stC35.hp) = true := by kernel_rfl
end Go.Proofs.YtpecbnkhppglkaaGreat
