/-
  KernelWaits: runs by cases, part 1.
-/
import Derived.Test.YtpecbnkhppglkaaGreatWS
import Derived.KernelRfl
namespace Go.Proofs.YtpecbnkhppglkaaGreat
open Go.RowKit
set_option maxRecDepth 100000
set_option linter.unusedVariables false
def vC6 : AV := (.a [.i .i64 (Int.ofNat (nat_lit 1)), .si .i64 (.v (nat_lit 2)), .si .i64 (.v (nat_lit 3)), .s []])
def stC6 : Lit := ⟨(.x0, .xe, .c (.p ⟨.x0, .x0, .x8⟩ (nat_lit 0))) :: SH.fr, (⟨.x0, .x0, .x8⟩, .cells [.i .i64 (Int.ofNat (nat_lit 1)), .si .i64 (.v (nat_lit 2)), .si .i64 (.v (nat_lit 3)), .s []]) :: SH.mem, ⟨.x0, .x0, .x9⟩⟩
def F6 : List Fact := [.cmp .geq (.v (nat_lit 2)) (.num (Int.ofNat (nat_lit 0))) true, .cmp .leq (.v (nat_lit 2)) (.num (Int.ofNat (nat_lit 0))) false, .cmp .eql (.v (nat_lit 2)) (.num (Int.ofNat (nat_lit 0))) false]
theorem rA6 : endsR ((⟨.x0, .x0, .x8⟩, ⟨.x0, .x0, .x8⟩) :: idm) nmId stC6 (aregion Tryz.prog (envA []) cl0 l2A (s1A.put (some (.x5, .x5)) vC6).frame (s1A.put (some (.x5, .x5)) vC6).hp) = true := by kernel_rfl
theorem rR6 : endsAt (.nrm) idm nmH SH (aev Tryz.prog (envA F6) tbl (nat_lit 8000) wRst stC6.frame stC6.hp) = true := by kernel_rfl
def vC7 : AV := (.a [.i .i64 (Int.ofNat (nat_lit 2)), .si .i64 (.v (nat_lit 2)), .si .i64 (.v (nat_lit 3)), .ss (.v (nat_lit 4))])
def stC7 : Lit := ⟨(.x0, .xe, .c (.p ⟨.x0, .x0, .x8⟩ (nat_lit 0))) :: SH.fr, (⟨.x0, .x0, .x8⟩, .cells [.i .i64 (Int.ofNat (nat_lit 2)), .si .i64 (.v (nat_lit 2)), .si .i64 (.v (nat_lit 3)), .ss (.v (nat_lit 4))]) :: SH.mem, ⟨.x0, .x0, .x9⟩⟩
def F7 : List Fact := [.cmp .geq (.v (nat_lit 2)) (.num (Int.ofNat (nat_lit 0))) false]
theorem rA7 : endsR ((⟨.x0, .x0, .x8⟩, ⟨.x0, .x0, .x8⟩) :: idm) nmId stC7 (aregion Tryz.prog (envA []) cl0 l2A (s1A.put (some (.x5, .x5)) vC7).frame (s1A.put (some (.x5, .x5)) vC7).hp) = true := by kernel_rfl
theorem rR7 : endsAt (.nrm) idm nmH SH (aev Tryz.prog (envA F7) tbl (nat_lit 8000) wRst stC7.frame stC7.hp) = true := by kernel_rfl
def vC8 : AV := (.a [.i .i64 (Int.ofNat (nat_lit 2)), .i .i64 (Int.ofNat (nat_lit 0)), .si .i64 (.v (nat_lit 3)), .ss (.v (nat_lit 4))])
def stC8 : Lit := ⟨(.x0, .xe, .c (.p ⟨.x0, .x0, .x8⟩ (nat_lit 0))) :: SH.fr, (⟨.x0, .x0, .x8⟩, .cells [.i .i64 (Int.ofNat (nat_lit 2)), .i .i64 (Int.ofNat (nat_lit 0)), .si .i64 (.v (nat_lit 3)), .ss (.v (nat_lit 4))]) :: SH.mem, ⟨.x0, .x0, .x9⟩⟩
def F8 : List Fact := [.cmp .geq (.v (nat_lit 3)) (.num (Int.ofNat (nat_lit 0))) false]
theorem rA8 : endsR ((⟨.x0, .x0, .x8⟩, ⟨.x0, .x0, .x8⟩) :: idm) nmId stC8 (aregion Tryz.prog (envA []) cl0 l2A (s1A.put (some (.x5, .x5)) vC8).frame (s1A.put (some (.x5, .x5)) vC8).hp) = true := by kernel_rfl
theorem rR8 : endsAt (.nrm) idm nmH SH (aev Tryz.prog (envA F8) tbl (nat_lit 8000) wRst stC8.frame stC8.hp) = true := by kernel_rfl
def vC9 : AV := (.a [.i .i64 (Int.ofNat (nat_lit 2)), .i .i64 (Int.ofNat (nat_lit 0)), .i .i64 (Int.ofNat (nat_lit 0)), .ss (.v (nat_lit 4))])
def stC9 : Lit := ⟨(.x0, .xe, .c (.p ⟨.x0, .x0, .x8⟩ (nat_lit 0))) :: SH.fr, (⟨.x0, .x0, .x8⟩, .cells [.i .i64 (Int.ofNat (nat_lit 2)), .i .i64 (Int.ofNat (nat_lit 0)), .i .i64 (Int.ofNat (nat_lit 0)), .ss (.v (nat_lit 4))]) :: SH.mem, ⟨.x0, .x0, .x9⟩⟩
def F9 : List Fact := [.rng (.f1 (nat_lit 6) (.v (nat_lit 4))) (Int.ofNat (nat_lit 0)) (Int.ofNat (nat_lit 12))]
theorem rA9 : endsR ((⟨.x0, .x0, .x8⟩, ⟨.x0, .x0, .x8⟩) :: idm) nmId stC9 (aregion Tryz.prog (envA []) cl0 l2A (s1A.put (some (.x5, .x5)) vC9).frame (s1A.put (some (.x5, .x5)) vC9).hp) = true := by kernel_rfl
theorem rR9 : endsAt (.nrm) idm nmH SH (aev Tryz.prog (envA F9) tbl (nat_lit 8000) wRst stC9.frame stC9.hp) = true := by kernel_rfl
def vC10 : AV := (.a [.i .i64 (Int.ofNat (nat_lit 2)), .i .i64 (Int.ofNat (nat_lit 0)), .i .i64 (Int.ofNat (nat_lit 1)), .ss (.v (nat_lit 4))])
def stC10 : Lit := ⟨(.x0, .xe, .c (.p ⟨.x0, .x0, .x8⟩ (nat_lit 0))) :: SH.fr, (⟨.x0, .x0, .x8⟩, .cells [.i .i64 (Int.ofNat (nat_lit 2)), .i .i64 (Int.ofNat (nat_lit 0)), .i .i64 (Int.ofNat (nat_lit 1)), .ss (.v (nat_lit 4))]) :: SH.mem, ⟨.x0, .x0, .x9⟩⟩
def F10 : List Fact := [.rng (.f1 (nat_lit 6) (.v (nat_lit 4))) (Int.ofNat (nat_lit 0)) (Int.ofNat (nat_lit 12))]
theorem rA10 : endsR ((⟨.x0, .x0, .x8⟩, ⟨.x0, .x0, .x8⟩) :: idm) nmId stC10 (aregion Tryz.prog (envA []) cl0 l2A (s1A.put (some (.x5, .x5)) vC10).frame (s1A.put (some (.x5, .x5)) vC10).hp) = true := by kernel_rfl
theorem rR10 : endsAt (.nrm) idm nmH SH (aev Tryz.prog (envA F10) tbl (nat_lit 8000) wRst stC10.frame stC10.hp) = true := by kernel_rfl
def vC11 : AV := (.a [.i .i64 (Int.ofNat (nat_lit 2)), .i .i64 (Int.ofNat (nat_lit 0)), .si .i64 (.v (nat_lit 3)), .ss (.v (nat_lit 4))])
def stC11 : Lit := ⟨(.x0, .xe, .c (.p ⟨.x0, .x0, .x8⟩ (nat_lit 0))) :: SH.fr, (⟨.x0, .x0, .x8⟩, .cells [.i .i64 (Int.ofNat (nat_lit 2)), .i .i64 (Int.ofNat (nat_lit 0)), .si .i64 (.v (nat_lit 3)), .ss (.v (nat_lit 4))]) :: SH.mem, ⟨.x0, .x0, .x9⟩⟩
def F11 : List Fact := [.cmp .geq (.v (nat_lit 3)) (.num (Int.ofNat (nat_lit 0))) true, .cmp .leq (.v (nat_lit 3)) (.num (Int.ofNat (nat_lit 15))) true, .rng (.f1 (nat_lit 6) (.v (nat_lit 4))) (Int.ofNat (nat_lit 0)) (Int.ofNat (nat_lit 12)), .cmp .eql (.num (Int.ofNat (nat_lit 1))) (.v (nat_lit 3)) false]
theorem rA11 : endsR ((⟨.x0, .x0, .x8⟩, ⟨.x0, .x0, .x8⟩) :: idm) nmId stC11 (aregion Tryz.prog (envA []) cl0 l2A (s1A.put (some (.x5, .x5)) vC11).frame (s1A.put (some (.x5, .x5)) vC11).hp) = true := by kernel_rfl
theorem rR11 : endsAt (.nrm) idm nmH SH (aev Tryz.prog (envA F11) tbl (nat_lit 8000) wRst stC11.frame stC11.hp) = true := by kernel_rfl
end Go.Proofs.YtpecbnkhppglkaaGreat
