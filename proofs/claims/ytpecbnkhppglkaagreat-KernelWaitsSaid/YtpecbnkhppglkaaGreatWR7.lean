/-
  KernelWaits: runs by cases, part 7.
-/
import Derived.Test.YtpecbnkhppglkaaGreatWS
import Derived.KernelRfl
namespace Go.Proofs.YtpecbnkhppglkaaGreat
open Go.RowKit
set_option maxRecDepth 100000
set_option linter.unusedVariables false
def vC42 : AV := (.a [.i .i64 (Int.ofNat (nat_lit 7)), .i .i64 (Int.ofNat (nat_lit 0)), .i .i64 (Int.ofNat (nat_lit 0)), .s []])
def stC42 : Lit := ⟨(.x0, .xe, .c (.p ⟨.x0, .x0, .x8⟩ (nat_lit 0))) :: SH.fr, (⟨.x0, .x0, .x8⟩, .cells [.i .i64 (Int.ofNat (nat_lit 7)), .i .i64 (Int.ofNat (nat_lit 0)), .i .i64 (Int.ofNat (nat_lit 0)), .s []]) :: SH.mem, ⟨.x0, .x0, .x9⟩⟩
def F42 : List Fact := []
theorem rA42 : endsR ((⟨.x0, .x0, .x8⟩, ⟨.x0, .x0, .x8⟩) :: idm) nmId stC42 (aregion Tryz.prog (envA []) cl0 l2A (s1A.put (some (.x5, .x5)) vC42).frame (s1A.put (some (.x5, .x5)) vC42).hp) = true := by kernel_rfl
theorem rR42 : endsAt (.nrm) idm nmH SH (aev Tryz.prog (envA F42) tbl (nat_lit 8000) wRst stC42.frame stC42.hp) = true := by kernel_rfl
def vC43 : AV := (.a [.i .i64 (Int.ofNat (nat_lit 7)), .i .i64 (Int.ofNat (nat_lit 0)), .i .i64 (Int.ofNat (nat_lit 1)), .s []])
def stC43 : Lit := ⟨(.x0, .xe, .c (.p ⟨.x0, .x0, .x8⟩ (nat_lit 0))) :: SH.fr, (⟨.x0, .x0, .x8⟩, .cells [.i .i64 (Int.ofNat (nat_lit 7)), .i .i64 (Int.ofNat (nat_lit 0)), .i .i64 (Int.ofNat (nat_lit 1)), .s []]) :: SH.mem, ⟨.x0, .x0, .x9⟩⟩
def F43 : List Fact := []
theorem rA43 : endsR ((⟨.x0, .x0, .x8⟩, ⟨.x0, .x0, .x8⟩) :: idm) nmId stC43 (aregion Tryz.prog (envA []) cl0 l2A (s1A.put (some (.x5, .x5)) vC43).frame (s1A.put (some (.x5, .x5)) vC43).hp) = true := by kernel_rfl
theorem rR43 : endsAt (.nrm) idm nmH SH (aev Tryz.prog (envA F43) tbl (nat_lit 8000) wRst stC43.frame stC43.hp) = true := by kernel_rfl
def vC44 : AV := (.a [.i .i64 (Int.ofNat (nat_lit 7)), .i .i64 (Int.ofNat (nat_lit 0)), .si .i64 (.v (nat_lit 3)), .s []])
def stC44 : Lit := ⟨(.x0, .xe, .c (.p ⟨.x0, .x0, .x8⟩ (nat_lit 0))) :: SH.fr, (⟨.x0, .x0, .x8⟩, .cells [.i .i64 (Int.ofNat (nat_lit 7)), .i .i64 (Int.ofNat (nat_lit 0)), .si .i64 (.v (nat_lit 3)), .s []]) :: SH.mem, ⟨.x0, .x0, .x9⟩⟩
def F44 : List Fact := [.cmp .geq (.v (nat_lit 3)) (.num (Int.ofNat (nat_lit 0))) true, .cmp .leq (.v (nat_lit 3)) (.num (Int.ofNat (nat_lit 7))) true, .cmp .eql (.num (Int.ofNat (nat_lit 1))) (.v (nat_lit 3)) false]
theorem rA44 : endsR ((⟨.x0, .x0, .x8⟩, ⟨.x0, .x0, .x8⟩) :: idm) nmId stC44 (aregion Tryz.prog (envA []) cl0 l2A (s1A.put (some (.x5, .x5)) vC44).frame (s1A.put (some (.x5, .x5)) vC44).hp) = true := by kernel_rfl
theorem rR44 : endsAt (.nrm) idm nmH SH (aev Tryz.prog (envA F44) tbl (nat_lit 8000) wRst stC44.frame stC44.hp) = true := by kernel_rfl
def vC45 : AV := (.a [.i .i64 (Int.ofNat (nat_lit 7)), .i .i64 (Int.ofNat (nat_lit 0)), .si .i64 (.v (nat_lit 3)), .s []])
def stC45 : Lit := ⟨(.x0, .xe, .c (.p ⟨.x0, .x0, .x8⟩ (nat_lit 0))) :: SH.fr, (⟨.x0, .x0, .x8⟩, .cells [.i .i64 (Int.ofNat (nat_lit 7)), .i .i64 (Int.ofNat (nat_lit 0)), .si .i64 (.v (nat_lit 3)), .s []]) :: SH.mem, ⟨.x0, .x0, .x9⟩⟩
def F45 : List Fact := [.cmp .geq (.v (nat_lit 3)) (.num (Int.ofNat (nat_lit 0))) true, .cmp .leq (.v (nat_lit 3)) (.num (Int.ofNat (nat_lit 7))) false]
theorem rA45 : endsR ((⟨.x0, .x0, .x8⟩, ⟨.x0, .x0, .x8⟩) :: idm) nmId stC45 (aregion Tryz.prog (envA []) cl0 l2A (s1A.put (some (.x5, .x5)) vC45).frame (s1A.put (some (.x5, .x5)) vC45).hp) = true := by kernel_rfl
theorem rR45 : endsAt (.nrm) idm nmH SH (aev Tryz.prog (envA F45) tbl (nat_lit 8000) wRst stC45.frame stC45.hp) = true := by kernel_rfl
def vC46 : AV := (.a [.i .i64 (Int.ofNat (nat_lit 7)), .si .i64 (.v (nat_lit 2)), .si .i64 (.v (nat_lit 3)), .s []])
def stC46 : Lit := ⟨(.x0, .xe, .c (.p ⟨.x0, .x0, .x8⟩ (nat_lit 0))) :: SH.fr, (⟨.x0, .x0, .x8⟩, .cells [.i .i64 (Int.ofNat (nat_lit 7)), .si .i64 (.v (nat_lit 2)), .si .i64 (.v (nat_lit 3)), .s []]) :: SH.mem, ⟨.x0, .x0, .x9⟩⟩
def F46 : List Fact := [.cmp .geq (.v (nat_lit 2)) (.num (Int.ofNat (nat_lit 0))) true, .cmp .leq (.v (nat_lit 2)) (.num (Int.ofNat (nat_lit 0))) false]
theorem rA46 : endsR ((⟨.x0, .x0, .x8⟩, ⟨.x0, .x0, .x8⟩) :: idm) nmId stC46 (aregion Tryz.prog (envA []) cl0 l2A (s1A.put (some (.x5, .x5)) vC46).frame (s1A.put (some (.x5, .x5)) vC46).hp) = true := by kernel_rfl
theorem rR46 : endsAt (.nrm) idm nmH SH (aev Tryz.prog (envA F46) tbl (nat_lit 8000) wRst stC46.frame stC46.hp) = true := by kernel_rfl
end Go.Proofs.YtpecbnkhppglkaaGreat
