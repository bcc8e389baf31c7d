/-
  KernelWaits: runs by cases, part 6.
-/
import Derived.Test.YtpecbnkhppglkaaGreatWS
import Derived.KernelRfl
namespace Go.Proofs.YtpecbnkhppglkaaGreat
open Go.RowKit
set_option maxRecDepth 100000
set_option linter.unusedVariables false
def vC36 : AV := (.a [.i .i64 (Int.ofNat (nat_lit 6)), .i .i64 (Int.ofNat (nat_lit 0)), .si .i64 (.v (nat_lit 3)), .s []])
def stC36 : Lit := ⟨(.x0, .xe, .c (.p ⟨.x0, .x0, .x8⟩ (nat_lit 0))) :: SH.fr, (⟨.x0, .x0, .x8⟩, .cells [.i .i64 (Int.ofNat (nat_lit 6)), .i .i64 (Int.ofNat (nat_lit 0)), .si .i64 (.v (nat_lit 3)), .s []]) :: SH.mem, ⟨.x0, .x0, .x9⟩⟩
def F36 : List Fact := [.cmp .geq (.v (nat_lit 3)) (.num (Int.ofNat (nat_lit 0))) false]
theorem rA36 : endsR ((⟨.x0, .x0, .x8⟩, ⟨.x0, .x0, .x8⟩) :: idm) nmId stC36 (aregion Tryz.prog (envA []) cl0 l2A (s1A.put (some (.x5, .x5)) vC36).frame (s1A.put (some (.x5, .x5)) vC36).hp) = true := by kernel_rfl
theorem rR36 : endsAt (.nrm) idm nmH SH (aev Tryz.prog (envA F36) tbl (nat_lit 8000) wRst stC36.frame stC36.hp) = true := by kernel_rfl
def vC37 : AV := (.a [.i .i64 (Int.ofNat (nat_lit 6)), .i .i64 (Int.ofNat (nat_lit 0)), .i .i64 (Int.ofNat (nat_lit 0)), .s []])
def stC37 : Lit := ⟨(.x0, .xe, .c (.p ⟨.x0, .x0, .x8⟩ (nat_lit 0))) :: SH.fr, (⟨.x0, .x0, .x8⟩, .cells [.i .i64 (Int.ofNat (nat_lit 6)), .i .i64 (Int.ofNat (nat_lit 0)), .i .i64 (Int.ofNat (nat_lit 0)), .s []]) :: SH.mem, ⟨.x0, .x0, .x9⟩⟩
def F37 : List Fact := []
theorem rA37 : endsR ((⟨.x0, .x0, .x8⟩, ⟨.x0, .x0, .x8⟩) :: idm) nmId stC37 (aregion Tryz.prog (envA []) cl0 l2A (s1A.put (some (.x5, .x5)) vC37).frame (s1A.put (some (.x5, .x5)) vC37).hp) = true := by kernel_rfl
theorem rR37 : endsAt (.nrm) idm nmH SH (aev Tryz.prog (envA F37) tbl (nat_lit 8000) wRst stC37.frame stC37.hp) = true := by kernel_rfl
def vC38 : AV := (.a [.i .i64 (Int.ofNat (nat_lit 6)), .i .i64 (Int.ofNat (nat_lit 0)), .si .i64 (.v (nat_lit 3)), .s []])
def stC38 : Lit := ⟨(.x0, .xe, .c (.p ⟨.x0, .x0, .x8⟩ (nat_lit 0))) :: SH.fr, (⟨.x0, .x0, .x8⟩, .cells [.i .i64 (Int.ofNat (nat_lit 6)), .i .i64 (Int.ofNat (nat_lit 0)), .si .i64 (.v (nat_lit 3)), .s []]) :: SH.mem, ⟨.x0, .x0, .x9⟩⟩
def F38 : List Fact := [.cmp .geq (.v (nat_lit 3)) (.num (Int.ofNat (nat_lit 0))) true, .cmp .leq (.v (nat_lit 3)) (.num (Int.ofNat (nat_lit 0))) false]
theorem rA38 : endsR ((⟨.x0, .x0, .x8⟩, ⟨.x0, .x0, .x8⟩) :: idm) nmId stC38 (aregion Tryz.prog (envA []) cl0 l2A (s1A.put (some (.x5, .x5)) vC38).frame (s1A.put (some (.x5, .x5)) vC38).hp) = true := by kernel_rfl
theorem rR38 : endsAt (.nrm) idm nmH SH (aev Tryz.prog (envA F38) tbl (nat_lit 8000) wRst stC38.frame stC38.hp) = true := by kernel_rfl
def vC39 : AV := (.a [.i .i64 (Int.ofNat (nat_lit 6)), .si .i64 (.v (nat_lit 2)), .si .i64 (.v (nat_lit 3)), .s []])
def stC39 : Lit := ⟨(.x0, .xe, .c (.p ⟨.x0, .x0, .x8⟩ (nat_lit 0))) :: SH.fr, (⟨.x0, .x0, .x8⟩, .cells [.i .i64 (Int.ofNat (nat_lit 6)), .si .i64 (.v (nat_lit 2)), .si .i64 (.v (nat_lit 3)), .s []]) :: SH.mem, ⟨.x0, .x0, .x9⟩⟩
def F39 : List Fact := [.cmp .geq (.v (nat_lit 2)) (.num (Int.ofNat (nat_lit 0))) true, .cmp .leq (.v (nat_lit 2)) (.num (Int.ofNat (nat_lit 0))) false]
theorem rA39 : endsR ((⟨.x0, .x0, .x8⟩, ⟨.x0, .x0, .x8⟩) :: idm) nmId stC39 (aregion Tryz.prog (envA []) cl0 l2A (s1A.put (some (.x5, .x5)) vC39).frame (s1A.put (some (.x5, .x5)) vC39).hp) = true := by kernel_rfl
theorem rR39 : endsAt (.nrm) idm nmH SH (aev Tryz.prog (envA F39) tbl (nat_lit 8000) wRst stC39.frame stC39.hp) = true := by kernel_rfl
def vC40 : AV := (.a [.i .i64 (Int.ofNat (nat_lit 7)), .si .i64 (.v (nat_lit 2)), .si .i64 (.v (nat_lit 3)), .s []])
def stC40 : Lit := ⟨(.x0, .xe, .c (.p ⟨.x0, .x0, .x8⟩ (nat_lit 0))) :: SH.fr, (⟨.x0, .x0, .x8⟩, .cells [.i .i64 (Int.ofNat (nat_lit 7)), .si .i64 (.v (nat_lit 2)), .si .i64 (.v (nat_lit 3)), .s []]) :: SH.mem, ⟨.x0, .x0, .x9⟩⟩
def F40 : List Fact := [.cmp .geq (.v (nat_lit 2)) (.num (Int.ofNat (nat_lit 0))) false]
theorem rA40 : endsR ((⟨.x0, .x0, .x8⟩, ⟨.x0, .x0, .x8⟩) :: idm) nmId stC40 (aregion Tryz.prog (envA []) cl0 l2A (s1A.put (some (.x5, .x5)) vC40).frame (s1A.put (some (.x5, .x5)) vC40).hp) = true := by kernel_rfl
theorem rR40 : endsAt (.nrm) idm nmH SH (aev Tryz.prog (envA F40) tbl (nat_lit 8000) wRst stC40.frame stC40.hp) = true := by kernel_rfl
def vC41 : AV := (.a [.i .i64 (Int.ofNat (nat_lit 7)), .i .i64 (Int.ofNat (nat_lit 0)), .si .i64 (.v (nat_lit 3)), .s []])
def stC41 : Lit := ⟨(.x0, .xe, .c (.p ⟨.x0, .x0, .x8⟩ (nat_lit 0))) :: SH.fr, (⟨.x0, .x0, .x8⟩, .cells [.i .i64 (Int.ofNat (nat_lit 7)), .i .i64 (Int.ofNat (nat_lit 0)), .si .i64 (.v (nat_lit 3)), .s []]) :: SH.mem, ⟨.x0, .x0, .x9⟩⟩
def F41 : List Fact := [.cmp .geq (.v (nat_lit 3)) (.num (Int.ofNat (nat_lit 0))) false]
theorem rA41 : endsR ((⟨.x0, .x0, .x8⟩, ⟨.x0, .x0, .x8⟩) :: idm) nmId stC41 (aregion Tryz.prog (envA []) cl0 l2A (s1A.put (some (.x5, .x5)) vC41).frame (s1A.put (some (.x5, .x5)) vC41).hp) = true := by kernel_rfl
theorem rR41 : endsAt (.nrm) idm nmH SH (aev Tryz.prog (envA F41) tbl (nat_lit 8000) wRst stC41.frame stC41.hp) = true := by kernel_rfl
end Go.Proofs.YtpecbnkhppglkaaGreat
