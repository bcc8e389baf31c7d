/-
  KernelWaits: runs by cases, part 3.
-/
import Derived.Test.YtpecbnkhppglkaaGreatWS
import Derived.KernelRfl
namespace Go.Proofs.YtpecbnkhppglkaaGreat
open Go.RowKit
set_option maxRecDepth 100000
set_option linter.unusedVariables false
def vC18 : AV := (.a [.i .i64 (Int.ofNat (nat_lit 3)), .i .i64 (Int.ofNat (nat_lit 0)), .si .i64 (.v (nat_lit 3)), .s []])
def stC18 : Lit := ⟨(.x0, .xe, .c (.p ⟨.x0, .x0, .x8⟩ (nat_lit 0))) :: SH.fr, (⟨.x0, .x0, .x8⟩, .cells [.i .i64 (Int.ofNat (nat_lit 3)), .i .i64 (Int.ofNat (nat_lit 0)), .si .i64 (.v (nat_lit 3)), .s []]) :: SH.mem, ⟨.x0, .x0, .x9⟩⟩
def F18 : List Fact := [.cmp .geq (.v (nat_lit 3)) (.num (Int.ofNat (nat_lit 0))) true, .cmp .leq (.v (nat_lit 3)) (.num (Int.ofNat (nat_lit 15))) true, .cmp .eql (.num (Int.ofNat (nat_lit 1))) (.v (nat_lit 3)) false]
theorem rA18 : endsR ((⟨.x0, .x0, .x8⟩, ⟨.x0, .x0, .x8⟩) :: idm) nmId stC18 (aregion Tryz.prog (envA []) cl0 l2A (s1A.put (some (.x5, .x5)) vC18).frame (s1A.put (some (.x5, .x5)) vC18).hp) = true := by kernel_rfl
theorem rR18 : endsAt (.nrm) idm nmH SH (aev Tryz.prog (envA F18) tbl (nat_lit 8000) wRst stC18.frame stC18.hp) = true := by kernel_rfl
def vC19 : AV := (.a [.i .i64 (Int.ofNat (nat_lit 3)), .i .i64 (Int.ofNat (nat_lit 0)), .si .i64 (.v (nat_lit 3)), .s []])
def stC19 : Lit := ⟨(.x0, .xe, .c (.p ⟨.x0, .x0, .x8⟩ (nat_lit 0))) :: SH.fr, (⟨.x0, .x0, .x8⟩, .cells [.i .i64 (Int.ofNat (nat_lit 3)), .i .i64 (Int.ofNat (nat_lit 0)), .si .i64 (.v (nat_lit 3)), .s []]) :: SH.mem, ⟨.x0, .x0, .x9⟩⟩
def F19 : List Fact := [.cmp .geq (.v (nat_lit 3)) (.num (Int.ofNat (nat_lit 0))) true, .cmp .leq (.v (nat_lit 3)) (.num (Int.ofNat (nat_lit 15))) false]
theorem rA19 : endsR ((⟨.x0, .x0, .x8⟩, ⟨.x0, .x0, .x8⟩) :: idm) nmId stC19 (aregion Tryz.prog (envA []) cl0 l2A (s1A.put (some (.x5, .x5)) vC19).frame (s1A.put (some (.x5, .x5)) vC19).hp) = true := by kernel_rfl
theorem rR19 : endsAt (.nrm) idm nmH SH (aev Tryz.prog (envA F19) tbl (nat_lit 8000) wRst stC19.frame stC19.hp) = true := by kernel_rfl
def vC20 : AV := (.a [.i .i64 (Int.ofNat (nat_lit 3)), .si .i64 (.v (nat_lit 2)), .si .i64 (.v (nat_lit 3)), .s []])
def stC20 : Lit := ⟨(.x0, .xe, .c (.p ⟨.x0, .x0, .x8⟩ (nat_lit 0))) :: SH.fr, (⟨.x0, .x0, .x8⟩, .cells [.i .i64 (Int.ofNat (nat_lit 3)), .si .i64 (.v (nat_lit 2)), .si .i64 (.v (nat_lit 3)), .s []]) :: SH.mem, ⟨.x0, .x0, .x9⟩⟩
def F20 : List Fact := [.cmp .geq (.v (nat_lit 2)) (.num (Int.ofNat (nat_lit 0))) true, .cmp .leq (.v (nat_lit 2)) (.num (Int.ofNat (nat_lit 0))) false]
theorem rA20 : endsR ((⟨.x0, .x0, .x8⟩, ⟨.x0, .x0, .x8⟩) :: idm) nmId stC20 (aregion Tryz.prog (envA []) cl0 l2A (s1A.put (some (.x5, .x5)) vC20).frame (s1A.put (some (.x5, .x5)) vC20).hp) = true := by kernel_rfl
theorem rR20 : endsAt (.nrm) idm nmH SH (aev Tryz.prog (envA F20) tbl (nat_lit 8000) wRst stC20.frame stC20.hp) = true := by kernel_rfl
def vC21 : AV := (.a [.i .i64 (Int.ofNat (nat_lit 4)), .si .i64 (.v (nat_lit 2)), .si .i64 (.v (nat_lit 3)), .s []])
def stC21 : Lit := ⟨(.x0, .xe, .c (.p ⟨.x0, .x0, .x8⟩ (nat_lit 0))) :: SH.fr, (⟨.x0, .x0, .x8⟩, .cells [.i .i64 (Int.ofNat (nat_lit 4)), .si .i64 (.v (nat_lit 2)), .si .i64 (.v (nat_lit 3)), .s []]) :: SH.mem, ⟨.x0, .x0, .x9⟩⟩
def F21 : List Fact := [.cmp .geq (.v (nat_lit 2)) (.num (Int.ofNat (nat_lit 0))) false]
theorem rA21 : endsR ((⟨.x0, .x0, .x8⟩, ⟨.x0, .x0, .x8⟩) :: idm) nmId stC21 (aregion Tryz.prog (envA []) cl0 l2A (s1A.put (some (.x5, .x5)) vC21).frame (s1A.put (some (.x5, .x5)) vC21).hp) = true := by kernel_rfl
theorem rR21 : endsAt (.nrm) idm nmH SH (aev Tryz.prog (envA F21) tbl (nat_lit 8000) wRst stC21.frame stC21.hp) = true := by kernel_rfl
def vC22 : AV := (.a [.i .i64 (Int.ofNat (nat_lit 4)), .i .i64 (Int.ofNat (nat_lit 0)), .si .i64 (.v (nat_lit 3)), .s []])
def stC22 : Lit := ⟨(.x0, .xe, .c (.p ⟨.x0, .x0, .x8⟩ (nat_lit 0))) :: SH.fr, (⟨.x0, .x0, .x8⟩, .cells [.i .i64 (Int.ofNat (nat_lit 4)), .i .i64 (Int.ofNat (nat_lit 0)), .si .i64 (.v (nat_lit 3)), .s []]) :: SH.mem, ⟨.x0, .x0, .x9⟩⟩
def F22 : List Fact := [.cmp .geq (.v (nat_lit 3)) (.num (Int.ofNat (nat_lit 0))) false]
theorem rA22 : endsR ((⟨.x0, .x0, .x8⟩, ⟨.x0, .x0, .x8⟩) :: idm) nmId stC22 (aregion Tryz.prog (envA []) cl0 l2A (s1A.put (some (.x5, .x5)) vC22).frame (s1A.put (some (.x5, .x5)) vC22).hp) = true := by kernel_rfl
theorem rR22 : endsAt (.nrm) idm nmH SH (aev Tryz.prog (envA F22) tbl (nat_lit 8000) wRst stC22.frame stC22.hp) = true := by kernel_rfl
def vC23 : AV := (.a [.i .i64 (Int.ofNat (nat_lit 4)), .i .i64 (Int.ofNat (nat_lit 0)), .i .i64 (Int.ofNat (nat_lit 0)), .s []])
def stC23 : Lit := ⟨(.x0, .xe, .c (.p ⟨.x0, .x0, .x8⟩ (nat_lit 0))) :: SH.fr, (⟨.x0, .x0, .x8⟩, .cells [.i .i64 (Int.ofNat (nat_lit 4)), .i .i64 (Int.ofNat (nat_lit 0)), .i .i64 (Int.ofNat (nat_lit 0)), .s []]) :: SH.mem, ⟨.x0, .x0, .x9⟩⟩
def F23 : List Fact := []
theorem rA23 : endsR ((⟨.x0, .x0, .x8⟩, ⟨.x0, .x0, .x8⟩) :: idm) nmId stC23 (aregion Tryz.prog (envA []) cl0 l2A (s1A.put (some (.x5, .x5)) vC23).frame (s1A.put (some (.x5, .x5)) vC23).hp) = true := by kernel_rfl
theorem rR23 : endsAt (.nrm) idm nmH SH (aev Tryz.prog (envA F23) tbl (nat_lit 8000) wRst stC23.frame stC23.hp) = true := by kernel_rfl
end Go.Proofs.YtpecbnkhppglkaaGreat
