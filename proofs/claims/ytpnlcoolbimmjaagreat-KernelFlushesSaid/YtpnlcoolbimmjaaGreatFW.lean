/-
  KernelFlushes answers true whatever the input.
-/
import Derived.Test.YtpnlcoolbimmjaaGreatSg
import Derived.Test.YtpnlcoolbimmjaaGreatFR0
import Derived.Test.YtpnlcoolbimmjaaGreatFR1
import Derived.Test.YtpnlcoolbimmjaaGreatFR2
import Derived.Test.YtpnlcoolbimmjaaGreatFR3
import Derived.Test.YtpnlcoolbimmjaaGreatFR4
import Derived.Test.YtpnlcoolbimmjaaGreatFR5
import Derived.Test.YtpnlcoolbimmjaaGreatFR6
import Derived.Test.YtpnlcoolbimmjaaGreatFR7
import Derived.Test.YtpnlcoolbimmjaaGreatFR8
import Derived.Test.YtpnlcoolbimmjaaGreatFR9
import Derived.Test.YtpnlcoolbimmjaaGreatFR10
import Derived.Test.YtpnlcoolbimmjaaGreatFR11
import Derived.Test.YtpnlcoolbimmjaaGreatFR12
import Derived.Test.YtpnlcoolbimmjaaGreatFR13
import Derived.Test.YtpnlcoolbimmjaaGreatFX
import Derived.Test.YtpnlcoolbimmjaaGreatOwn
import Derived.KernelRfl
import Derived.WalkKit
namespace Go.Proofs.YtpnlcoolbimmjaaGreat
open Go.RowKit
set_option maxRecDepth 100000
set_option linter.unusedVariables false
def rF (z : Nat → Option Obj) (L : List (List DV)) (n at' : Int) (b : Bool) (sl : Nat → Int) (u v : Value) : Vn := vnA (fun k => match k with | 1 => { i := n } | 2 => { i := at' } | 3 => { b := b } | 9 => { d := L } | 10 => { i := sl 0 } | 11 => { i := sl 1 } | 12 => { i := sl 2 } | 13 => { i := sl 3 } | 14 => { i := sl 4 } | _ => {}) (fun _ _ _ => {}) (fun t => match t with | .v 8 => v | _ => u) z
theorem codeF (G : List Fact) (n : Nat) : CodeOk Tryz.prog (envA (G ++ (FB ++ F0))) tbl n := code_ok (tbl_ok fun f hf => List.mem_append_right _ (List.mem_append_right _ hf)) (draw_ok mixed) n
theorem callOk0 : CallOk Tryz.prog envG cl0 := eval_ok (tbl_ok fun f hf => List.mem_append_right _ (List.mem_append_right _ hf)) mixed _
def byteF (L : List (List DV)) (j : Int) : Int := dvI (cellD L j 0)
def upd (sl : Nat → Int) (i : Nat) (v : Int) : Nat → Int := fun j => if j = i then v else sl j
/-- what is known at the loop's head -/
structure Inv (L : List (List DV)) (n at' : Int) (sl : Nat → Int) : Prop where
  len : L.length ≤ 60
  byte : ∀ j : Int, 0 ≤ j → j < L.length → 0 ≤ byteF L j ∧ byteF L j ≤ 255
  at0 : 0 ≤ at'
  at1 : at' ≤ L.length
  n1 : 1 ≤ n
  n5 : n ≤ 5
  sl : ∀ j, 0 ≤ sl j ∧ sl j ≤ 3
section
variable {z : Nat → Option Obj} {L : List (List DV)} {n at' : Int} {b : Bool} {sl : Nat → Int} {u v : Value}
theorem stdF : StdA (rF z L n at' b sl u v) := vnA_std _ _ _ _
theorem app_ok {ρ : Vn} {F G : List Fact} (h : ∀ f ∈ F, f.holds ρ) (k : ∀ f ∈ G, f.holds ρ) : ∀ f ∈ F ++ G, f.holds ρ := fun f hf => (List.mem_append.1 hf).elim (h f) (k f)
theorem wrapF (h : Inv L n at' sl) : IntKind.i64.wrap (at' + 1) = at' + 1 := IntWalk.i64_in _ (by have := h.len; have := h.at0; have := h.at1; omega)
theorem base_ok (h : Inv L n at' sl) : ∀ f ∈ FB ++ F0, f.holds (rF z L n at' b sl u v) := by
  refine app_ok ?_ ?_
  · unfold FB
    refine List.forall_mem_cons.2 ⟨⟨Int.natCast_nonneg _, ?_⟩, List.forall_mem_cons.2 ⟨⟨h.at0, ?_⟩, List.forall_mem_nil _⟩⟩
    · show (L.length : Int) ≤ 60; have := h.len; omega
    · show at' ≤ 60; have := h.len; have := h.at1; omega
  · unfold F0
    exact List.forall_mem_cons.2 ⟨h.sl 0, List.forall_mem_cons.2 ⟨h.sl 1, List.forall_mem_cons.2 ⟨h.sl 2, List.forall_mem_cons.2 ⟨h.sl 3, List.forall_mem_cons.2 ⟨h.sl 4, List.forall_mem_nil _⟩⟩⟩⟩⟩
theorem env_ok (h : Inv L n at' sl) {G : List Fact} (hG : ∀ f ∈ G, f.holds (rF z L n at' b sl u v)) : EnvOk (envA (G ++ (FB ++ F0))) (rF z L n at' b sl u v) := envA_ok stdF (app_ok hG (base_ok h))
theorem Inv.upd (h : Inv L n at' sl) (i : Nat) {x : Int} (h0 : 0 ≤ x) (h3 : x ≤ 3) : Inv L n at' (upd sl i x) := { h with sl := fun j => by unfold Go.Proofs.YtpnlcoolbimmjaaGreat.upd; split; exact ⟨h0, h3⟩; exact h.sl j }
theorem Inv.more (h : Inv L n at' sl) (hlt : at' < L.length) : Inv L n (IntKind.i64.wrap (at' + 1)) sl := { h with at0 := by rw [wrapF h]; have := h.at0; omega, at1 := by rw [wrapF h]; omega }
theorem drawn (h : Inv L n at' sl) : (L.length : Int) ≤ at' ∨ (at' < (L.length : Int) ∧ ((byteF L at').tmod 4 = 0 ∨ (byteF L at').tmod 4 = 1 ∨ (byteF L at').tmod 4 = 2 ∨ (byteF L at').tmod 4 = 3)) := by
  by_cases hl : (L.length : Int) ≤ at'
  · exact .inl hl
  · refine .inr ⟨by omega, ?_⟩
    obtain ⟨h1, h2⟩ := h.byte at' h.at0 (by omega)
    obtain ⟨m, hm⟩ := Int.eq_ofNat_of_zero_le h1
    rw [hm]
    have h3 : Int.tmod (m : Int) 4 = ((m % 4 : Nat) : Int) := rfl
    rw [h3]
    omega
theorem rem5 (h : Inv L n at' sl) (hl : at' < (L.length : Int)) : 0 ≤ (byteF L at').tmod 5 ∧ (byteF L at').tmod 5 ≤ 4 := by
  obtain ⟨h1, h2⟩ := h.byte at' h.at0 hl
  obtain ⟨m, hm⟩ := Int.eq_ofNat_of_zero_le h1
  rw [hm]
  have h3 : Int.tmod (m : Int) 5 = ((m % 5 : Nat) : Int) := rfl
  rw [h3]
  omega
theorem g0E (h : Inv L n at' sl) (hl : (L.length : Int) ≤ at') (hn : (0 : Int) < n) : ∀ f ∈ gq0, f.holds (rF z L n at' b sl u v) := by
  unfold gq0
  exact List.forall_mem_cons.2 ⟨(by show icmp .geq at' (L.length : Int) = some true; simp only [icmp, Option.some.injEq, decide_eq_true_eq]; omega), List.forall_mem_cons.2 ⟨(by show icmp .lss (0 : Int) n = some true; simp only [icmp, Option.some.injEq, decide_eq_true_eq]; omega), List.forall_mem_nil _⟩⟩
theorem g00 (h : Inv L n at' sl) (hl : at' < (L.length : Int)) (hc : (byteF L at').tmod 4 = 0) (hn : (0 : Int) < n) : ∀ f ∈ gq1, f.holds (rF z L n at' b sl u v) := by
  unfold gq1
  exact List.forall_mem_cons.2 ⟨(by show icmp .geq at' (L.length : Int) = some false; simp only [icmp, Option.some.injEq, decide_eq_false_iff_not]; omega), List.forall_mem_cons.2 ⟨(by show icmp .lss at' (L.length : Int) = some true; simp only [icmp, Option.some.injEq, decide_eq_true_eq]; omega), List.forall_mem_cons.2 ⟨⟨(by show 0 ≤ IntKind.i64.wrap (at' + 1); rw [wrapF h]; have := h.at0; omega), (by show IntKind.i64.wrap (at' + 1) ≤ 60; rw [wrapF h]; have := h.len; omega)⟩, List.forall_mem_cons.2 ⟨h.byte at' h.at0 hl, List.forall_mem_cons.2 ⟨⟨(by show (0 : Int) ≤ (byteF L at').tmod 4; omega), (by show (byteF L at').tmod 4 ≤ 0; omega)⟩, List.forall_mem_cons.2 ⟨(by show icmp .lss (0 : Int) n = some true; simp only [icmp, Option.some.injEq, decide_eq_true_eq]; omega), List.forall_mem_nil _⟩⟩⟩⟩⟩⟩
theorem g01 (h : Inv L n at' sl) (hl : at' < (L.length : Int)) (hc : (byteF L at').tmod 4 = 1) (hn : (0 : Int) < n) : ∀ f ∈ gq2, f.holds (rF z L n at' b sl u v) := by
  unfold gq2
  exact List.forall_mem_cons.2 ⟨(by show icmp .geq at' (L.length : Int) = some false; simp only [icmp, Option.some.injEq, decide_eq_false_iff_not]; omega), List.forall_mem_cons.2 ⟨(by show icmp .lss at' (L.length : Int) = some true; simp only [icmp, Option.some.injEq, decide_eq_true_eq]; omega), List.forall_mem_cons.2 ⟨⟨(by show 0 ≤ IntKind.i64.wrap (at' + 1); rw [wrapF h]; have := h.at0; omega), (by show IntKind.i64.wrap (at' + 1) ≤ 60; rw [wrapF h]; have := h.len; omega)⟩, List.forall_mem_cons.2 ⟨h.byte at' h.at0 hl, List.forall_mem_cons.2 ⟨⟨(by show (1 : Int) ≤ (byteF L at').tmod 4; omega), (by show (byteF L at').tmod 4 ≤ 1; omega)⟩, List.forall_mem_cons.2 ⟨(by show icmp .lss (0 : Int) n = some true; simp only [icmp, Option.some.injEq, decide_eq_true_eq]; omega), List.forall_mem_nil _⟩⟩⟩⟩⟩⟩
theorem g02 (h : Inv L n at' sl) (hl : at' < (L.length : Int)) (hc : (byteF L at').tmod 4 = 2) (hn : (0 : Int) < n) : ∀ f ∈ gq3, f.holds (rF z L n at' b sl u v) := by
  unfold gq3
  exact List.forall_mem_cons.2 ⟨(by show icmp .geq at' (L.length : Int) = some false; simp only [icmp, Option.some.injEq, decide_eq_false_iff_not]; omega), List.forall_mem_cons.2 ⟨(by show icmp .lss at' (L.length : Int) = some true; simp only [icmp, Option.some.injEq, decide_eq_true_eq]; omega), List.forall_mem_cons.2 ⟨⟨(by show 0 ≤ IntKind.i64.wrap (at' + 1); rw [wrapF h]; have := h.at0; omega), (by show IntKind.i64.wrap (at' + 1) ≤ 60; rw [wrapF h]; have := h.len; omega)⟩, List.forall_mem_cons.2 ⟨h.byte at' h.at0 hl, List.forall_mem_cons.2 ⟨⟨(by show (2 : Int) ≤ (byteF L at').tmod 4; omega), (by show (byteF L at').tmod 4 ≤ 2; omega)⟩, List.forall_mem_cons.2 ⟨(by show icmp .lss (0 : Int) n = some true; simp only [icmp, Option.some.injEq, decide_eq_true_eq]; omega), List.forall_mem_nil _⟩⟩⟩⟩⟩⟩
theorem g03 (h : Inv L n at' sl) (hl : at' < (L.length : Int)) (hc : (byteF L at').tmod 4 = 3) (hn : (0 : Int) < n) : ∀ f ∈ gq4, f.holds (rF z L n at' b sl u v) := by
  unfold gq4
  exact List.forall_mem_cons.2 ⟨(by show icmp .geq at' (L.length : Int) = some false; simp only [icmp, Option.some.injEq, decide_eq_false_iff_not]; omega), List.forall_mem_cons.2 ⟨(by show icmp .lss at' (L.length : Int) = some true; simp only [icmp, Option.some.injEq, decide_eq_true_eq]; omega), List.forall_mem_cons.2 ⟨⟨(by show 0 ≤ IntKind.i64.wrap (at' + 1); rw [wrapF h]; have := h.at0; omega), (by show IntKind.i64.wrap (at' + 1) ≤ 60; rw [wrapF h]; have := h.len; omega)⟩, List.forall_mem_cons.2 ⟨h.byte at' h.at0 hl, List.forall_mem_cons.2 ⟨⟨(by show (3 : Int) ≤ (byteF L at').tmod 4; omega), (by show (byteF L at').tmod 4 ≤ 3; omega)⟩, List.forall_mem_cons.2 ⟨(by show icmp .lss (0 : Int) n = some true; simp only [icmp, Option.some.injEq, decide_eq_true_eq]; omega), List.forall_mem_nil _⟩⟩⟩⟩⟩⟩
theorem g1E (h : Inv L n at' sl) (hl : (L.length : Int) ≤ at') (hn : (1 : Int) < n) : ∀ f ∈ gq5, f.holds (rF z L n at' b sl u v) := by
  unfold gq5
  exact List.forall_mem_cons.2 ⟨(by show icmp .geq at' (L.length : Int) = some true; simp only [icmp, Option.some.injEq, decide_eq_true_eq]; omega), List.forall_mem_cons.2 ⟨(by show icmp .lss (1 : Int) n = some true; simp only [icmp, Option.some.injEq, decide_eq_true_eq]; omega), List.forall_mem_nil _⟩⟩
theorem g10 (h : Inv L n at' sl) (hl : at' < (L.length : Int)) (hc : (byteF L at').tmod 4 = 0) (hn : (1 : Int) < n) : ∀ f ∈ gq6, f.holds (rF z L n at' b sl u v) := by
  unfold gq6
  exact List.forall_mem_cons.2 ⟨(by show icmp .geq at' (L.length : Int) = some false; simp only [icmp, Option.some.injEq, decide_eq_false_iff_not]; omega), List.forall_mem_cons.2 ⟨(by show icmp .lss at' (L.length : Int) = some true; simp only [icmp, Option.some.injEq, decide_eq_true_eq]; omega), List.forall_mem_cons.2 ⟨⟨(by show 0 ≤ IntKind.i64.wrap (at' + 1); rw [wrapF h]; have := h.at0; omega), (by show IntKind.i64.wrap (at' + 1) ≤ 60; rw [wrapF h]; have := h.len; omega)⟩, List.forall_mem_cons.2 ⟨h.byte at' h.at0 hl, List.forall_mem_cons.2 ⟨⟨(by show (0 : Int) ≤ (byteF L at').tmod 4; omega), (by show (byteF L at').tmod 4 ≤ 0; omega)⟩, List.forall_mem_cons.2 ⟨(by show icmp .lss (1 : Int) n = some true; simp only [icmp, Option.some.injEq, decide_eq_true_eq]; omega), List.forall_mem_nil _⟩⟩⟩⟩⟩⟩
theorem g11 (h : Inv L n at' sl) (hl : at' < (L.length : Int)) (hc : (byteF L at').tmod 4 = 1) (hn : (1 : Int) < n) : ∀ f ∈ gq7, f.holds (rF z L n at' b sl u v) := by
  unfold gq7
  exact List.forall_mem_cons.2 ⟨(by show icmp .geq at' (L.length : Int) = some false; simp only [icmp, Option.some.injEq, decide_eq_false_iff_not]; omega), List.forall_mem_cons.2 ⟨(by show icmp .lss at' (L.length : Int) = some true; simp only [icmp, Option.some.injEq, decide_eq_true_eq]; omega), List.forall_mem_cons.2 ⟨⟨(by show 0 ≤ IntKind.i64.wrap (at' + 1); rw [wrapF h]; have := h.at0; omega), (by show IntKind.i64.wrap (at' + 1) ≤ 60; rw [wrapF h]; have := h.len; omega)⟩, List.forall_mem_cons.2 ⟨h.byte at' h.at0 hl, List.forall_mem_cons.2 ⟨⟨(by show (1 : Int) ≤ (byteF L at').tmod 4; omega), (by show (byteF L at').tmod 4 ≤ 1; omega)⟩, List.forall_mem_cons.2 ⟨(by show icmp .lss (1 : Int) n = some true; simp only [icmp, Option.some.injEq, decide_eq_true_eq]; omega), List.forall_mem_nil _⟩⟩⟩⟩⟩⟩
theorem g12 (h : Inv L n at' sl) (hl : at' < (L.length : Int)) (hc : (byteF L at').tmod 4 = 2) (hn : (1 : Int) < n) : ∀ f ∈ gq8, f.holds (rF z L n at' b sl u v) := by
  unfold gq8
  exact List.forall_mem_cons.2 ⟨(by show icmp .geq at' (L.length : Int) = some false; simp only [icmp, Option.some.injEq, decide_eq_false_iff_not]; omega), List.forall_mem_cons.2 ⟨(by show icmp .lss at' (L.length : Int) = some true; simp only [icmp, Option.some.injEq, decide_eq_true_eq]; omega), List.forall_mem_cons.2 ⟨⟨(by show 0 ≤ IntKind.i64.wrap (at' + 1); rw [wrapF h]; have := h.at0; omega), (by show IntKind.i64.wrap (at' + 1) ≤ 60; rw [wrapF h]; have := h.len; omega)⟩, List.forall_mem_cons.2 ⟨h.byte at' h.at0 hl, List.forall_mem_cons.2 ⟨⟨(by show (2 : Int) ≤ (byteF L at').tmod 4; omega), (by show (byteF L at').tmod 4 ≤ 2; omega)⟩, List.forall_mem_cons.2 ⟨(by show icmp .lss (1 : Int) n = some true; simp only [icmp, Option.some.injEq, decide_eq_true_eq]; omega), List.forall_mem_nil _⟩⟩⟩⟩⟩⟩
theorem g13 (h : Inv L n at' sl) (hl : at' < (L.length : Int)) (hc : (byteF L at').tmod 4 = 3) (hn : (1 : Int) < n) : ∀ f ∈ gq9, f.holds (rF z L n at' b sl u v) := by
  unfold gq9
  exact List.forall_mem_cons.2 ⟨(by show icmp .geq at' (L.length : Int) = some false; simp only [icmp, Option.some.injEq, decide_eq_false_iff_not]; omega), List.forall_mem_cons.2 ⟨(by show icmp .lss at' (L.length : Int) = some true; simp only [icmp, Option.some.injEq, decide_eq_true_eq]; omega), List.forall_mem_cons.2 ⟨⟨(by show 0 ≤ IntKind.i64.wrap (at' + 1); rw [wrapF h]; have := h.at0; omega), (by show IntKind.i64.wrap (at' + 1) ≤ 60; rw [wrapF h]; have := h.len; omega)⟩, List.forall_mem_cons.2 ⟨h.byte at' h.at0 hl, List.forall_mem_cons.2 ⟨⟨(by show (3 : Int) ≤ (byteF L at').tmod 4; omega), (by show (byteF L at').tmod 4 ≤ 3; omega)⟩, List.forall_mem_cons.2 ⟨(by show icmp .lss (1 : Int) n = some true; simp only [icmp, Option.some.injEq, decide_eq_true_eq]; omega), List.forall_mem_nil _⟩⟩⟩⟩⟩⟩
theorem g2E (h : Inv L n at' sl) (hl : (L.length : Int) ≤ at') (hn : (2 : Int) < n) : ∀ f ∈ gq10, f.holds (rF z L n at' b sl u v) := by
  unfold gq10
  exact List.forall_mem_cons.2 ⟨(by show icmp .geq at' (L.length : Int) = some true; simp only [icmp, Option.some.injEq, decide_eq_true_eq]; omega), List.forall_mem_cons.2 ⟨(by show icmp .lss (2 : Int) n = some true; simp only [icmp, Option.some.injEq, decide_eq_true_eq]; omega), List.forall_mem_nil _⟩⟩
theorem g20 (h : Inv L n at' sl) (hl : at' < (L.length : Int)) (hc : (byteF L at').tmod 4 = 0) (hn : (2 : Int) < n) : ∀ f ∈ gq11, f.holds (rF z L n at' b sl u v) := by
  unfold gq11
  exact List.forall_mem_cons.2 ⟨(by show icmp .geq at' (L.length : Int) = some false; simp only [icmp, Option.some.injEq, decide_eq_false_iff_not]; omega), List.forall_mem_cons.2 ⟨(by show icmp .lss at' (L.length : Int) = some true; simp only [icmp, Option.some.injEq, decide_eq_true_eq]; omega), List.forall_mem_cons.2 ⟨⟨(by show 0 ≤ IntKind.i64.wrap (at' + 1); rw [wrapF h]; have := h.at0; omega), (by show IntKind.i64.wrap (at' + 1) ≤ 60; rw [wrapF h]; have := h.len; omega)⟩, List.forall_mem_cons.2 ⟨h.byte at' h.at0 hl, List.forall_mem_cons.2 ⟨⟨(by show (0 : Int) ≤ (byteF L at').tmod 4; omega), (by show (byteF L at').tmod 4 ≤ 0; omega)⟩, List.forall_mem_cons.2 ⟨(by show icmp .lss (2 : Int) n = some true; simp only [icmp, Option.some.injEq, decide_eq_true_eq]; omega), List.forall_mem_nil _⟩⟩⟩⟩⟩⟩
theorem g21 (h : Inv L n at' sl) (hl : at' < (L.length : Int)) (hc : (byteF L at').tmod 4 = 1) (hn : (2 : Int) < n) : ∀ f ∈ gq12, f.holds (rF z L n at' b sl u v) := by
  unfold gq12
  exact List.forall_mem_cons.2 ⟨(by show icmp .geq at' (L.length : Int) = some false; simp only [icmp, Option.some.injEq, decide_eq_false_iff_not]; omega), List.forall_mem_cons.2 ⟨(by show icmp .lss at' (L.length : Int) = some true; simp only [icmp, Option.some.injEq, decide_eq_true_eq]; omega), List.forall_mem_cons.2 ⟨⟨(by show 0 ≤ IntKind.i64.wrap (at' + 1); rw [wrapF h]; have := h.at0; omega), (by show IntKind.i64.wrap (at' + 1) ≤ 60; rw [wrapF h]; have := h.len; omega)⟩, List.forall_mem_cons.2 ⟨h.byte at' h.at0 hl, List.forall_mem_cons.2 ⟨⟨(by show (1 : Int) ≤ (byteF L at').tmod 4; omega), (by show (byteF L at').tmod 4 ≤ 1; omega)⟩, List.forall_mem_cons.2 ⟨(by show icmp .lss (2 : Int) n = some true; simp only [icmp, Option.some.injEq, decide_eq_true_eq]; omega), List.forall_mem_nil _⟩⟩⟩⟩⟩⟩
theorem g22 (h : Inv L n at' sl) (hl : at' < (L.length : Int)) (hc : (byteF L at').tmod 4 = 2) (hn : (2 : Int) < n) : ∀ f ∈ gq13, f.holds (rF z L n at' b sl u v) := by
  unfold gq13
  exact List.forall_mem_cons.2 ⟨(by show icmp .geq at' (L.length : Int) = some false; simp only [icmp, Option.some.injEq, decide_eq_false_iff_not]; omega), List.forall_mem_cons.2 ⟨(by show icmp .lss at' (L.length : Int) = some true; simp only [icmp, Option.some.injEq, decide_eq_true_eq]; omega), List.forall_mem_cons.2 ⟨⟨(by show 0 ≤ IntKind.i64.wrap (at' + 1); rw [wrapF h]; have := h.at0; omega), (by show IntKind.i64.wrap (at' + 1) ≤ 60; rw [wrapF h]; have := h.len; omega)⟩, List.forall_mem_cons.2 ⟨h.byte at' h.at0 hl, List.forall_mem_cons.2 ⟨⟨(by show (2 : Int) ≤ (byteF L at').tmod 4; omega), (by show (byteF L at').tmod 4 ≤ 2; omega)⟩, List.forall_mem_cons.2 ⟨(by show icmp .lss (2 : Int) n = some true; simp only [icmp, Option.some.injEq, decide_eq_true_eq]; omega), List.forall_mem_nil _⟩⟩⟩⟩⟩⟩
theorem g23 (h : Inv L n at' sl) (hl : at' < (L.length : Int)) (hc : (byteF L at').tmod 4 = 3) (hn : (2 : Int) < n) : ∀ f ∈ gq14, f.holds (rF z L n at' b sl u v) := by
  unfold gq14
  exact List.forall_mem_cons.2 ⟨(by show icmp .geq at' (L.length : Int) = some false; simp only [icmp, Option.some.injEq, decide_eq_false_iff_not]; omega), List.forall_mem_cons.2 ⟨(by show icmp .lss at' (L.length : Int) = some true; simp only [icmp, Option.some.injEq, decide_eq_true_eq]; omega), List.forall_mem_cons.2 ⟨⟨(by show 0 ≤ IntKind.i64.wrap (at' + 1); rw [wrapF h]; have := h.at0; omega), (by show IntKind.i64.wrap (at' + 1) ≤ 60; rw [wrapF h]; have := h.len; omega)⟩, List.forall_mem_cons.2 ⟨h.byte at' h.at0 hl, List.forall_mem_cons.2 ⟨⟨(by show (3 : Int) ≤ (byteF L at').tmod 4; omega), (by show (byteF L at').tmod 4 ≤ 3; omega)⟩, List.forall_mem_cons.2 ⟨(by show icmp .lss (2 : Int) n = some true; simp only [icmp, Option.some.injEq, decide_eq_true_eq]; omega), List.forall_mem_nil _⟩⟩⟩⟩⟩⟩
theorem g3E (h : Inv L n at' sl) (hl : (L.length : Int) ≤ at') (hn : (3 : Int) < n) : ∀ f ∈ gq15, f.holds (rF z L n at' b sl u v) := by
  unfold gq15
  exact List.forall_mem_cons.2 ⟨(by show icmp .geq at' (L.length : Int) = some true; simp only [icmp, Option.some.injEq, decide_eq_true_eq]; omega), List.forall_mem_cons.2 ⟨(by show icmp .lss (3 : Int) n = some true; simp only [icmp, Option.some.injEq, decide_eq_true_eq]; omega), List.forall_mem_nil _⟩⟩
theorem g30 (h : Inv L n at' sl) (hl : at' < (L.length : Int)) (hc : (byteF L at').tmod 4 = 0) (hn : (3 : Int) < n) : ∀ f ∈ gq16, f.holds (rF z L n at' b sl u v) := by
  unfold gq16
  exact List.forall_mem_cons.2 ⟨(by show icmp .geq at' (L.length : Int) = some false; simp only [icmp, Option.some.injEq, decide_eq_false_iff_not]; omega), List.forall_mem_cons.2 ⟨(by show icmp .lss at' (L.length : Int) = some true; simp only [icmp, Option.some.injEq, decide_eq_true_eq]; omega), List.forall_mem_cons.2 ⟨⟨(by show 0 ≤ IntKind.i64.wrap (at' + 1); rw [wrapF h]; have := h.at0; omega), (by show IntKind.i64.wrap (at' + 1) ≤ 60; rw [wrapF h]; have := h.len; omega)⟩, List.forall_mem_cons.2 ⟨h.byte at' h.at0 hl, List.forall_mem_cons.2 ⟨⟨(by show (0 : Int) ≤ (byteF L at').tmod 4; omega), (by show (byteF L at').tmod 4 ≤ 0; omega)⟩, List.forall_mem_cons.2 ⟨(by show icmp .lss (3 : Int) n = some true; simp only [icmp, Option.some.injEq, decide_eq_true_eq]; omega), List.forall_mem_nil _⟩⟩⟩⟩⟩⟩
theorem g31 (h : Inv L n at' sl) (hl : at' < (L.length : Int)) (hc : (byteF L at').tmod 4 = 1) (hn : (3 : Int) < n) : ∀ f ∈ gq17, f.holds (rF z L n at' b sl u v) := by
  unfold gq17
  exact List.forall_mem_cons.2 ⟨(by show icmp .geq at' (L.length : Int) = some false; simp only [icmp, Option.some.injEq, decide_eq_false_iff_not]; omega), List.forall_mem_cons.2 ⟨(by show icmp .lss at' (L.length : Int) = some true; simp only [icmp, Option.some.injEq, decide_eq_true_eq]; omega), List.forall_mem_cons.2 ⟨⟨(by show 0 ≤ IntKind.i64.wrap (at' + 1); rw [wrapF h]; have := h.at0; omega), (by show IntKind.i64.wrap (at' + 1) ≤ 60; rw [wrapF h]; have := h.len; omega)⟩, List.forall_mem_cons.2 ⟨h.byte at' h.at0 hl, List.forall_mem_cons.2 ⟨⟨(by show (1 : Int) ≤ (byteF L at').tmod 4; omega), (by show (byteF L at').tmod 4 ≤ 1; omega)⟩, List.forall_mem_cons.2 ⟨(by show icmp .lss (3 : Int) n = some true; simp only [icmp, Option.some.injEq, decide_eq_true_eq]; omega), List.forall_mem_nil _⟩⟩⟩⟩⟩⟩
theorem g32 (h : Inv L n at' sl) (hl : at' < (L.length : Int)) (hc : (byteF L at').tmod 4 = 2) (hn : (3 : Int) < n) : ∀ f ∈ gq18, f.holds (rF z L n at' b sl u v) := by
  unfold gq18
  exact List.forall_mem_cons.2 ⟨(by show icmp .geq at' (L.length : Int) = some false; simp only [icmp, Option.some.injEq, decide_eq_false_iff_not]; omega), List.forall_mem_cons.2 ⟨(by show icmp .lss at' (L.length : Int) = some true; simp only [icmp, Option.some.injEq, decide_eq_true_eq]; omega), List.forall_mem_cons.2 ⟨⟨(by show 0 ≤ IntKind.i64.wrap (at' + 1); rw [wrapF h]; have := h.at0; omega), (by show IntKind.i64.wrap (at' + 1) ≤ 60; rw [wrapF h]; have := h.len; omega)⟩, List.forall_mem_cons.2 ⟨h.byte at' h.at0 hl, List.forall_mem_cons.2 ⟨⟨(by show (2 : Int) ≤ (byteF L at').tmod 4; omega), (by show (byteF L at').tmod 4 ≤ 2; omega)⟩, List.forall_mem_cons.2 ⟨(by show icmp .lss (3 : Int) n = some true; simp only [icmp, Option.some.injEq, decide_eq_true_eq]; omega), List.forall_mem_nil _⟩⟩⟩⟩⟩⟩
theorem g33 (h : Inv L n at' sl) (hl : at' < (L.length : Int)) (hc : (byteF L at').tmod 4 = 3) (hn : (3 : Int) < n) : ∀ f ∈ gq19, f.holds (rF z L n at' b sl u v) := by
  unfold gq19
  exact List.forall_mem_cons.2 ⟨(by show icmp .geq at' (L.length : Int) = some false; simp only [icmp, Option.some.injEq, decide_eq_false_iff_not]; omega), List.forall_mem_cons.2 ⟨(by show icmp .lss at' (L.length : Int) = some true; simp only [icmp, Option.some.injEq, decide_eq_true_eq]; omega), List.forall_mem_cons.2 ⟨⟨(by show 0 ≤ IntKind.i64.wrap (at' + 1); rw [wrapF h]; have := h.at0; omega), (by show IntKind.i64.wrap (at' + 1) ≤ 60; rw [wrapF h]; have := h.len; omega)⟩, List.forall_mem_cons.2 ⟨h.byte at' h.at0 hl, List.forall_mem_cons.2 ⟨⟨(by show (3 : Int) ≤ (byteF L at').tmod 4; omega), (by show (byteF L at').tmod 4 ≤ 3; omega)⟩, List.forall_mem_cons.2 ⟨(by show icmp .lss (3 : Int) n = some true; simp only [icmp, Option.some.injEq, decide_eq_true_eq]; omega), List.forall_mem_nil _⟩⟩⟩⟩⟩⟩
theorem g4E (h : Inv L n at' sl) (hl : (L.length : Int) ≤ at') (hn : (4 : Int) < n) : ∀ f ∈ gq20, f.holds (rF z L n at' b sl u v) := by
  unfold gq20
  exact List.forall_mem_cons.2 ⟨(by show icmp .geq at' (L.length : Int) = some true; simp only [icmp, Option.some.injEq, decide_eq_true_eq]; omega), List.forall_mem_cons.2 ⟨(by show icmp .lss (4 : Int) n = some true; simp only [icmp, Option.some.injEq, decide_eq_true_eq]; omega), List.forall_mem_nil _⟩⟩
theorem g40 (h : Inv L n at' sl) (hl : at' < (L.length : Int)) (hc : (byteF L at').tmod 4 = 0) (hn : (4 : Int) < n) : ∀ f ∈ gq21, f.holds (rF z L n at' b sl u v) := by
  unfold gq21
  exact List.forall_mem_cons.2 ⟨(by show icmp .geq at' (L.length : Int) = some false; simp only [icmp, Option.some.injEq, decide_eq_false_iff_not]; omega), List.forall_mem_cons.2 ⟨(by show icmp .lss at' (L.length : Int) = some true; simp only [icmp, Option.some.injEq, decide_eq_true_eq]; omega), List.forall_mem_cons.2 ⟨⟨(by show 0 ≤ IntKind.i64.wrap (at' + 1); rw [wrapF h]; have := h.at0; omega), (by show IntKind.i64.wrap (at' + 1) ≤ 60; rw [wrapF h]; have := h.len; omega)⟩, List.forall_mem_cons.2 ⟨h.byte at' h.at0 hl, List.forall_mem_cons.2 ⟨⟨(by show (0 : Int) ≤ (byteF L at').tmod 4; omega), (by show (byteF L at').tmod 4 ≤ 0; omega)⟩, List.forall_mem_cons.2 ⟨(by show icmp .lss (4 : Int) n = some true; simp only [icmp, Option.some.injEq, decide_eq_true_eq]; omega), List.forall_mem_nil _⟩⟩⟩⟩⟩⟩
theorem g41 (h : Inv L n at' sl) (hl : at' < (L.length : Int)) (hc : (byteF L at').tmod 4 = 1) (hn : (4 : Int) < n) : ∀ f ∈ gq22, f.holds (rF z L n at' b sl u v) := by
  unfold gq22
  exact List.forall_mem_cons.2 ⟨(by show icmp .geq at' (L.length : Int) = some false; simp only [icmp, Option.some.injEq, decide_eq_false_iff_not]; omega), List.forall_mem_cons.2 ⟨(by show icmp .lss at' (L.length : Int) = some true; simp only [icmp, Option.some.injEq, decide_eq_true_eq]; omega), List.forall_mem_cons.2 ⟨⟨(by show 0 ≤ IntKind.i64.wrap (at' + 1); rw [wrapF h]; have := h.at0; omega), (by show IntKind.i64.wrap (at' + 1) ≤ 60; rw [wrapF h]; have := h.len; omega)⟩, List.forall_mem_cons.2 ⟨h.byte at' h.at0 hl, List.forall_mem_cons.2 ⟨⟨(by show (1 : Int) ≤ (byteF L at').tmod 4; omega), (by show (byteF L at').tmod 4 ≤ 1; omega)⟩, List.forall_mem_cons.2 ⟨(by show icmp .lss (4 : Int) n = some true; simp only [icmp, Option.some.injEq, decide_eq_true_eq]; omega), List.forall_mem_nil _⟩⟩⟩⟩⟩⟩
theorem g42 (h : Inv L n at' sl) (hl : at' < (L.length : Int)) (hc : (byteF L at').tmod 4 = 2) (hn : (4 : Int) < n) : ∀ f ∈ gq23, f.holds (rF z L n at' b sl u v) := by
  unfold gq23
  exact List.forall_mem_cons.2 ⟨(by show icmp .geq at' (L.length : Int) = some false; simp only [icmp, Option.some.injEq, decide_eq_false_iff_not]; omega), List.forall_mem_cons.2 ⟨(by show icmp .lss at' (L.length : Int) = some true; simp only [icmp, Option.some.injEq, decide_eq_true_eq]; omega), List.forall_mem_cons.2 ⟨⟨(by show 0 ≤ IntKind.i64.wrap (at' + 1); rw [wrapF h]; have := h.at0; omega), (by show IntKind.i64.wrap (at' + 1) ≤ 60; rw [wrapF h]; have := h.len; omega)⟩, List.forall_mem_cons.2 ⟨h.byte at' h.at0 hl, List.forall_mem_cons.2 ⟨⟨(by show (2 : Int) ≤ (byteF L at').tmod 4; omega), (by show (byteF L at').tmod 4 ≤ 2; omega)⟩, List.forall_mem_cons.2 ⟨(by show icmp .lss (4 : Int) n = some true; simp only [icmp, Option.some.injEq, decide_eq_true_eq]; omega), List.forall_mem_nil _⟩⟩⟩⟩⟩⟩
theorem g43 (h : Inv L n at' sl) (hl : at' < (L.length : Int)) (hc : (byteF L at').tmod 4 = 3) (hn : (4 : Int) < n) : ∀ f ∈ gq24, f.holds (rF z L n at' b sl u v) := by
  unfold gq24
  exact List.forall_mem_cons.2 ⟨(by show icmp .geq at' (L.length : Int) = some false; simp only [icmp, Option.some.injEq, decide_eq_false_iff_not]; omega), List.forall_mem_cons.2 ⟨(by show icmp .lss at' (L.length : Int) = some true; simp only [icmp, Option.some.injEq, decide_eq_true_eq]; omega), List.forall_mem_cons.2 ⟨⟨(by show 0 ≤ IntKind.i64.wrap (at' + 1); rw [wrapF h]; have := h.at0; omega), (by show IntKind.i64.wrap (at' + 1) ≤ 60; rw [wrapF h]; have := h.len; omega)⟩, List.forall_mem_cons.2 ⟨h.byte at' h.at0 hl, List.forall_mem_cons.2 ⟨⟨(by show (3 : Int) ≤ (byteF L at').tmod 4; omega), (by show (byteF L at').tmod 4 ≤ 3; omega)⟩, List.forall_mem_cons.2 ⟨(by show icmp .lss (4 : Int) n = some true; simp only [icmp, Option.some.injEq, decide_eq_true_eq]; omega), List.forall_mem_nil _⟩⟩⟩⟩⟩⟩
theorem gIE_ok (hl : (L.length : Int) ≤ at') : ∀ f ∈ gIE, f.holds (rF z L n at' b sl u v) := by
  unfold gIE
  exact List.forall_mem_cons.2 ⟨(by show icmp .geq at' (L.length : Int) = some true; simp only [icmp, Option.some.injEq, decide_eq_true_eq]; omega), List.forall_mem_nil _⟩
theorem gID_ok (h : Inv L n at' sl) (hl : at' < (L.length : Int)) : ∀ f ∈ gID, f.holds (rF z L n at' b sl u v) := by
  have h5 := rem5 h hl
  have hw : IntKind.i64.wrap (1 + (byteF L at').tmod 5) = 1 + (byteF L at').tmod 5 := IntWalk.i64_in _ (by omega)
  unfold gID
  exact List.forall_mem_cons.2 ⟨(by show icmp .geq at' (L.length : Int) = some false; simp only [icmp, Option.some.injEq, decide_eq_false_iff_not]; omega), List.forall_mem_cons.2 ⟨(by show icmp .lss at' (L.length : Int) = some true; simp only [icmp, Option.some.injEq, decide_eq_true_eq]; omega), List.forall_mem_cons.2 ⟨⟨(by show 0 ≤ IntKind.i64.wrap (at' + 1); rw [wrapF h]; have := h.at0; omega), (by show IntKind.i64.wrap (at' + 1) ≤ 60; rw [wrapF h]; have := h.len; omega)⟩, List.forall_mem_cons.2 ⟨h.byte at' h.at0 hl, List.forall_mem_cons.2 ⟨h5, List.forall_mem_cons.2 ⟨⟨(by show 1 ≤ IntKind.i64.wrap (1 + (byteF L at').tmod 5); rw [hw]; omega), (by show IntKind.i64.wrap (1 + (byteF L at').tmod 5) ≤ 5; rw [hw]; omega)⟩, List.forall_mem_nil _⟩⟩⟩⟩⟩⟩
theorem ren_nq0 : Ren (rF z L n at' b sl u v) (rF z L n at' b (upd sl 0 0) u v) nq0 := ⟨fun _ => rfl, fun _ => rfl, fun x h => by
  simp only [nq0, List.mem_cons, List.not_mem_nil, or_false] at h
  rcases h with rfl | rfl | rfl
  all_goals rfl, fun _ h => (nomatch h), fun x h => by
  simp only [nq0, List.mem_cons, List.not_mem_nil, or_false] at h
  subst h; rfl, fun x h => by
  simp only [nq0, List.mem_cons, List.not_mem_nil, or_false] at h
  subst h; rfl, fun _ h => (nomatch h), rfl⟩
theorem ren_nq1 : Ren (rF z L n at' b sl u v) (rF z L n (IntKind.i64.wrap (at' + 1)) b (upd sl 0 0) u v) nq1 := ⟨fun _ => rfl, fun _ => rfl, fun x h => by
  simp only [nq1, List.mem_cons, List.not_mem_nil, or_false] at h
  rcases h with rfl | rfl | rfl
  all_goals rfl, fun _ h => (nomatch h), fun x h => by
  simp only [nq1, List.mem_cons, List.not_mem_nil, or_false] at h
  subst h; rfl, fun x h => by
  simp only [nq1, List.mem_cons, List.not_mem_nil, or_false] at h
  subst h; rfl, fun _ h => (nomatch h), rfl⟩
theorem ren_nq2 : Ren (rF z L n at' b sl u v) (rF z L n (IntKind.i64.wrap (at' + 1)) b (upd sl 0 1) u v) nq2 := ⟨fun _ => rfl, fun _ => rfl, fun x h => by
  simp only [nq2, List.mem_cons, List.not_mem_nil, or_false] at h
  rcases h with rfl | rfl | rfl
  all_goals rfl, fun _ h => (nomatch h), fun x h => by
  simp only [nq2, List.mem_cons, List.not_mem_nil, or_false] at h
  subst h; rfl, fun x h => by
  simp only [nq2, List.mem_cons, List.not_mem_nil, or_false] at h
  subst h; rfl, fun _ h => (nomatch h), rfl⟩
theorem ren_nq3 : Ren (rF z L n at' b sl u v) (rF z L n (IntKind.i64.wrap (at' + 1)) b (upd sl 0 2) u v) nq3 := ⟨fun _ => rfl, fun _ => rfl, fun x h => by
  simp only [nq3, List.mem_cons, List.not_mem_nil, or_false] at h
  rcases h with rfl | rfl | rfl
  all_goals rfl, fun _ h => (nomatch h), fun x h => by
  simp only [nq3, List.mem_cons, List.not_mem_nil, or_false] at h
  subst h; rfl, fun x h => by
  simp only [nq3, List.mem_cons, List.not_mem_nil, or_false] at h
  subst h; rfl, fun _ h => (nomatch h), rfl⟩
theorem ren_nq4 : Ren (rF z L n at' b sl u v) (rF z L n (IntKind.i64.wrap (at' + 1)) b (upd sl 0 3) u v) nq4 := ⟨fun _ => rfl, fun _ => rfl, fun x h => by
  simp only [nq4, List.mem_cons, List.not_mem_nil, or_false] at h
  rcases h with rfl | rfl | rfl
  all_goals rfl, fun _ h => (nomatch h), fun x h => by
  simp only [nq4, List.mem_cons, List.not_mem_nil, or_false] at h
  subst h; rfl, fun x h => by
  simp only [nq4, List.mem_cons, List.not_mem_nil, or_false] at h
  subst h; rfl, fun _ h => (nomatch h), rfl⟩
theorem ren_nq5 : Ren (rF z L n at' b sl u v) (rF z L n at' b (upd sl 1 0) u v) nq5 := ⟨fun _ => rfl, fun _ => rfl, fun x h => by
  simp only [nq5, List.mem_cons, List.not_mem_nil, or_false] at h
  rcases h with rfl | rfl | rfl | rfl
  all_goals rfl, fun _ h => (nomatch h), fun x h => by
  simp only [nq5, List.mem_cons, List.not_mem_nil, or_false] at h
  subst h; rfl, fun x h => by
  simp only [nq5, List.mem_cons, List.not_mem_nil, or_false] at h
  subst h; rfl, fun _ h => (nomatch h), rfl⟩
theorem ren_nq6 : Ren (rF z L n at' b sl u v) (rF z L n (IntKind.i64.wrap (at' + 1)) b (upd sl 1 0) u v) nq6 := ⟨fun _ => rfl, fun _ => rfl, fun x h => by
  simp only [nq6, List.mem_cons, List.not_mem_nil, or_false] at h
  rcases h with rfl | rfl | rfl | rfl
  all_goals rfl, fun _ h => (nomatch h), fun x h => by
  simp only [nq6, List.mem_cons, List.not_mem_nil, or_false] at h
  subst h; rfl, fun x h => by
  simp only [nq6, List.mem_cons, List.not_mem_nil, or_false] at h
  subst h; rfl, fun _ h => (nomatch h), rfl⟩
theorem ren_nq7 : Ren (rF z L n at' b sl u v) (rF z L n (IntKind.i64.wrap (at' + 1)) b (upd sl 1 1) u v) nq7 := ⟨fun _ => rfl, fun _ => rfl, fun x h => by
  simp only [nq7, List.mem_cons, List.not_mem_nil, or_false] at h
  rcases h with rfl | rfl | rfl | rfl
  all_goals rfl, fun _ h => (nomatch h), fun x h => by
  simp only [nq7, List.mem_cons, List.not_mem_nil, or_false] at h
  subst h; rfl, fun x h => by
  simp only [nq7, List.mem_cons, List.not_mem_nil, or_false] at h
  subst h; rfl, fun _ h => (nomatch h), rfl⟩
theorem ren_nq8 : Ren (rF z L n at' b sl u v) (rF z L n (IntKind.i64.wrap (at' + 1)) b (upd sl 1 2) u v) nq8 := ⟨fun _ => rfl, fun _ => rfl, fun x h => by
  simp only [nq8, List.mem_cons, List.not_mem_nil, or_false] at h
  rcases h with rfl | rfl | rfl | rfl
  all_goals rfl, fun _ h => (nomatch h), fun x h => by
  simp only [nq8, List.mem_cons, List.not_mem_nil, or_false] at h
  subst h; rfl, fun x h => by
  simp only [nq8, List.mem_cons, List.not_mem_nil, or_false] at h
  subst h; rfl, fun _ h => (nomatch h), rfl⟩
theorem ren_nq9 : Ren (rF z L n at' b sl u v) (rF z L n (IntKind.i64.wrap (at' + 1)) b (upd sl 1 3) u v) nq9 := ⟨fun _ => rfl, fun _ => rfl, fun x h => by
  simp only [nq9, List.mem_cons, List.not_mem_nil, or_false] at h
  rcases h with rfl | rfl | rfl | rfl
  all_goals rfl, fun _ h => (nomatch h), fun x h => by
  simp only [nq9, List.mem_cons, List.not_mem_nil, or_false] at h
  subst h; rfl, fun x h => by
  simp only [nq9, List.mem_cons, List.not_mem_nil, or_false] at h
  subst h; rfl, fun _ h => (nomatch h), rfl⟩
theorem ren_nq10 : Ren (rF z L n at' b sl u v) (rF z L n at' b (upd sl 2 0) u v) nq10 := ⟨fun _ => rfl, fun _ => rfl, fun x h => by
  simp only [nq10, List.mem_cons, List.not_mem_nil, or_false] at h
  rcases h with rfl | rfl | rfl | rfl | rfl
  all_goals rfl, fun _ h => (nomatch h), fun x h => by
  simp only [nq10, List.mem_cons, List.not_mem_nil, or_false] at h
  subst h; rfl, fun x h => by
  simp only [nq10, List.mem_cons, List.not_mem_nil, or_false] at h
  subst h; rfl, fun _ h => (nomatch h), rfl⟩
theorem ren_nq11 : Ren (rF z L n at' b sl u v) (rF z L n (IntKind.i64.wrap (at' + 1)) b (upd sl 2 0) u v) nq11 := ⟨fun _ => rfl, fun _ => rfl, fun x h => by
  simp only [nq11, List.mem_cons, List.not_mem_nil, or_false] at h
  rcases h with rfl | rfl | rfl | rfl | rfl
  all_goals rfl, fun _ h => (nomatch h), fun x h => by
  simp only [nq11, List.mem_cons, List.not_mem_nil, or_false] at h
  subst h; rfl, fun x h => by
  simp only [nq11, List.mem_cons, List.not_mem_nil, or_false] at h
  subst h; rfl, fun _ h => (nomatch h), rfl⟩
theorem ren_nq12 : Ren (rF z L n at' b sl u v) (rF z L n (IntKind.i64.wrap (at' + 1)) b (upd sl 2 1) u v) nq12 := ⟨fun _ => rfl, fun _ => rfl, fun x h => by
  simp only [nq12, List.mem_cons, List.not_mem_nil, or_false] at h
  rcases h with rfl | rfl | rfl | rfl | rfl
  all_goals rfl, fun _ h => (nomatch h), fun x h => by
  simp only [nq12, List.mem_cons, List.not_mem_nil, or_false] at h
  subst h; rfl, fun x h => by
  simp only [nq12, List.mem_cons, List.not_mem_nil, or_false] at h
  subst h; rfl, fun _ h => (nomatch h), rfl⟩
theorem ren_nq13 : Ren (rF z L n at' b sl u v) (rF z L n (IntKind.i64.wrap (at' + 1)) b (upd sl 2 2) u v) nq13 := ⟨fun _ => rfl, fun _ => rfl, fun x h => by
  simp only [nq13, List.mem_cons, List.not_mem_nil, or_false] at h
  rcases h with rfl | rfl | rfl | rfl | rfl
  all_goals rfl, fun _ h => (nomatch h), fun x h => by
  simp only [nq13, List.mem_cons, List.not_mem_nil, or_false] at h
  subst h; rfl, fun x h => by
  simp only [nq13, List.mem_cons, List.not_mem_nil, or_false] at h
  subst h; rfl, fun _ h => (nomatch h), rfl⟩
theorem ren_nq14 : Ren (rF z L n at' b sl u v) (rF z L n (IntKind.i64.wrap (at' + 1)) b (upd sl 2 3) u v) nq14 := ⟨fun _ => rfl, fun _ => rfl, fun x h => by
  simp only [nq14, List.mem_cons, List.not_mem_nil, or_false] at h
  rcases h with rfl | rfl | rfl | rfl | rfl
  all_goals rfl, fun _ h => (nomatch h), fun x h => by
  simp only [nq14, List.mem_cons, List.not_mem_nil, or_false] at h
  subst h; rfl, fun x h => by
  simp only [nq14, List.mem_cons, List.not_mem_nil, or_false] at h
  subst h; rfl, fun _ h => (nomatch h), rfl⟩
theorem ren_nq15 : Ren (rF z L n at' b sl u v) (rF z L n at' b (upd sl 3 0) u v) nq15 := ⟨fun _ => rfl, fun _ => rfl, fun x h => by
  simp only [nq15, List.mem_cons, List.not_mem_nil, or_false] at h
  rcases h with rfl | rfl | rfl | rfl | rfl | rfl
  all_goals rfl, fun _ h => (nomatch h), fun x h => by
  simp only [nq15, List.mem_cons, List.not_mem_nil, or_false] at h
  subst h; rfl, fun x h => by
  simp only [nq15, List.mem_cons, List.not_mem_nil, or_false] at h
  subst h; rfl, fun _ h => (nomatch h), rfl⟩
theorem ren_nq16 : Ren (rF z L n at' b sl u v) (rF z L n (IntKind.i64.wrap (at' + 1)) b (upd sl 3 0) u v) nq16 := ⟨fun _ => rfl, fun _ => rfl, fun x h => by
  simp only [nq16, List.mem_cons, List.not_mem_nil, or_false] at h
  rcases h with rfl | rfl | rfl | rfl | rfl | rfl
  all_goals rfl, fun _ h => (nomatch h), fun x h => by
  simp only [nq16, List.mem_cons, List.not_mem_nil, or_false] at h
  subst h; rfl, fun x h => by
  simp only [nq16, List.mem_cons, List.not_mem_nil, or_false] at h
  subst h; rfl, fun _ h => (nomatch h), rfl⟩
theorem ren_nq17 : Ren (rF z L n at' b sl u v) (rF z L n (IntKind.i64.wrap (at' + 1)) b (upd sl 3 1) u v) nq17 := ⟨fun _ => rfl, fun _ => rfl, fun x h => by
  simp only [nq17, List.mem_cons, List.not_mem_nil, or_false] at h
  rcases h with rfl | rfl | rfl | rfl | rfl | rfl
  all_goals rfl, fun _ h => (nomatch h), fun x h => by
  simp only [nq17, List.mem_cons, List.not_mem_nil, or_false] at h
  subst h; rfl, fun x h => by
  simp only [nq17, List.mem_cons, List.not_mem_nil, or_false] at h
  subst h; rfl, fun _ h => (nomatch h), rfl⟩
theorem ren_nq18 : Ren (rF z L n at' b sl u v) (rF z L n (IntKind.i64.wrap (at' + 1)) b (upd sl 3 2) u v) nq18 := ⟨fun _ => rfl, fun _ => rfl, fun x h => by
  simp only [nq18, List.mem_cons, List.not_mem_nil, or_false] at h
  rcases h with rfl | rfl | rfl | rfl | rfl | rfl
  all_goals rfl, fun _ h => (nomatch h), fun x h => by
  simp only [nq18, List.mem_cons, List.not_mem_nil, or_false] at h
  subst h; rfl, fun x h => by
  simp only [nq18, List.mem_cons, List.not_mem_nil, or_false] at h
  subst h; rfl, fun _ h => (nomatch h), rfl⟩
theorem ren_nq19 : Ren (rF z L n at' b sl u v) (rF z L n (IntKind.i64.wrap (at' + 1)) b (upd sl 3 3) u v) nq19 := ⟨fun _ => rfl, fun _ => rfl, fun x h => by
  simp only [nq19, List.mem_cons, List.not_mem_nil, or_false] at h
  rcases h with rfl | rfl | rfl | rfl | rfl | rfl
  all_goals rfl, fun _ h => (nomatch h), fun x h => by
  simp only [nq19, List.mem_cons, List.not_mem_nil, or_false] at h
  subst h; rfl, fun x h => by
  simp only [nq19, List.mem_cons, List.not_mem_nil, or_false] at h
  subst h; rfl, fun _ h => (nomatch h), rfl⟩
theorem ren_nq20 : Ren (rF z L n at' b sl u v) (rF z L n at' b (upd sl 4 0) u v) nq20 := ⟨fun _ => rfl, fun _ => rfl, fun x h => by
  simp only [nq20, List.mem_cons, List.not_mem_nil, or_false] at h
  rcases h with rfl | rfl | rfl | rfl | rfl | rfl | rfl
  all_goals rfl, fun _ h => (nomatch h), fun x h => by
  simp only [nq20, List.mem_cons, List.not_mem_nil, or_false] at h
  subst h; rfl, fun x h => by
  simp only [nq20, List.mem_cons, List.not_mem_nil, or_false] at h
  subst h; rfl, fun _ h => (nomatch h), rfl⟩
theorem ren_nq21 : Ren (rF z L n at' b sl u v) (rF z L n (IntKind.i64.wrap (at' + 1)) b (upd sl 4 0) u v) nq21 := ⟨fun _ => rfl, fun _ => rfl, fun x h => by
  simp only [nq21, List.mem_cons, List.not_mem_nil, or_false] at h
  rcases h with rfl | rfl | rfl | rfl | rfl | rfl | rfl
  all_goals rfl, fun _ h => (nomatch h), fun x h => by
  simp only [nq21, List.mem_cons, List.not_mem_nil, or_false] at h
  subst h; rfl, fun x h => by
  simp only [nq21, List.mem_cons, List.not_mem_nil, or_false] at h
  subst h; rfl, fun _ h => (nomatch h), rfl⟩
theorem ren_nq22 : Ren (rF z L n at' b sl u v) (rF z L n (IntKind.i64.wrap (at' + 1)) b (upd sl 4 1) u v) nq22 := ⟨fun _ => rfl, fun _ => rfl, fun x h => by
  simp only [nq22, List.mem_cons, List.not_mem_nil, or_false] at h
  rcases h with rfl | rfl | rfl | rfl | rfl | rfl | rfl
  all_goals rfl, fun _ h => (nomatch h), fun x h => by
  simp only [nq22, List.mem_cons, List.not_mem_nil, or_false] at h
  subst h; rfl, fun x h => by
  simp only [nq22, List.mem_cons, List.not_mem_nil, or_false] at h
  subst h; rfl, fun _ h => (nomatch h), rfl⟩
theorem ren_nq23 : Ren (rF z L n at' b sl u v) (rF z L n (IntKind.i64.wrap (at' + 1)) b (upd sl 4 2) u v) nq23 := ⟨fun _ => rfl, fun _ => rfl, fun x h => by
  simp only [nq23, List.mem_cons, List.not_mem_nil, or_false] at h
  rcases h with rfl | rfl | rfl | rfl | rfl | rfl | rfl
  all_goals rfl, fun _ h => (nomatch h), fun x h => by
  simp only [nq23, List.mem_cons, List.not_mem_nil, or_false] at h
  subst h; rfl, fun x h => by
  simp only [nq23, List.mem_cons, List.not_mem_nil, or_false] at h
  subst h; rfl, fun _ h => (nomatch h), rfl⟩
theorem ren_nq24 : Ren (rF z L n at' b sl u v) (rF z L n (IntKind.i64.wrap (at' + 1)) b (upd sl 4 3) u v) nq24 := ⟨fun _ => rfl, fun _ => rfl, fun x h => by
  simp only [nq24, List.mem_cons, List.not_mem_nil, or_false] at h
  rcases h with rfl | rfl | rfl | rfl | rfl | rfl | rfl
  all_goals rfl, fun _ h => (nomatch h), fun x h => by
  simp only [nq24, List.mem_cons, List.not_mem_nil, or_false] at h
  subst h; rfl, fun x h => by
  simp only [nq24, List.mem_cons, List.not_mem_nil, or_false] at h
  subst h; rfl, fun _ h => (nomatch h), rfl⟩
theorem renX0 : Ren (rF z L n at' b sl u v) (rF z L n at' b sl u v) nX0 := ⟨fun _ => rfl, fun _ => rfl, fun x h => by
  simp only [nX0, List.mem_cons, List.not_mem_nil, or_false] at h
  rcases h with rfl | rfl
  all_goals rfl, fun _ h => (nomatch h), fun x h => by
  simp only [nX0, List.mem_cons, List.not_mem_nil, or_false] at h
  subst h; rfl, fun x h => by
  simp only [nX0, List.mem_cons, List.not_mem_nil, or_false] at h
  subst h; rfl, fun _ h => (nomatch h), rfl⟩
theorem gX0_ok (hn : n ≤ 0) : ∀ f ∈ gX0, f.holds (rF z L n at' b sl u v) := by
  unfold gX0
  exact List.forall_mem_cons.2 ⟨(by show icmp .lss (0 : Int) n = some false; simp only [icmp, Option.some.injEq, decide_eq_false_iff_not]; omega), List.forall_mem_nil _⟩
theorem renX1 : Ren (rF z L n at' b sl u v) (rF z L n at' b sl u v) nX1 := ⟨fun _ => rfl, fun _ => rfl, fun x h => by
  simp only [nX1, List.mem_cons, List.not_mem_nil, or_false] at h
  rcases h with rfl | rfl | rfl
  all_goals rfl, fun _ h => (nomatch h), fun x h => by
  simp only [nX1, List.mem_cons, List.not_mem_nil, or_false] at h
  subst h; rfl, fun x h => by
  simp only [nX1, List.mem_cons, List.not_mem_nil, or_false] at h
  subst h; rfl, fun _ h => (nomatch h), rfl⟩
theorem gX1_ok (hn : n ≤ 1) : ∀ f ∈ gX1, f.holds (rF z L n at' b sl u v) := by
  unfold gX1
  exact List.forall_mem_cons.2 ⟨(by show icmp .lss (1 : Int) n = some false; simp only [icmp, Option.some.injEq, decide_eq_false_iff_not]; omega), List.forall_mem_nil _⟩
theorem gF1_ok (hn : n = 1) : ∀ f ∈ gq25, f.holds (rF z L n at' b sl u v) := by
  subst hn
  unfold gq25
  exact List.forall_mem_cons.2 ⟨⟨Int.le_refl _, Int.le_refl _⟩, List.forall_mem_cons.2 ⟨⟨Int.le_refl _, Int.le_refl _⟩, List.forall_mem_nil _⟩⟩
theorem renX2 : Ren (rF z L n at' b sl u v) (rF z L n at' b sl u v) nX2 := ⟨fun _ => rfl, fun _ => rfl, fun x h => by
  simp only [nX2, List.mem_cons, List.not_mem_nil, or_false] at h
  rcases h with rfl | rfl | rfl | rfl
  all_goals rfl, fun _ h => (nomatch h), fun x h => by
  simp only [nX2, List.mem_cons, List.not_mem_nil, or_false] at h
  subst h; rfl, fun x h => by
  simp only [nX2, List.mem_cons, List.not_mem_nil, or_false] at h
  subst h; rfl, fun _ h => (nomatch h), rfl⟩
theorem gX2_ok (hn : n ≤ 2) : ∀ f ∈ gX2, f.holds (rF z L n at' b sl u v) := by
  unfold gX2
  exact List.forall_mem_cons.2 ⟨(by show icmp .lss (2 : Int) n = some false; simp only [icmp, Option.some.injEq, decide_eq_false_iff_not]; omega), List.forall_mem_nil _⟩
theorem gF2_ok (hn : n = 2) : ∀ f ∈ gq26, f.holds (rF z L n at' b sl u v) := by
  subst hn
  unfold gq26
  exact List.forall_mem_cons.2 ⟨⟨Int.le_refl _, Int.le_refl _⟩, List.forall_mem_cons.2 ⟨⟨Int.le_refl _, Int.le_refl _⟩, List.forall_mem_nil _⟩⟩
theorem renX3 : Ren (rF z L n at' b sl u v) (rF z L n at' b sl u v) nX3 := ⟨fun _ => rfl, fun _ => rfl, fun x h => by
  simp only [nX3, List.mem_cons, List.not_mem_nil, or_false] at h
  rcases h with rfl | rfl | rfl | rfl | rfl
  all_goals rfl, fun _ h => (nomatch h), fun x h => by
  simp only [nX3, List.mem_cons, List.not_mem_nil, or_false] at h
  subst h; rfl, fun x h => by
  simp only [nX3, List.mem_cons, List.not_mem_nil, or_false] at h
  subst h; rfl, fun _ h => (nomatch h), rfl⟩
theorem gX3_ok (hn : n ≤ 3) : ∀ f ∈ gX3, f.holds (rF z L n at' b sl u v) := by
  unfold gX3
  exact List.forall_mem_cons.2 ⟨(by show icmp .lss (3 : Int) n = some false; simp only [icmp, Option.some.injEq, decide_eq_false_iff_not]; omega), List.forall_mem_nil _⟩
theorem gF3_ok (hn : n = 3) : ∀ f ∈ gq27, f.holds (rF z L n at' b sl u v) := by
  subst hn
  unfold gq27
  exact List.forall_mem_cons.2 ⟨⟨Int.le_refl _, Int.le_refl _⟩, List.forall_mem_cons.2 ⟨⟨Int.le_refl _, Int.le_refl _⟩, List.forall_mem_nil _⟩⟩
theorem renX4 : Ren (rF z L n at' b sl u v) (rF z L n at' b sl u v) nX4 := ⟨fun _ => rfl, fun _ => rfl, fun x h => by
  simp only [nX4, List.mem_cons, List.not_mem_nil, or_false] at h
  rcases h with rfl | rfl | rfl | rfl | rfl | rfl
  all_goals rfl, fun _ h => (nomatch h), fun x h => by
  simp only [nX4, List.mem_cons, List.not_mem_nil, or_false] at h
  subst h; rfl, fun x h => by
  simp only [nX4, List.mem_cons, List.not_mem_nil, or_false] at h
  subst h; rfl, fun _ h => (nomatch h), rfl⟩
theorem gX4_ok (hn : n ≤ 4) : ∀ f ∈ gX4, f.holds (rF z L n at' b sl u v) := by
  unfold gX4
  exact List.forall_mem_cons.2 ⟨(by show icmp .lss (4 : Int) n = some false; simp only [icmp, Option.some.injEq, decide_eq_false_iff_not]; omega), List.forall_mem_nil _⟩
theorem gF4_ok (hn : n = 4) : ∀ f ∈ gq28, f.holds (rF z L n at' b sl u v) := by
  subst hn
  unfold gq28
  exact List.forall_mem_cons.2 ⟨⟨Int.le_refl _, Int.le_refl _⟩, List.forall_mem_cons.2 ⟨⟨Int.le_refl _, Int.le_refl _⟩, List.forall_mem_nil _⟩⟩
theorem renX5 : Ren (rF z L n at' b sl u v) (rF z L n at' b sl u v) nX5 := ⟨fun _ => rfl, fun _ => rfl, fun x h => by
  simp only [nX5, List.mem_cons, List.not_mem_nil, or_false] at h
  rcases h with rfl | rfl | rfl | rfl | rfl | rfl | rfl
  all_goals rfl, fun _ h => (nomatch h), fun x h => by
  simp only [nX5, List.mem_cons, List.not_mem_nil, or_false] at h
  subst h; rfl, fun x h => by
  simp only [nX5, List.mem_cons, List.not_mem_nil, or_false] at h
  subst h; rfl, fun _ h => (nomatch h), rfl⟩
theorem gX5_ok (hn : n ≤ 5) : ∀ f ∈ gX5, f.holds (rF z L n at' b sl u v) := by
  unfold gX5
  exact List.forall_mem_cons.2 ⟨(by show icmp .lss (5 : Int) n = some false; simp only [icmp, Option.some.injEq, decide_eq_false_iff_not]; omega), List.forall_mem_nil _⟩
theorem gF5_ok (hn : n = 5) : ∀ f ∈ gq29, f.holds (rF z L n at' b sl u v) := by
  subst hn
  unfold gq29
  exact List.forall_mem_cons.2 ⟨⟨Int.le_refl _, Int.le_refl _⟩, List.forall_mem_cons.2 ⟨⟨Int.le_refl _, Int.le_refl _⟩, List.forall_mem_nil _⟩⟩
end
def SS (k : Nat) : Lit := match k with
  | 0 => SS0
  | 1 => SS1
  | 2 => SS2
  | 3 => SS3
  | 4 => SS4
  | 5 => SS5
  | 6 => SS6
  | 7 => SS7
  | 8 => SS8
  | 9 => SS9
  | 10 => SS10
  | 11 => SS11
  | 12 => SS12
  | 13 => SS13
  | 14 => SS14
  | 15 => SS15
  | 16 => SS16
  | 17 => SS17
  | 18 => SS18
  | 19 => SS19
  | 20 => SS20
  | 21 => SS21
  | 22 => SS22
  | 23 => SS23
  | 24 => SS24
  | 25 => SS25
  | 26 => SS26
  | 27 => SS27
  | 28 => SS28
  | 29 => SS29
  | 30 => SS30
  | 31 => SS31
  | 32 => SS32
  | 33 => SS33
  | 34 => SS34
  | 35 => SS35
  | 36 => SS36
  | 37 => SS37
  | 38 => SS38
  | 39 => SS39
  | 40 => SS40
  | 41 => SS41
  | 42 => SS42
  | 43 => SS43
  | 44 => SS44
  | 45 => SS45
  | 46 => SS46
  | 47 => SS47
  | 48 => SS48
  | 49 => SS49
  | 50 => SS50
  | 51 => SS51
  | 52 => SS52
  | 53 => SS53
  | 54 => SS54
  | 55 => SS55
  | 56 => SS56
  | 57 => SS57
  | 58 => SS58
  | 59 => SS59
  | 60 => SS60
  | 61 => SS61
  | 62 => SS62
  | 63 => SS63
  | 64 => SS64
  | 65 => SS65
  | 66 => SS66
  | 67 => SS67
  | 68 => SS68
  | 69 => SS69
  | 70 => SS70
  | 71 => SS71
  | 72 => SS72
  | 73 => SS73
  | 74 => SS74
  | 75 => SS75
  | 76 => SS76
  | 77 => SS77
  | 78 => SS78
  | 79 => SS79
  | 80 => SS80
  | 81 => SS81
  | 82 => SS82
  | 83 => SS83
  | 84 => SS84
  | 85 => SS85
  | 86 => SS86
  | 87 => SS87
  | 88 => SS88
  | 89 => SS89
  | 90 => SS90
  | 91 => SS91
  | 92 => SS92
  | 93 => SS93
  | 94 => SS94
  | 95 => SS95
  | 96 => SS96
  | 97 => SS97
  | 98 => SS98
  | 99 => SS99
  | 100 => SS100
  | 101 => SS101
  | 102 => SS102
  | 103 => SS103
  | 104 => SS104
  | 105 => SS105
  | 106 => SS106
  | 107 => SS107
  | 108 => SS108
  | 109 => SS109
  | 110 => SS110
  | 111 => SS111
  | 112 => SS112
  | 113 => SS113
  | 114 => SS114
  | 115 => SS115
  | 116 => SS116
  | 117 => SS117
  | 118 => SS118
  | 119 => SS119
  | 120 => SS120
  | 121 => SS121
  | 122 => SS122
  | 123 => SS123
  | 124 => SS124
  | 125 => SS125
  | _ => SS0
def iOf (k : Nat) : Nat := match k with
  | 0 => 0
  | 1 => 1
  | 2 => 1
  | 3 => 1
  | 4 => 1
  | 5 => 2
  | 6 => 2
  | 7 => 2
  | 8 => 2
  | 9 => 2
  | 10 => 2
  | 11 => 2
  | 12 => 2
  | 13 => 2
  | 14 => 2
  | 15 => 3
  | 16 => 3
  | 17 => 3
  | 18 => 3
  | 19 => 3
  | 20 => 3
  | 21 => 3
  | 22 => 3
  | 23 => 3
  | 24 => 3
  | 25 => 3
  | 26 => 3
  | 27 => 3
  | 28 => 3
  | 29 => 3
  | 30 => 3
  | 31 => 3
  | 32 => 3
  | 33 => 3
  | 34 => 3
  | 35 => 4
  | 36 => 4
  | 37 => 4
  | 38 => 4
  | 39 => 4
  | 40 => 4
  | 41 => 4
  | 42 => 4
  | 43 => 4
  | 44 => 4
  | 45 => 4
  | 46 => 4
  | 47 => 4
  | 48 => 4
  | 49 => 4
  | 50 => 4
  | 51 => 4
  | 52 => 4
  | 53 => 4
  | 54 => 4
  | 55 => 4
  | 56 => 4
  | 57 => 4
  | 58 => 4
  | 59 => 4
  | 60 => 4
  | 61 => 4
  | 62 => 4
  | 63 => 4
  | 64 => 4
  | 65 => 4
  | 66 => 4
  | 67 => 4
  | 68 => 4
  | 69 => 4
  | 70 => 5
  | 71 => 5
  | 72 => 5
  | 73 => 5
  | 74 => 5
  | 75 => 5
  | 76 => 5
  | 77 => 5
  | 78 => 5
  | 79 => 5
  | 80 => 5
  | 81 => 5
  | 82 => 5
  | 83 => 5
  | 84 => 5
  | 85 => 5
  | 86 => 5
  | 87 => 5
  | 88 => 5
  | 89 => 5
  | 90 => 5
  | 91 => 5
  | 92 => 5
  | 93 => 5
  | 94 => 5
  | 95 => 5
  | 96 => 5
  | 97 => 5
  | 98 => 5
  | 99 => 5
  | 100 => 5
  | 101 => 5
  | 102 => 5
  | 103 => 5
  | 104 => 5
  | 105 => 5
  | 106 => 5
  | 107 => 5
  | 108 => 5
  | 109 => 5
  | 110 => 5
  | 111 => 5
  | 112 => 5
  | 113 => 5
  | 114 => 5
  | 115 => 5
  | 116 => 5
  | 117 => 5
  | 118 => 5
  | 119 => 5
  | 120 => 5
  | 121 => 5
  | 122 => 5
  | 123 => 5
  | 124 => 5
  | 125 => 5
  | _ => 0
section
variable {w0 : World} {N : Nat} {z : Nat → Option Obj} {L : List (List DV)} {n at' : Int} {b : Bool} {sl : Nat → Int} {u v : Value}
/-- one round, from state k -/
def Round (w0 : World) (N : Nat) (z : Nat → Option Obj) (L : List (List DV)) (n at' : Int) (b : Bool) (sl : Nat → Int) (u v : Value) (k : Nat) : Prop :=
  ∃ (k2 : Nat) (at2 : Int) (sl2 : Nat → Int), k2 < 126 ∧ iOf k2 = iOf k + 1 ∧ Inv L n at2 sl2 ∧ Tri Tryz.prog N kBody (At w0 N (rF z L n at' b sl u v) (SS k)) fun e a w => e = .normal ∧ At w0 N (rF z L n at2 b sl2 u v) (SS k2) a w
theorem round0 (h : Inv L n at' sl) (hn : (0 : Int) < n) : Round w0 N z L n at' b sl u v 0 := by
  rcases drawn h with hl | ⟨hl, hc | hc | hc | hc⟩
  · exact ⟨1, _, _, by decide, rfl, (h.upd 0 (x := 0) (by decide) (by decide)), Tri.run (codeF _ _) (env_ok h (g0E h hl hn)) run0 ren_nq0⟩
  · exact ⟨1, _, _, by decide, rfl, ((h.more hl).upd 0 (x := 0) (by decide) (by decide)), Tri.run (codeF _ _) (env_ok h (g00 h hl hc hn)) run1 ren_nq1⟩
  · exact ⟨2, _, _, by decide, rfl, ((h.more hl).upd 0 (x := 1) (by decide) (by decide)), Tri.run (codeF _ _) (env_ok h (g01 h hl hc hn)) run2 ren_nq2⟩
  · exact ⟨3, _, _, by decide, rfl, ((h.more hl).upd 0 (x := 2) (by decide) (by decide)), Tri.run (codeF _ _) (env_ok h (g02 h hl hc hn)) run3 ren_nq3⟩
  · exact ⟨4, _, _, by decide, rfl, ((h.more hl).upd 0 (x := 3) (by decide) (by decide)), Tri.run (codeF _ _) (env_ok h (g03 h hl hc hn)) run4 ren_nq4⟩
theorem round1 (h : Inv L n at' sl) (hn : (1 : Int) < n) : Round w0 N z L n at' b sl u v 1 := by
  rcases drawn h with hl | ⟨hl, hc | hc | hc | hc⟩
  · exact ⟨5, _, _, by decide, rfl, (h.upd 1 (x := 0) (by decide) (by decide)), Tri.run (codeF _ _) (env_ok h (g1E h hl hn)) run5 ren_nq5⟩
  · exact ⟨5, _, _, by decide, rfl, ((h.more hl).upd 1 (x := 0) (by decide) (by decide)), Tri.run (codeF _ _) (env_ok h (g10 h hl hc hn)) run6 ren_nq6⟩
  · exact ⟨6, _, _, by decide, rfl, ((h.more hl).upd 1 (x := 1) (by decide) (by decide)), Tri.run (codeF _ _) (env_ok h (g11 h hl hc hn)) run7 ren_nq7⟩
  · exact ⟨7, _, _, by decide, rfl, ((h.more hl).upd 1 (x := 2) (by decide) (by decide)), Tri.run (codeF _ _) (env_ok h (g12 h hl hc hn)) run8 ren_nq8⟩
  · exact ⟨8, _, _, by decide, rfl, ((h.more hl).upd 1 (x := 3) (by decide) (by decide)), Tri.run (codeF _ _) (env_ok h (g13 h hl hc hn)) run9 ren_nq9⟩
theorem round2 (h : Inv L n at' sl) (hn : (1 : Int) < n) : Round w0 N z L n at' b sl u v 2 := by
  rcases drawn h with hl | ⟨hl, hc | hc | hc | hc⟩
  · exact ⟨6, _, _, by decide, rfl, (h.upd 1 (x := 0) (by decide) (by decide)), Tri.run (codeF _ _) (env_ok h (g1E h hl hn)) run10 ren_nq5⟩
  · exact ⟨6, _, _, by decide, rfl, ((h.more hl).upd 1 (x := 0) (by decide) (by decide)), Tri.run (codeF _ _) (env_ok h (g10 h hl hc hn)) run11 ren_nq6⟩
  · exact ⟨9, _, _, by decide, rfl, ((h.more hl).upd 1 (x := 1) (by decide) (by decide)), Tri.run (codeF _ _) (env_ok h (g11 h hl hc hn)) run12 ren_nq7⟩
  · exact ⟨10, _, _, by decide, rfl, ((h.more hl).upd 1 (x := 2) (by decide) (by decide)), Tri.run (codeF _ _) (env_ok h (g12 h hl hc hn)) run13 ren_nq8⟩
  · exact ⟨11, _, _, by decide, rfl, ((h.more hl).upd 1 (x := 3) (by decide) (by decide)), Tri.run (codeF _ _) (env_ok h (g13 h hl hc hn)) run14 ren_nq9⟩
theorem round3 (h : Inv L n at' sl) (hn : (1 : Int) < n) : Round w0 N z L n at' b sl u v 3 := by
  rcases drawn h with hl | ⟨hl, hc | hc | hc | hc⟩
  · exact ⟨7, _, _, by decide, rfl, (h.upd 1 (x := 0) (by decide) (by decide)), Tri.run (codeF _ _) (env_ok h (g1E h hl hn)) run15 ren_nq5⟩
  · exact ⟨7, _, _, by decide, rfl, ((h.more hl).upd 1 (x := 0) (by decide) (by decide)), Tri.run (codeF _ _) (env_ok h (g10 h hl hc hn)) run16 ren_nq6⟩
  · exact ⟨10, _, _, by decide, rfl, ((h.more hl).upd 1 (x := 1) (by decide) (by decide)), Tri.run (codeF _ _) (env_ok h (g11 h hl hc hn)) run17 ren_nq7⟩
  · exact ⟨12, _, _, by decide, rfl, ((h.more hl).upd 1 (x := 2) (by decide) (by decide)), Tri.run (codeF _ _) (env_ok h (g12 h hl hc hn)) run18 ren_nq8⟩
  · exact ⟨13, _, _, by decide, rfl, ((h.more hl).upd 1 (x := 3) (by decide) (by decide)), Tri.run (codeF _ _) (env_ok h (g13 h hl hc hn)) run19 ren_nq9⟩
theorem round4 (h : Inv L n at' sl) (hn : (1 : Int) < n) : Round w0 N z L n at' b sl u v 4 := by
  rcases drawn h with hl | ⟨hl, hc | hc | hc | hc⟩
  · exact ⟨8, _, _, by decide, rfl, (h.upd 1 (x := 0) (by decide) (by decide)), Tri.run (codeF _ _) (env_ok h (g1E h hl hn)) run20 ren_nq5⟩
  · exact ⟨8, _, _, by decide, rfl, ((h.more hl).upd 1 (x := 0) (by decide) (by decide)), Tri.run (codeF _ _) (env_ok h (g10 h hl hc hn)) run21 ren_nq6⟩
  · exact ⟨11, _, _, by decide, rfl, ((h.more hl).upd 1 (x := 1) (by decide) (by decide)), Tri.run (codeF _ _) (env_ok h (g11 h hl hc hn)) run22 ren_nq7⟩
  · exact ⟨13, _, _, by decide, rfl, ((h.more hl).upd 1 (x := 2) (by decide) (by decide)), Tri.run (codeF _ _) (env_ok h (g12 h hl hc hn)) run23 ren_nq8⟩
  · exact ⟨14, _, _, by decide, rfl, ((h.more hl).upd 1 (x := 3) (by decide) (by decide)), Tri.run (codeF _ _) (env_ok h (g13 h hl hc hn)) run24 ren_nq9⟩
theorem round5 (h : Inv L n at' sl) (hn : (2 : Int) < n) : Round w0 N z L n at' b sl u v 5 := by
  rcases drawn h with hl | ⟨hl, hc | hc | hc | hc⟩
  · exact ⟨15, _, _, by decide, rfl, (h.upd 2 (x := 0) (by decide) (by decide)), Tri.run (codeF _ _) (env_ok h (g2E h hl hn)) run25 ren_nq10⟩
  · exact ⟨15, _, _, by decide, rfl, ((h.more hl).upd 2 (x := 0) (by decide) (by decide)), Tri.run (codeF _ _) (env_ok h (g20 h hl hc hn)) run26 ren_nq11⟩
  · exact ⟨16, _, _, by decide, rfl, ((h.more hl).upd 2 (x := 1) (by decide) (by decide)), Tri.run (codeF _ _) (env_ok h (g21 h hl hc hn)) run27 ren_nq12⟩
  · exact ⟨17, _, _, by decide, rfl, ((h.more hl).upd 2 (x := 2) (by decide) (by decide)), Tri.run (codeF _ _) (env_ok h (g22 h hl hc hn)) run28 ren_nq13⟩
  · exact ⟨18, _, _, by decide, rfl, ((h.more hl).upd 2 (x := 3) (by decide) (by decide)), Tri.run (codeF _ _) (env_ok h (g23 h hl hc hn)) run29 ren_nq14⟩
theorem round6 (h : Inv L n at' sl) (hn : (2 : Int) < n) : Round w0 N z L n at' b sl u v 6 := by
  rcases drawn h with hl | ⟨hl, hc | hc | hc | hc⟩
  · exact ⟨19, _, _, by decide, rfl, (h.upd 2 (x := 0) (by decide) (by decide)), Tri.run (codeF _ _) (env_ok h (g2E h hl hn)) run30 ren_nq10⟩
  · exact ⟨19, _, _, by decide, rfl, ((h.more hl).upd 2 (x := 0) (by decide) (by decide)), Tri.run (codeF _ _) (env_ok h (g20 h hl hc hn)) run31 ren_nq11⟩
  · exact ⟨19, _, _, by decide, rfl, ((h.more hl).upd 2 (x := 1) (by decide) (by decide)), Tri.run (codeF _ _) (env_ok h (g21 h hl hc hn)) run32 ren_nq12⟩
  · exact ⟨20, _, _, by decide, rfl, ((h.more hl).upd 2 (x := 2) (by decide) (by decide)), Tri.run (codeF _ _) (env_ok h (g22 h hl hc hn)) run33 ren_nq13⟩
  · exact ⟨21, _, _, by decide, rfl, ((h.more hl).upd 2 (x := 3) (by decide) (by decide)), Tri.run (codeF _ _) (env_ok h (g23 h hl hc hn)) run34 ren_nq14⟩
theorem round7 (h : Inv L n at' sl) (hn : (2 : Int) < n) : Round w0 N z L n at' b sl u v 7 := by
  rcases drawn h with hl | ⟨hl, hc | hc | hc | hc⟩
  · exact ⟨22, _, _, by decide, rfl, (h.upd 2 (x := 0) (by decide) (by decide)), Tri.run (codeF _ _) (env_ok h (g2E h hl hn)) run35 ren_nq10⟩
  · exact ⟨22, _, _, by decide, rfl, ((h.more hl).upd 2 (x := 0) (by decide) (by decide)), Tri.run (codeF _ _) (env_ok h (g20 h hl hc hn)) run36 ren_nq11⟩
  · exact ⟨20, _, _, by decide, rfl, ((h.more hl).upd 2 (x := 1) (by decide) (by decide)), Tri.run (codeF _ _) (env_ok h (g21 h hl hc hn)) run37 ren_nq12⟩
  · exact ⟨22, _, _, by decide, rfl, ((h.more hl).upd 2 (x := 2) (by decide) (by decide)), Tri.run (codeF _ _) (env_ok h (g22 h hl hc hn)) run38 ren_nq13⟩
  · exact ⟨23, _, _, by decide, rfl, ((h.more hl).upd 2 (x := 3) (by decide) (by decide)), Tri.run (codeF _ _) (env_ok h (g23 h hl hc hn)) run39 ren_nq14⟩
theorem round8 (h : Inv L n at' sl) (hn : (2 : Int) < n) : Round w0 N z L n at' b sl u v 8 := by
  rcases drawn h with hl | ⟨hl, hc | hc | hc | hc⟩
  · exact ⟨24, _, _, by decide, rfl, (h.upd 2 (x := 0) (by decide) (by decide)), Tri.run (codeF _ _) (env_ok h (g2E h hl hn)) run40 ren_nq10⟩
  · exact ⟨24, _, _, by decide, rfl, ((h.more hl).upd 2 (x := 0) (by decide) (by decide)), Tri.run (codeF _ _) (env_ok h (g20 h hl hc hn)) run41 ren_nq11⟩
  · exact ⟨21, _, _, by decide, rfl, ((h.more hl).upd 2 (x := 1) (by decide) (by decide)), Tri.run (codeF _ _) (env_ok h (g21 h hl hc hn)) run42 ren_nq12⟩
  · exact ⟨23, _, _, by decide, rfl, ((h.more hl).upd 2 (x := 2) (by decide) (by decide)), Tri.run (codeF _ _) (env_ok h (g22 h hl hc hn)) run43 ren_nq13⟩
  · exact ⟨24, _, _, by decide, rfl, ((h.more hl).upd 2 (x := 3) (by decide) (by decide)), Tri.run (codeF _ _) (env_ok h (g23 h hl hc hn)) run44 ren_nq14⟩
theorem round9 (h : Inv L n at' sl) (hn : (2 : Int) < n) : Round w0 N z L n at' b sl u v 9 := by
  rcases drawn h with hl | ⟨hl, hc | hc | hc | hc⟩
  · exact ⟨16, _, _, by decide, rfl, (h.upd 2 (x := 0) (by decide) (by decide)), Tri.run (codeF _ _) (env_ok h (g2E h hl hn)) run45 ren_nq10⟩
  · exact ⟨16, _, _, by decide, rfl, ((h.more hl).upd 2 (x := 0) (by decide) (by decide)), Tri.run (codeF _ _) (env_ok h (g20 h hl hc hn)) run46 ren_nq11⟩
  · exact ⟨25, _, _, by decide, rfl, ((h.more hl).upd 2 (x := 1) (by decide) (by decide)), Tri.run (codeF _ _) (env_ok h (g21 h hl hc hn)) run47 ren_nq12⟩
  · exact ⟨26, _, _, by decide, rfl, ((h.more hl).upd 2 (x := 2) (by decide) (by decide)), Tri.run (codeF _ _) (env_ok h (g22 h hl hc hn)) run48 ren_nq13⟩
  · exact ⟨27, _, _, by decide, rfl, ((h.more hl).upd 2 (x := 3) (by decide) (by decide)), Tri.run (codeF _ _) (env_ok h (g23 h hl hc hn)) run49 ren_nq14⟩
theorem round10 (h : Inv L n at' sl) (hn : (2 : Int) < n) : Round w0 N z L n at' b sl u v 10 := by
  rcases drawn h with hl | ⟨hl, hc | hc | hc | hc⟩
  · exact ⟨20, _, _, by decide, rfl, (h.upd 2 (x := 0) (by decide) (by decide)), Tri.run (codeF _ _) (env_ok h (g2E h hl hn)) run50 ren_nq10⟩
  · exact ⟨20, _, _, by decide, rfl, ((h.more hl).upd 2 (x := 0) (by decide) (by decide)), Tri.run (codeF _ _) (env_ok h (g20 h hl hc hn)) run51 ren_nq11⟩
  · exact ⟨28, _, _, by decide, rfl, ((h.more hl).upd 2 (x := 1) (by decide) (by decide)), Tri.run (codeF _ _) (env_ok h (g21 h hl hc hn)) run52 ren_nq12⟩
  · exact ⟨28, _, _, by decide, rfl, ((h.more hl).upd 2 (x := 2) (by decide) (by decide)), Tri.run (codeF _ _) (env_ok h (g22 h hl hc hn)) run53 ren_nq13⟩
  · exact ⟨29, _, _, by decide, rfl, ((h.more hl).upd 2 (x := 3) (by decide) (by decide)), Tri.run (codeF _ _) (env_ok h (g23 h hl hc hn)) run54 ren_nq14⟩
theorem round11 (h : Inv L n at' sl) (hn : (2 : Int) < n) : Round w0 N z L n at' b sl u v 11 := by
  rcases drawn h with hl | ⟨hl, hc | hc | hc | hc⟩
  · exact ⟨21, _, _, by decide, rfl, (h.upd 2 (x := 0) (by decide) (by decide)), Tri.run (codeF _ _) (env_ok h (g2E h hl hn)) run55 ren_nq10⟩
  · exact ⟨21, _, _, by decide, rfl, ((h.more hl).upd 2 (x := 0) (by decide) (by decide)), Tri.run (codeF _ _) (env_ok h (g20 h hl hc hn)) run56 ren_nq11⟩
  · exact ⟨30, _, _, by decide, rfl, ((h.more hl).upd 2 (x := 1) (by decide) (by decide)), Tri.run (codeF _ _) (env_ok h (g21 h hl hc hn)) run57 ren_nq12⟩
  · exact ⟨29, _, _, by decide, rfl, ((h.more hl).upd 2 (x := 2) (by decide) (by decide)), Tri.run (codeF _ _) (env_ok h (g22 h hl hc hn)) run58 ren_nq13⟩
  · exact ⟨30, _, _, by decide, rfl, ((h.more hl).upd 2 (x := 3) (by decide) (by decide)), Tri.run (codeF _ _) (env_ok h (g23 h hl hc hn)) run59 ren_nq14⟩
theorem round12 (h : Inv L n at' sl) (hn : (2 : Int) < n) : Round w0 N z L n at' b sl u v 12 := by
  rcases drawn h with hl | ⟨hl, hc | hc | hc | hc⟩
  · exact ⟨17, _, _, by decide, rfl, (h.upd 2 (x := 0) (by decide) (by decide)), Tri.run (codeF _ _) (env_ok h (g2E h hl hn)) run60 ren_nq10⟩
  · exact ⟨17, _, _, by decide, rfl, ((h.more hl).upd 2 (x := 0) (by decide) (by decide)), Tri.run (codeF _ _) (env_ok h (g20 h hl hc hn)) run61 ren_nq11⟩
  · exact ⟨26, _, _, by decide, rfl, ((h.more hl).upd 2 (x := 1) (by decide) (by decide)), Tri.run (codeF _ _) (env_ok h (g21 h hl hc hn)) run62 ren_nq12⟩
  · exact ⟨31, _, _, by decide, rfl, ((h.more hl).upd 2 (x := 2) (by decide) (by decide)), Tri.run (codeF _ _) (env_ok h (g22 h hl hc hn)) run63 ren_nq13⟩
  · exact ⟨32, _, _, by decide, rfl, ((h.more hl).upd 2 (x := 3) (by decide) (by decide)), Tri.run (codeF _ _) (env_ok h (g23 h hl hc hn)) run64 ren_nq14⟩
theorem round13 (h : Inv L n at' sl) (hn : (2 : Int) < n) : Round w0 N z L n at' b sl u v 13 := by
  rcases drawn h with hl | ⟨hl, hc | hc | hc | hc⟩
  · exact ⟨23, _, _, by decide, rfl, (h.upd 2 (x := 0) (by decide) (by decide)), Tri.run (codeF _ _) (env_ok h (g2E h hl hn)) run65 ren_nq10⟩
  · exact ⟨23, _, _, by decide, rfl, ((h.more hl).upd 2 (x := 0) (by decide) (by decide)), Tri.run (codeF _ _) (env_ok h (g20 h hl hc hn)) run66 ren_nq11⟩
  · exact ⟨29, _, _, by decide, rfl, ((h.more hl).upd 2 (x := 1) (by decide) (by decide)), Tri.run (codeF _ _) (env_ok h (g21 h hl hc hn)) run67 ren_nq12⟩
  · exact ⟨33, _, _, by decide, rfl, ((h.more hl).upd 2 (x := 2) (by decide) (by decide)), Tri.run (codeF _ _) (env_ok h (g22 h hl hc hn)) run68 ren_nq13⟩
  · exact ⟨33, _, _, by decide, rfl, ((h.more hl).upd 2 (x := 3) (by decide) (by decide)), Tri.run (codeF _ _) (env_ok h (g23 h hl hc hn)) run69 ren_nq14⟩
theorem round14 (h : Inv L n at' sl) (hn : (2 : Int) < n) : Round w0 N z L n at' b sl u v 14 := by
  rcases drawn h with hl | ⟨hl, hc | hc | hc | hc⟩
  · exact ⟨18, _, _, by decide, rfl, (h.upd 2 (x := 0) (by decide) (by decide)), Tri.run (codeF _ _) (env_ok h (g2E h hl hn)) run70 ren_nq10⟩
  · exact ⟨18, _, _, by decide, rfl, ((h.more hl).upd 2 (x := 0) (by decide) (by decide)), Tri.run (codeF _ _) (env_ok h (g20 h hl hc hn)) run71 ren_nq11⟩
  · exact ⟨27, _, _, by decide, rfl, ((h.more hl).upd 2 (x := 1) (by decide) (by decide)), Tri.run (codeF _ _) (env_ok h (g21 h hl hc hn)) run72 ren_nq12⟩
  · exact ⟨32, _, _, by decide, rfl, ((h.more hl).upd 2 (x := 2) (by decide) (by decide)), Tri.run (codeF _ _) (env_ok h (g22 h hl hc hn)) run73 ren_nq13⟩
  · exact ⟨34, _, _, by decide, rfl, ((h.more hl).upd 2 (x := 3) (by decide) (by decide)), Tri.run (codeF _ _) (env_ok h (g23 h hl hc hn)) run74 ren_nq14⟩
theorem round15 (h : Inv L n at' sl) (hn : (3 : Int) < n) : Round w0 N z L n at' b sl u v 15 := by
  rcases drawn h with hl | ⟨hl, hc | hc | hc | hc⟩
  · exact ⟨35, _, _, by decide, rfl, (h.upd 3 (x := 0) (by decide) (by decide)), Tri.run (codeF _ _) (env_ok h (g3E h hl hn)) run75 ren_nq15⟩
  · exact ⟨35, _, _, by decide, rfl, ((h.more hl).upd 3 (x := 0) (by decide) (by decide)), Tri.run (codeF _ _) (env_ok h (g30 h hl hc hn)) run76 ren_nq16⟩
  · exact ⟨36, _, _, by decide, rfl, ((h.more hl).upd 3 (x := 1) (by decide) (by decide)), Tri.run (codeF _ _) (env_ok h (g31 h hl hc hn)) run77 ren_nq17⟩
  · exact ⟨37, _, _, by decide, rfl, ((h.more hl).upd 3 (x := 2) (by decide) (by decide)), Tri.run (codeF _ _) (env_ok h (g32 h hl hc hn)) run78 ren_nq18⟩
  · exact ⟨38, _, _, by decide, rfl, ((h.more hl).upd 3 (x := 3) (by decide) (by decide)), Tri.run (codeF _ _) (env_ok h (g33 h hl hc hn)) run79 ren_nq19⟩
theorem round16 (h : Inv L n at' sl) (hn : (3 : Int) < n) : Round w0 N z L n at' b sl u v 16 := by
  rcases drawn h with hl | ⟨hl, hc | hc | hc | hc⟩
  · exact ⟨39, _, _, by decide, rfl, (h.upd 3 (x := 0) (by decide) (by decide)), Tri.run (codeF _ _) (env_ok h (g3E h hl hn)) run80 ren_nq15⟩
  · exact ⟨39, _, _, by decide, rfl, ((h.more hl).upd 3 (x := 0) (by decide) (by decide)), Tri.run (codeF _ _) (env_ok h (g30 h hl hc hn)) run81 ren_nq16⟩
  · exact ⟨39, _, _, by decide, rfl, ((h.more hl).upd 3 (x := 1) (by decide) (by decide)), Tri.run (codeF _ _) (env_ok h (g31 h hl hc hn)) run82 ren_nq17⟩
  · exact ⟨40, _, _, by decide, rfl, ((h.more hl).upd 3 (x := 2) (by decide) (by decide)), Tri.run (codeF _ _) (env_ok h (g32 h hl hc hn)) run83 ren_nq18⟩
  · exact ⟨41, _, _, by decide, rfl, ((h.more hl).upd 3 (x := 3) (by decide) (by decide)), Tri.run (codeF _ _) (env_ok h (g33 h hl hc hn)) run84 ren_nq19⟩
theorem round17 (h : Inv L n at' sl) (hn : (3 : Int) < n) : Round w0 N z L n at' b sl u v 17 := by
  rcases drawn h with hl | ⟨hl, hc | hc | hc | hc⟩
  · exact ⟨42, _, _, by decide, rfl, (h.upd 3 (x := 0) (by decide) (by decide)), Tri.run (codeF _ _) (env_ok h (g3E h hl hn)) run85 ren_nq15⟩
  · exact ⟨42, _, _, by decide, rfl, ((h.more hl).upd 3 (x := 0) (by decide) (by decide)), Tri.run (codeF _ _) (env_ok h (g30 h hl hc hn)) run86 ren_nq16⟩
  · exact ⟨40, _, _, by decide, rfl, ((h.more hl).upd 3 (x := 1) (by decide) (by decide)), Tri.run (codeF _ _) (env_ok h (g31 h hl hc hn)) run87 ren_nq17⟩
  · exact ⟨42, _, _, by decide, rfl, ((h.more hl).upd 3 (x := 2) (by decide) (by decide)), Tri.run (codeF _ _) (env_ok h (g32 h hl hc hn)) run88 ren_nq18⟩
  · exact ⟨43, _, _, by decide, rfl, ((h.more hl).upd 3 (x := 3) (by decide) (by decide)), Tri.run (codeF _ _) (env_ok h (g33 h hl hc hn)) run89 ren_nq19⟩
theorem round18 (h : Inv L n at' sl) (hn : (3 : Int) < n) : Round w0 N z L n at' b sl u v 18 := by
  rcases drawn h with hl | ⟨hl, hc | hc | hc | hc⟩
  · exact ⟨44, _, _, by decide, rfl, (h.upd 3 (x := 0) (by decide) (by decide)), Tri.run (codeF _ _) (env_ok h (g3E h hl hn)) run90 ren_nq15⟩
  · exact ⟨44, _, _, by decide, rfl, ((h.more hl).upd 3 (x := 0) (by decide) (by decide)), Tri.run (codeF _ _) (env_ok h (g30 h hl hc hn)) run91 ren_nq16⟩
  · exact ⟨41, _, _, by decide, rfl, ((h.more hl).upd 3 (x := 1) (by decide) (by decide)), Tri.run (codeF _ _) (env_ok h (g31 h hl hc hn)) run92 ren_nq17⟩
  · exact ⟨43, _, _, by decide, rfl, ((h.more hl).upd 3 (x := 2) (by decide) (by decide)), Tri.run (codeF _ _) (env_ok h (g32 h hl hc hn)) run93 ren_nq18⟩
  · exact ⟨44, _, _, by decide, rfl, ((h.more hl).upd 3 (x := 3) (by decide) (by decide)), Tri.run (codeF _ _) (env_ok h (g33 h hl hc hn)) run94 ren_nq19⟩
theorem round19 (h : Inv L n at' sl) (hn : (3 : Int) < n) : Round w0 N z L n at' b sl u v 19 := by
  rcases drawn h with hl | ⟨hl, hc | hc | hc | hc⟩
  · exact ⟨45, _, _, by decide, rfl, (h.upd 3 (x := 0) (by decide) (by decide)), Tri.run (codeF _ _) (env_ok h (g3E h hl hn)) run95 ren_nq15⟩
  · exact ⟨45, _, _, by decide, rfl, ((h.more hl).upd 3 (x := 0) (by decide) (by decide)), Tri.run (codeF _ _) (env_ok h (g30 h hl hc hn)) run96 ren_nq16⟩
  · exact ⟨45, _, _, by decide, rfl, ((h.more hl).upd 3 (x := 1) (by decide) (by decide)), Tri.run (codeF _ _) (env_ok h (g31 h hl hc hn)) run97 ren_nq17⟩
  · exact ⟨46, _, _, by decide, rfl, ((h.more hl).upd 3 (x := 2) (by decide) (by decide)), Tri.run (codeF _ _) (env_ok h (g32 h hl hc hn)) run98 ren_nq18⟩
  · exact ⟨47, _, _, by decide, rfl, ((h.more hl).upd 3 (x := 3) (by decide) (by decide)), Tri.run (codeF _ _) (env_ok h (g33 h hl hc hn)) run99 ren_nq19⟩
theorem round20 (h : Inv L n at' sl) (hn : (3 : Int) < n) : Round w0 N z L n at' b sl u v 20 := by
  rcases drawn h with hl | ⟨hl, hc | hc | hc | hc⟩
  · exact ⟨48, _, _, by decide, rfl, (h.upd 3 (x := 0) (by decide) (by decide)), Tri.run (codeF _ _) (env_ok h (g3E h hl hn)) run100 ren_nq15⟩
  · exact ⟨48, _, _, by decide, rfl, ((h.more hl).upd 3 (x := 0) (by decide) (by decide)), Tri.run (codeF _ _) (env_ok h (g30 h hl hc hn)) run101 ren_nq16⟩
  · exact ⟨48, _, _, by decide, rfl, ((h.more hl).upd 3 (x := 1) (by decide) (by decide)), Tri.run (codeF _ _) (env_ok h (g31 h hl hc hn)) run102 ren_nq17⟩
  · exact ⟨48, _, _, by decide, rfl, ((h.more hl).upd 3 (x := 2) (by decide) (by decide)), Tri.run (codeF _ _) (env_ok h (g32 h hl hc hn)) run103 ren_nq18⟩
  · exact ⟨49, _, _, by decide, rfl, ((h.more hl).upd 3 (x := 3) (by decide) (by decide)), Tri.run (codeF _ _) (env_ok h (g33 h hl hc hn)) run104 ren_nq19⟩
theorem round21 (h : Inv L n at' sl) (hn : (3 : Int) < n) : Round w0 N z L n at' b sl u v 21 := by
  rcases drawn h with hl | ⟨hl, hc | hc | hc | hc⟩
  · exact ⟨50, _, _, by decide, rfl, (h.upd 3 (x := 0) (by decide) (by decide)), Tri.run (codeF _ _) (env_ok h (g3E h hl hn)) run105 ren_nq15⟩
  · exact ⟨50, _, _, by decide, rfl, ((h.more hl).upd 3 (x := 0) (by decide) (by decide)), Tri.run (codeF _ _) (env_ok h (g30 h hl hc hn)) run106 ren_nq16⟩
  · exact ⟨50, _, _, by decide, rfl, ((h.more hl).upd 3 (x := 1) (by decide) (by decide)), Tri.run (codeF _ _) (env_ok h (g31 h hl hc hn)) run107 ren_nq17⟩
  · exact ⟨49, _, _, by decide, rfl, ((h.more hl).upd 3 (x := 2) (by decide) (by decide)), Tri.run (codeF _ _) (env_ok h (g32 h hl hc hn)) run108 ren_nq18⟩
  · exact ⟨50, _, _, by decide, rfl, ((h.more hl).upd 3 (x := 3) (by decide) (by decide)), Tri.run (codeF _ _) (env_ok h (g33 h hl hc hn)) run109 ren_nq19⟩
theorem round22 (h : Inv L n at' sl) (hn : (3 : Int) < n) : Round w0 N z L n at' b sl u v 22 := by
  rcases drawn h with hl | ⟨hl, hc | hc | hc | hc⟩
  · exact ⟨51, _, _, by decide, rfl, (h.upd 3 (x := 0) (by decide) (by decide)), Tri.run (codeF _ _) (env_ok h (g3E h hl hn)) run110 ren_nq15⟩
  · exact ⟨51, _, _, by decide, rfl, ((h.more hl).upd 3 (x := 0) (by decide) (by decide)), Tri.run (codeF _ _) (env_ok h (g30 h hl hc hn)) run111 ren_nq16⟩
  · exact ⟨46, _, _, by decide, rfl, ((h.more hl).upd 3 (x := 1) (by decide) (by decide)), Tri.run (codeF _ _) (env_ok h (g31 h hl hc hn)) run112 ren_nq17⟩
  · exact ⟨51, _, _, by decide, rfl, ((h.more hl).upd 3 (x := 2) (by decide) (by decide)), Tri.run (codeF _ _) (env_ok h (g32 h hl hc hn)) run113 ren_nq18⟩
  · exact ⟨52, _, _, by decide, rfl, ((h.more hl).upd 3 (x := 3) (by decide) (by decide)), Tri.run (codeF _ _) (env_ok h (g33 h hl hc hn)) run114 ren_nq19⟩
theorem round23 (h : Inv L n at' sl) (hn : (3 : Int) < n) : Round w0 N z L n at' b sl u v 23 := by
  rcases drawn h with hl | ⟨hl, hc | hc | hc | hc⟩
  · exact ⟨53, _, _, by decide, rfl, (h.upd 3 (x := 0) (by decide) (by decide)), Tri.run (codeF _ _) (env_ok h (g3E h hl hn)) run115 ren_nq15⟩
  · exact ⟨53, _, _, by decide, rfl, ((h.more hl).upd 3 (x := 0) (by decide) (by decide)), Tri.run (codeF _ _) (env_ok h (g30 h hl hc hn)) run116 ren_nq16⟩
  · exact ⟨49, _, _, by decide, rfl, ((h.more hl).upd 3 (x := 1) (by decide) (by decide)), Tri.run (codeF _ _) (env_ok h (g31 h hl hc hn)) run117 ren_nq17⟩
  · exact ⟨53, _, _, by decide, rfl, ((h.more hl).upd 3 (x := 2) (by decide) (by decide)), Tri.run (codeF _ _) (env_ok h (g32 h hl hc hn)) run118 ren_nq18⟩
  · exact ⟨53, _, _, by decide, rfl, ((h.more hl).upd 3 (x := 3) (by decide) (by decide)), Tri.run (codeF _ _) (env_ok h (g33 h hl hc hn)) run119 ren_nq19⟩
theorem round24 (h : Inv L n at' sl) (hn : (3 : Int) < n) : Round w0 N z L n at' b sl u v 24 := by
  rcases drawn h with hl | ⟨hl, hc | hc | hc | hc⟩
  · exact ⟨54, _, _, by decide, rfl, (h.upd 3 (x := 0) (by decide) (by decide)), Tri.run (codeF _ _) (env_ok h (g3E h hl hn)) run120 ren_nq15⟩
  · exact ⟨54, _, _, by decide, rfl, ((h.more hl).upd 3 (x := 0) (by decide) (by decide)), Tri.run (codeF _ _) (env_ok h (g30 h hl hc hn)) run121 ren_nq16⟩
  · exact ⟨47, _, _, by decide, rfl, ((h.more hl).upd 3 (x := 1) (by decide) (by decide)), Tri.run (codeF _ _) (env_ok h (g31 h hl hc hn)) run122 ren_nq17⟩
  · exact ⟨52, _, _, by decide, rfl, ((h.more hl).upd 3 (x := 2) (by decide) (by decide)), Tri.run (codeF _ _) (env_ok h (g32 h hl hc hn)) run123 ren_nq18⟩
  · exact ⟨54, _, _, by decide, rfl, ((h.more hl).upd 3 (x := 3) (by decide) (by decide)), Tri.run (codeF _ _) (env_ok h (g33 h hl hc hn)) run124 ren_nq19⟩
theorem round25 (h : Inv L n at' sl) (hn : (3 : Int) < n) : Round w0 N z L n at' b sl u v 25 := by
  rcases drawn h with hl | ⟨hl, hc | hc | hc | hc⟩
  · exact ⟨36, _, _, by decide, rfl, (h.upd 3 (x := 0) (by decide) (by decide)), Tri.run (codeF _ _) (env_ok h (g3E h hl hn)) run125 ren_nq15⟩
  · exact ⟨36, _, _, by decide, rfl, ((h.more hl).upd 3 (x := 0) (by decide) (by decide)), Tri.run (codeF _ _) (env_ok h (g30 h hl hc hn)) run126 ren_nq16⟩
  · exact ⟨55, _, _, by decide, rfl, ((h.more hl).upd 3 (x := 1) (by decide) (by decide)), Tri.run (codeF _ _) (env_ok h (g31 h hl hc hn)) run127 ren_nq17⟩
  · exact ⟨56, _, _, by decide, rfl, ((h.more hl).upd 3 (x := 2) (by decide) (by decide)), Tri.run (codeF _ _) (env_ok h (g32 h hl hc hn)) run128 ren_nq18⟩
  · exact ⟨57, _, _, by decide, rfl, ((h.more hl).upd 3 (x := 3) (by decide) (by decide)), Tri.run (codeF _ _) (env_ok h (g33 h hl hc hn)) run129 ren_nq19⟩
theorem round26 (h : Inv L n at' sl) (hn : (3 : Int) < n) : Round w0 N z L n at' b sl u v 26 := by
  rcases drawn h with hl | ⟨hl, hc | hc | hc | hc⟩
  · exact ⟨40, _, _, by decide, rfl, (h.upd 3 (x := 0) (by decide) (by decide)), Tri.run (codeF _ _) (env_ok h (g3E h hl hn)) run130 ren_nq15⟩
  · exact ⟨40, _, _, by decide, rfl, ((h.more hl).upd 3 (x := 0) (by decide) (by decide)), Tri.run (codeF _ _) (env_ok h (g30 h hl hc hn)) run131 ren_nq16⟩
  · exact ⟨58, _, _, by decide, rfl, ((h.more hl).upd 3 (x := 1) (by decide) (by decide)), Tri.run (codeF _ _) (env_ok h (g31 h hl hc hn)) run132 ren_nq17⟩
  · exact ⟨58, _, _, by decide, rfl, ((h.more hl).upd 3 (x := 2) (by decide) (by decide)), Tri.run (codeF _ _) (env_ok h (g32 h hl hc hn)) run133 ren_nq18⟩
  · exact ⟨59, _, _, by decide, rfl, ((h.more hl).upd 3 (x := 3) (by decide) (by decide)), Tri.run (codeF _ _) (env_ok h (g33 h hl hc hn)) run134 ren_nq19⟩
theorem round27 (h : Inv L n at' sl) (hn : (3 : Int) < n) : Round w0 N z L n at' b sl u v 27 := by
  rcases drawn h with hl | ⟨hl, hc | hc | hc | hc⟩
  · exact ⟨41, _, _, by decide, rfl, (h.upd 3 (x := 0) (by decide) (by decide)), Tri.run (codeF _ _) (env_ok h (g3E h hl hn)) run135 ren_nq15⟩
  · exact ⟨41, _, _, by decide, rfl, ((h.more hl).upd 3 (x := 0) (by decide) (by decide)), Tri.run (codeF _ _) (env_ok h (g30 h hl hc hn)) run136 ren_nq16⟩
  · exact ⟨60, _, _, by decide, rfl, ((h.more hl).upd 3 (x := 1) (by decide) (by decide)), Tri.run (codeF _ _) (env_ok h (g31 h hl hc hn)) run137 ren_nq17⟩
  · exact ⟨59, _, _, by decide, rfl, ((h.more hl).upd 3 (x := 2) (by decide) (by decide)), Tri.run (codeF _ _) (env_ok h (g32 h hl hc hn)) run138 ren_nq18⟩
  · exact ⟨60, _, _, by decide, rfl, ((h.more hl).upd 3 (x := 3) (by decide) (by decide)), Tri.run (codeF _ _) (env_ok h (g33 h hl hc hn)) run139 ren_nq19⟩
theorem round28 (h : Inv L n at' sl) (hn : (3 : Int) < n) : Round w0 N z L n at' b sl u v 28 := by
  rcases drawn h with hl | ⟨hl, hc | hc | hc | hc⟩
  · exact ⟨46, _, _, by decide, rfl, (h.upd 3 (x := 0) (by decide) (by decide)), Tri.run (codeF _ _) (env_ok h (g3E h hl hn)) run140 ren_nq15⟩
  · exact ⟨46, _, _, by decide, rfl, ((h.more hl).upd 3 (x := 0) (by decide) (by decide)), Tri.run (codeF _ _) (env_ok h (g30 h hl hc hn)) run141 ren_nq16⟩
  · exact ⟨61, _, _, by decide, rfl, ((h.more hl).upd 3 (x := 1) (by decide) (by decide)), Tri.run (codeF _ _) (env_ok h (g31 h hl hc hn)) run142 ren_nq17⟩
  · exact ⟨61, _, _, by decide, rfl, ((h.more hl).upd 3 (x := 2) (by decide) (by decide)), Tri.run (codeF _ _) (env_ok h (g32 h hl hc hn)) run143 ren_nq18⟩
  · exact ⟨62, _, _, by decide, rfl, ((h.more hl).upd 3 (x := 3) (by decide) (by decide)), Tri.run (codeF _ _) (env_ok h (g33 h hl hc hn)) run144 ren_nq19⟩
theorem round29 (h : Inv L n at' sl) (hn : (3 : Int) < n) : Round w0 N z L n at' b sl u v 29 := by
  rcases drawn h with hl | ⟨hl, hc | hc | hc | hc⟩
  · exact ⟨49, _, _, by decide, rfl, (h.upd 3 (x := 0) (by decide) (by decide)), Tri.run (codeF _ _) (env_ok h (g3E h hl hn)) run145 ren_nq15⟩
  · exact ⟨49, _, _, by decide, rfl, ((h.more hl).upd 3 (x := 0) (by decide) (by decide)), Tri.run (codeF _ _) (env_ok h (g30 h hl hc hn)) run146 ren_nq16⟩
  · exact ⟨63, _, _, by decide, rfl, ((h.more hl).upd 3 (x := 1) (by decide) (by decide)), Tri.run (codeF _ _) (env_ok h (g31 h hl hc hn)) run147 ren_nq17⟩
  · exact ⟨63, _, _, by decide, rfl, ((h.more hl).upd 3 (x := 2) (by decide) (by decide)), Tri.run (codeF _ _) (env_ok h (g32 h hl hc hn)) run148 ren_nq18⟩
  · exact ⟨63, _, _, by decide, rfl, ((h.more hl).upd 3 (x := 3) (by decide) (by decide)), Tri.run (codeF _ _) (env_ok h (g33 h hl hc hn)) run149 ren_nq19⟩
theorem round30 (h : Inv L n at' sl) (hn : (3 : Int) < n) : Round w0 N z L n at' b sl u v 30 := by
  rcases drawn h with hl | ⟨hl, hc | hc | hc | hc⟩
  · exact ⟨47, _, _, by decide, rfl, (h.upd 3 (x := 0) (by decide) (by decide)), Tri.run (codeF _ _) (env_ok h (g3E h hl hn)) run150 ren_nq15⟩
  · exact ⟨47, _, _, by decide, rfl, ((h.more hl).upd 3 (x := 0) (by decide) (by decide)), Tri.run (codeF _ _) (env_ok h (g30 h hl hc hn)) run151 ren_nq16⟩
  · exact ⟨64, _, _, by decide, rfl, ((h.more hl).upd 3 (x := 1) (by decide) (by decide)), Tri.run (codeF _ _) (env_ok h (g31 h hl hc hn)) run152 ren_nq17⟩
  · exact ⟨62, _, _, by decide, rfl, ((h.more hl).upd 3 (x := 2) (by decide) (by decide)), Tri.run (codeF _ _) (env_ok h (g32 h hl hc hn)) run153 ren_nq18⟩
  · exact ⟨64, _, _, by decide, rfl, ((h.more hl).upd 3 (x := 3) (by decide) (by decide)), Tri.run (codeF _ _) (env_ok h (g33 h hl hc hn)) run154 ren_nq19⟩
theorem round31 (h : Inv L n at' sl) (hn : (3 : Int) < n) : Round w0 N z L n at' b sl u v 31 := by
  rcases drawn h with hl | ⟨hl, hc | hc | hc | hc⟩
  · exact ⟨37, _, _, by decide, rfl, (h.upd 3 (x := 0) (by decide) (by decide)), Tri.run (codeF _ _) (env_ok h (g3E h hl hn)) run155 ren_nq15⟩
  · exact ⟨37, _, _, by decide, rfl, ((h.more hl).upd 3 (x := 0) (by decide) (by decide)), Tri.run (codeF _ _) (env_ok h (g30 h hl hc hn)) run156 ren_nq16⟩
  · exact ⟨56, _, _, by decide, rfl, ((h.more hl).upd 3 (x := 1) (by decide) (by decide)), Tri.run (codeF _ _) (env_ok h (g31 h hl hc hn)) run157 ren_nq17⟩
  · exact ⟨65, _, _, by decide, rfl, ((h.more hl).upd 3 (x := 2) (by decide) (by decide)), Tri.run (codeF _ _) (env_ok h (g32 h hl hc hn)) run158 ren_nq18⟩
  · exact ⟨66, _, _, by decide, rfl, ((h.more hl).upd 3 (x := 3) (by decide) (by decide)), Tri.run (codeF _ _) (env_ok h (g33 h hl hc hn)) run159 ren_nq19⟩
theorem round32 (h : Inv L n at' sl) (hn : (3 : Int) < n) : Round w0 N z L n at' b sl u v 32 := by
  rcases drawn h with hl | ⟨hl, hc | hc | hc | hc⟩
  · exact ⟨43, _, _, by decide, rfl, (h.upd 3 (x := 0) (by decide) (by decide)), Tri.run (codeF _ _) (env_ok h (g3E h hl hn)) run160 ren_nq15⟩
  · exact ⟨43, _, _, by decide, rfl, ((h.more hl).upd 3 (x := 0) (by decide) (by decide)), Tri.run (codeF _ _) (env_ok h (g30 h hl hc hn)) run161 ren_nq16⟩
  · exact ⟨59, _, _, by decide, rfl, ((h.more hl).upd 3 (x := 1) (by decide) (by decide)), Tri.run (codeF _ _) (env_ok h (g31 h hl hc hn)) run162 ren_nq17⟩
  · exact ⟨67, _, _, by decide, rfl, ((h.more hl).upd 3 (x := 2) (by decide) (by decide)), Tri.run (codeF _ _) (env_ok h (g32 h hl hc hn)) run163 ren_nq18⟩
  · exact ⟨67, _, _, by decide, rfl, ((h.more hl).upd 3 (x := 3) (by decide) (by decide)), Tri.run (codeF _ _) (env_ok h (g33 h hl hc hn)) run164 ren_nq19⟩
theorem round33 (h : Inv L n at' sl) (hn : (3 : Int) < n) : Round w0 N z L n at' b sl u v 33 := by
  rcases drawn h with hl | ⟨hl, hc | hc | hc | hc⟩
  · exact ⟨52, _, _, by decide, rfl, (h.upd 3 (x := 0) (by decide) (by decide)), Tri.run (codeF _ _) (env_ok h (g3E h hl hn)) run165 ren_nq15⟩
  · exact ⟨52, _, _, by decide, rfl, ((h.more hl).upd 3 (x := 0) (by decide) (by decide)), Tri.run (codeF _ _) (env_ok h (g30 h hl hc hn)) run166 ren_nq16⟩
  · exact ⟨62, _, _, by decide, rfl, ((h.more hl).upd 3 (x := 1) (by decide) (by decide)), Tri.run (codeF _ _) (env_ok h (g31 h hl hc hn)) run167 ren_nq17⟩
  · exact ⟨68, _, _, by decide, rfl, ((h.more hl).upd 3 (x := 2) (by decide) (by decide)), Tri.run (codeF _ _) (env_ok h (g32 h hl hc hn)) run168 ren_nq18⟩
  · exact ⟨68, _, _, by decide, rfl, ((h.more hl).upd 3 (x := 3) (by decide) (by decide)), Tri.run (codeF _ _) (env_ok h (g33 h hl hc hn)) run169 ren_nq19⟩
theorem round34 (h : Inv L n at' sl) (hn : (3 : Int) < n) : Round w0 N z L n at' b sl u v 34 := by
  rcases drawn h with hl | ⟨hl, hc | hc | hc | hc⟩
  · exact ⟨38, _, _, by decide, rfl, (h.upd 3 (x := 0) (by decide) (by decide)), Tri.run (codeF _ _) (env_ok h (g3E h hl hn)) run170 ren_nq15⟩
  · exact ⟨38, _, _, by decide, rfl, ((h.more hl).upd 3 (x := 0) (by decide) (by decide)), Tri.run (codeF _ _) (env_ok h (g30 h hl hc hn)) run171 ren_nq16⟩
  · exact ⟨57, _, _, by decide, rfl, ((h.more hl).upd 3 (x := 1) (by decide) (by decide)), Tri.run (codeF _ _) (env_ok h (g31 h hl hc hn)) run172 ren_nq17⟩
  · exact ⟨66, _, _, by decide, rfl, ((h.more hl).upd 3 (x := 2) (by decide) (by decide)), Tri.run (codeF _ _) (env_ok h (g32 h hl hc hn)) run173 ren_nq18⟩
  · exact ⟨69, _, _, by decide, rfl, ((h.more hl).upd 3 (x := 3) (by decide) (by decide)), Tri.run (codeF _ _) (env_ok h (g33 h hl hc hn)) run174 ren_nq19⟩
theorem round35 (h : Inv L n at' sl) (hn : (4 : Int) < n) : Round w0 N z L n at' b sl u v 35 := by
  rcases drawn h with hl | ⟨hl, hc | hc | hc | hc⟩
  · exact ⟨70, _, _, by decide, rfl, (h.upd 4 (x := 0) (by decide) (by decide)), Tri.run (codeF _ _) (env_ok h (g4E h hl hn)) run175 ren_nq20⟩
  · exact ⟨70, _, _, by decide, rfl, ((h.more hl).upd 4 (x := 0) (by decide) (by decide)), Tri.run (codeF _ _) (env_ok h (g40 h hl hc hn)) run176 ren_nq21⟩
  · exact ⟨71, _, _, by decide, rfl, ((h.more hl).upd 4 (x := 1) (by decide) (by decide)), Tri.run (codeF _ _) (env_ok h (g41 h hl hc hn)) run177 ren_nq22⟩
  · exact ⟨72, _, _, by decide, rfl, ((h.more hl).upd 4 (x := 2) (by decide) (by decide)), Tri.run (codeF _ _) (env_ok h (g42 h hl hc hn)) run178 ren_nq23⟩
  · exact ⟨73, _, _, by decide, rfl, ((h.more hl).upd 4 (x := 3) (by decide) (by decide)), Tri.run (codeF _ _) (env_ok h (g43 h hl hc hn)) run179 ren_nq24⟩
theorem round36 (h : Inv L n at' sl) (hn : (4 : Int) < n) : Round w0 N z L n at' b sl u v 36 := by
  rcases drawn h with hl | ⟨hl, hc | hc | hc | hc⟩
  · exact ⟨74, _, _, by decide, rfl, (h.upd 4 (x := 0) (by decide) (by decide)), Tri.run (codeF _ _) (env_ok h (g4E h hl hn)) run180 ren_nq20⟩
  · exact ⟨74, _, _, by decide, rfl, ((h.more hl).upd 4 (x := 0) (by decide) (by decide)), Tri.run (codeF _ _) (env_ok h (g40 h hl hc hn)) run181 ren_nq21⟩
  · exact ⟨74, _, _, by decide, rfl, ((h.more hl).upd 4 (x := 1) (by decide) (by decide)), Tri.run (codeF _ _) (env_ok h (g41 h hl hc hn)) run182 ren_nq22⟩
  · exact ⟨75, _, _, by decide, rfl, ((h.more hl).upd 4 (x := 2) (by decide) (by decide)), Tri.run (codeF _ _) (env_ok h (g42 h hl hc hn)) run183 ren_nq23⟩
  · exact ⟨76, _, _, by decide, rfl, ((h.more hl).upd 4 (x := 3) (by decide) (by decide)), Tri.run (codeF _ _) (env_ok h (g43 h hl hc hn)) run184 ren_nq24⟩
theorem round37 (h : Inv L n at' sl) (hn : (4 : Int) < n) : Round w0 N z L n at' b sl u v 37 := by
  rcases drawn h with hl | ⟨hl, hc | hc | hc | hc⟩
  · exact ⟨77, _, _, by decide, rfl, (h.upd 4 (x := 0) (by decide) (by decide)), Tri.run (codeF _ _) (env_ok h (g4E h hl hn)) run185 ren_nq20⟩
  · exact ⟨77, _, _, by decide, rfl, ((h.more hl).upd 4 (x := 0) (by decide) (by decide)), Tri.run (codeF _ _) (env_ok h (g40 h hl hc hn)) run186 ren_nq21⟩
  · exact ⟨75, _, _, by decide, rfl, ((h.more hl).upd 4 (x := 1) (by decide) (by decide)), Tri.run (codeF _ _) (env_ok h (g41 h hl hc hn)) run187 ren_nq22⟩
  · exact ⟨77, _, _, by decide, rfl, ((h.more hl).upd 4 (x := 2) (by decide) (by decide)), Tri.run (codeF _ _) (env_ok h (g42 h hl hc hn)) run188 ren_nq23⟩
  · exact ⟨78, _, _, by decide, rfl, ((h.more hl).upd 4 (x := 3) (by decide) (by decide)), Tri.run (codeF _ _) (env_ok h (g43 h hl hc hn)) run189 ren_nq24⟩
theorem round38 (h : Inv L n at' sl) (hn : (4 : Int) < n) : Round w0 N z L n at' b sl u v 38 := by
  rcases drawn h with hl | ⟨hl, hc | hc | hc | hc⟩
  · exact ⟨79, _, _, by decide, rfl, (h.upd 4 (x := 0) (by decide) (by decide)), Tri.run (codeF _ _) (env_ok h (g4E h hl hn)) run190 ren_nq20⟩
  · exact ⟨79, _, _, by decide, rfl, ((h.more hl).upd 4 (x := 0) (by decide) (by decide)), Tri.run (codeF _ _) (env_ok h (g40 h hl hc hn)) run191 ren_nq21⟩
  · exact ⟨76, _, _, by decide, rfl, ((h.more hl).upd 4 (x := 1) (by decide) (by decide)), Tri.run (codeF _ _) (env_ok h (g41 h hl hc hn)) run192 ren_nq22⟩
  · exact ⟨78, _, _, by decide, rfl, ((h.more hl).upd 4 (x := 2) (by decide) (by decide)), Tri.run (codeF _ _) (env_ok h (g42 h hl hc hn)) run193 ren_nq23⟩
  · exact ⟨79, _, _, by decide, rfl, ((h.more hl).upd 4 (x := 3) (by decide) (by decide)), Tri.run (codeF _ _) (env_ok h (g43 h hl hc hn)) run194 ren_nq24⟩
theorem round39 (h : Inv L n at' sl) (hn : (4 : Int) < n) : Round w0 N z L n at' b sl u v 39 := by
  rcases drawn h with hl | ⟨hl, hc | hc | hc | hc⟩
  · exact ⟨80, _, _, by decide, rfl, (h.upd 4 (x := 0) (by decide) (by decide)), Tri.run (codeF _ _) (env_ok h (g4E h hl hn)) run195 ren_nq20⟩
  · exact ⟨80, _, _, by decide, rfl, ((h.more hl).upd 4 (x := 0) (by decide) (by decide)), Tri.run (codeF _ _) (env_ok h (g40 h hl hc hn)) run196 ren_nq21⟩
  · exact ⟨80, _, _, by decide, rfl, ((h.more hl).upd 4 (x := 1) (by decide) (by decide)), Tri.run (codeF _ _) (env_ok h (g41 h hl hc hn)) run197 ren_nq22⟩
  · exact ⟨81, _, _, by decide, rfl, ((h.more hl).upd 4 (x := 2) (by decide) (by decide)), Tri.run (codeF _ _) (env_ok h (g42 h hl hc hn)) run198 ren_nq23⟩
  · exact ⟨82, _, _, by decide, rfl, ((h.more hl).upd 4 (x := 3) (by decide) (by decide)), Tri.run (codeF _ _) (env_ok h (g43 h hl hc hn)) run199 ren_nq24⟩
theorem round40 (h : Inv L n at' sl) (hn : (4 : Int) < n) : Round w0 N z L n at' b sl u v 40 := by
  rcases drawn h with hl | ⟨hl, hc | hc | hc | hc⟩
  · exact ⟨83, _, _, by decide, rfl, (h.upd 4 (x := 0) (by decide) (by decide)), Tri.run (codeF _ _) (env_ok h (g4E h hl hn)) run200 ren_nq20⟩
  · exact ⟨83, _, _, by decide, rfl, ((h.more hl).upd 4 (x := 0) (by decide) (by decide)), Tri.run (codeF _ _) (env_ok h (g40 h hl hc hn)) run201 ren_nq21⟩
  · exact ⟨83, _, _, by decide, rfl, ((h.more hl).upd 4 (x := 1) (by decide) (by decide)), Tri.run (codeF _ _) (env_ok h (g41 h hl hc hn)) run202 ren_nq22⟩
  · exact ⟨83, _, _, by decide, rfl, ((h.more hl).upd 4 (x := 2) (by decide) (by decide)), Tri.run (codeF _ _) (env_ok h (g42 h hl hc hn)) run203 ren_nq23⟩
  · exact ⟨84, _, _, by decide, rfl, ((h.more hl).upd 4 (x := 3) (by decide) (by decide)), Tri.run (codeF _ _) (env_ok h (g43 h hl hc hn)) run204 ren_nq24⟩
theorem round41 (h : Inv L n at' sl) (hn : (4 : Int) < n) : Round w0 N z L n at' b sl u v 41 := by
  rcases drawn h with hl | ⟨hl, hc | hc | hc | hc⟩
  · exact ⟨85, _, _, by decide, rfl, (h.upd 4 (x := 0) (by decide) (by decide)), Tri.run (codeF _ _) (env_ok h (g4E h hl hn)) run205 ren_nq20⟩
  · exact ⟨85, _, _, by decide, rfl, ((h.more hl).upd 4 (x := 0) (by decide) (by decide)), Tri.run (codeF _ _) (env_ok h (g40 h hl hc hn)) run206 ren_nq21⟩
  · exact ⟨85, _, _, by decide, rfl, ((h.more hl).upd 4 (x := 1) (by decide) (by decide)), Tri.run (codeF _ _) (env_ok h (g41 h hl hc hn)) run207 ren_nq22⟩
  · exact ⟨84, _, _, by decide, rfl, ((h.more hl).upd 4 (x := 2) (by decide) (by decide)), Tri.run (codeF _ _) (env_ok h (g42 h hl hc hn)) run208 ren_nq23⟩
  · exact ⟨85, _, _, by decide, rfl, ((h.more hl).upd 4 (x := 3) (by decide) (by decide)), Tri.run (codeF _ _) (env_ok h (g43 h hl hc hn)) run209 ren_nq24⟩
theorem round42 (h : Inv L n at' sl) (hn : (4 : Int) < n) : Round w0 N z L n at' b sl u v 42 := by
  rcases drawn h with hl | ⟨hl, hc | hc | hc | hc⟩
  · exact ⟨86, _, _, by decide, rfl, (h.upd 4 (x := 0) (by decide) (by decide)), Tri.run (codeF _ _) (env_ok h (g4E h hl hn)) run210 ren_nq20⟩
  · exact ⟨86, _, _, by decide, rfl, ((h.more hl).upd 4 (x := 0) (by decide) (by decide)), Tri.run (codeF _ _) (env_ok h (g40 h hl hc hn)) run211 ren_nq21⟩
  · exact ⟨81, _, _, by decide, rfl, ((h.more hl).upd 4 (x := 1) (by decide) (by decide)), Tri.run (codeF _ _) (env_ok h (g41 h hl hc hn)) run212 ren_nq22⟩
  · exact ⟨86, _, _, by decide, rfl, ((h.more hl).upd 4 (x := 2) (by decide) (by decide)), Tri.run (codeF _ _) (env_ok h (g42 h hl hc hn)) run213 ren_nq23⟩
  · exact ⟨87, _, _, by decide, rfl, ((h.more hl).upd 4 (x := 3) (by decide) (by decide)), Tri.run (codeF _ _) (env_ok h (g43 h hl hc hn)) run214 ren_nq24⟩
theorem round43 (h : Inv L n at' sl) (hn : (4 : Int) < n) : Round w0 N z L n at' b sl u v 43 := by
  rcases drawn h with hl | ⟨hl, hc | hc | hc | hc⟩
  · exact ⟨88, _, _, by decide, rfl, (h.upd 4 (x := 0) (by decide) (by decide)), Tri.run (codeF _ _) (env_ok h (g4E h hl hn)) run215 ren_nq20⟩
  · exact ⟨88, _, _, by decide, rfl, ((h.more hl).upd 4 (x := 0) (by decide) (by decide)), Tri.run (codeF _ _) (env_ok h (g40 h hl hc hn)) run216 ren_nq21⟩
  · exact ⟨84, _, _, by decide, rfl, ((h.more hl).upd 4 (x := 1) (by decide) (by decide)), Tri.run (codeF _ _) (env_ok h (g41 h hl hc hn)) run217 ren_nq22⟩
  · exact ⟨88, _, _, by decide, rfl, ((h.more hl).upd 4 (x := 2) (by decide) (by decide)), Tri.run (codeF _ _) (env_ok h (g42 h hl hc hn)) run218 ren_nq23⟩
  · exact ⟨88, _, _, by decide, rfl, ((h.more hl).upd 4 (x := 3) (by decide) (by decide)), Tri.run (codeF _ _) (env_ok h (g43 h hl hc hn)) run219 ren_nq24⟩
theorem round44 (h : Inv L n at' sl) (hn : (4 : Int) < n) : Round w0 N z L n at' b sl u v 44 := by
  rcases drawn h with hl | ⟨hl, hc | hc | hc | hc⟩
  · exact ⟨89, _, _, by decide, rfl, (h.upd 4 (x := 0) (by decide) (by decide)), Tri.run (codeF _ _) (env_ok h (g4E h hl hn)) run220 ren_nq20⟩
  · exact ⟨89, _, _, by decide, rfl, ((h.more hl).upd 4 (x := 0) (by decide) (by decide)), Tri.run (codeF _ _) (env_ok h (g40 h hl hc hn)) run221 ren_nq21⟩
  · exact ⟨82, _, _, by decide, rfl, ((h.more hl).upd 4 (x := 1) (by decide) (by decide)), Tri.run (codeF _ _) (env_ok h (g41 h hl hc hn)) run222 ren_nq22⟩
  · exact ⟨87, _, _, by decide, rfl, ((h.more hl).upd 4 (x := 2) (by decide) (by decide)), Tri.run (codeF _ _) (env_ok h (g42 h hl hc hn)) run223 ren_nq23⟩
  · exact ⟨89, _, _, by decide, rfl, ((h.more hl).upd 4 (x := 3) (by decide) (by decide)), Tri.run (codeF _ _) (env_ok h (g43 h hl hc hn)) run224 ren_nq24⟩
theorem round45 (h : Inv L n at' sl) (hn : (4 : Int) < n) : Round w0 N z L n at' b sl u v 45 := by
  rcases drawn h with hl | ⟨hl, hc | hc | hc | hc⟩
  · exact ⟨90, _, _, by decide, rfl, (h.upd 4 (x := 0) (by decide) (by decide)), Tri.run (codeF _ _) (env_ok h (g4E h hl hn)) run225 ren_nq20⟩
  · exact ⟨90, _, _, by decide, rfl, ((h.more hl).upd 4 (x := 0) (by decide) (by decide)), Tri.run (codeF _ _) (env_ok h (g40 h hl hc hn)) run226 ren_nq21⟩
  · exact ⟨90, _, _, by decide, rfl, ((h.more hl).upd 4 (x := 1) (by decide) (by decide)), Tri.run (codeF _ _) (env_ok h (g41 h hl hc hn)) run227 ren_nq22⟩
  · exact ⟨91, _, _, by decide, rfl, ((h.more hl).upd 4 (x := 2) (by decide) (by decide)), Tri.run (codeF _ _) (env_ok h (g42 h hl hc hn)) run228 ren_nq23⟩
  · exact ⟨92, _, _, by decide, rfl, ((h.more hl).upd 4 (x := 3) (by decide) (by decide)), Tri.run (codeF _ _) (env_ok h (g43 h hl hc hn)) run229 ren_nq24⟩
theorem round46 (h : Inv L n at' sl) (hn : (4 : Int) < n) : Round w0 N z L n at' b sl u v 46 := by
  rcases drawn h with hl | ⟨hl, hc | hc | hc | hc⟩
  · exact ⟨93, _, _, by decide, rfl, (h.upd 4 (x := 0) (by decide) (by decide)), Tri.run (codeF _ _) (env_ok h (g4E h hl hn)) run230 ren_nq20⟩
  · exact ⟨93, _, _, by decide, rfl, ((h.more hl).upd 4 (x := 0) (by decide) (by decide)), Tri.run (codeF _ _) (env_ok h (g40 h hl hc hn)) run231 ren_nq21⟩
  · exact ⟨93, _, _, by decide, rfl, ((h.more hl).upd 4 (x := 1) (by decide) (by decide)), Tri.run (codeF _ _) (env_ok h (g41 h hl hc hn)) run232 ren_nq22⟩
  · exact ⟨93, _, _, by decide, rfl, ((h.more hl).upd 4 (x := 2) (by decide) (by decide)), Tri.run (codeF _ _) (env_ok h (g42 h hl hc hn)) run233 ren_nq23⟩
  · exact ⟨94, _, _, by decide, rfl, ((h.more hl).upd 4 (x := 3) (by decide) (by decide)), Tri.run (codeF _ _) (env_ok h (g43 h hl hc hn)) run234 ren_nq24⟩
theorem round47 (h : Inv L n at' sl) (hn : (4 : Int) < n) : Round w0 N z L n at' b sl u v 47 := by
  rcases drawn h with hl | ⟨hl, hc | hc | hc | hc⟩
  · exact ⟨95, _, _, by decide, rfl, (h.upd 4 (x := 0) (by decide) (by decide)), Tri.run (codeF _ _) (env_ok h (g4E h hl hn)) run235 ren_nq20⟩
  · exact ⟨95, _, _, by decide, rfl, ((h.more hl).upd 4 (x := 0) (by decide) (by decide)), Tri.run (codeF _ _) (env_ok h (g40 h hl hc hn)) run236 ren_nq21⟩
  · exact ⟨95, _, _, by decide, rfl, ((h.more hl).upd 4 (x := 1) (by decide) (by decide)), Tri.run (codeF _ _) (env_ok h (g41 h hl hc hn)) run237 ren_nq22⟩
  · exact ⟨94, _, _, by decide, rfl, ((h.more hl).upd 4 (x := 2) (by decide) (by decide)), Tri.run (codeF _ _) (env_ok h (g42 h hl hc hn)) run238 ren_nq23⟩
  · exact ⟨95, _, _, by decide, rfl, ((h.more hl).upd 4 (x := 3) (by decide) (by decide)), Tri.run (codeF _ _) (env_ok h (g43 h hl hc hn)) run239 ren_nq24⟩
theorem round48 (h : Inv L n at' sl) (hn : (4 : Int) < n) : Round w0 N z L n at' b sl u v 48 := by
  rcases drawn h with hl | ⟨hl, hc | hc | hc | hc⟩
  · exact ⟨96, _, _, by decide, rfl, (h.upd 4 (x := 0) (by decide) (by decide)), Tri.run (codeF _ _) (env_ok h (g4E h hl hn)) run240 ren_nq20⟩
  · exact ⟨96, _, _, by decide, rfl, ((h.more hl).upd 4 (x := 0) (by decide) (by decide)), Tri.run (codeF _ _) (env_ok h (g40 h hl hc hn)) run241 ren_nq21⟩
  · exact ⟨96, _, _, by decide, rfl, ((h.more hl).upd 4 (x := 1) (by decide) (by decide)), Tri.run (codeF _ _) (env_ok h (g41 h hl hc hn)) run242 ren_nq22⟩
  · exact ⟨96, _, _, by decide, rfl, ((h.more hl).upd 4 (x := 2) (by decide) (by decide)), Tri.run (codeF _ _) (env_ok h (g42 h hl hc hn)) run243 ren_nq23⟩
  · exact ⟨97, _, _, by decide, rfl, ((h.more hl).upd 4 (x := 3) (by decide) (by decide)), Tri.run (codeF _ _) (env_ok h (g43 h hl hc hn)) run244 ren_nq24⟩
theorem round49 (h : Inv L n at' sl) (hn : (4 : Int) < n) : Round w0 N z L n at' b sl u v 49 := by
  rcases drawn h with hl | ⟨hl, hc | hc | hc | hc⟩
  · exact ⟨98, _, _, by decide, rfl, (h.upd 4 (x := 0) (by decide) (by decide)), Tri.run (codeF _ _) (env_ok h (g4E h hl hn)) run245 ren_nq20⟩
  · exact ⟨98, _, _, by decide, rfl, ((h.more hl).upd 4 (x := 0) (by decide) (by decide)), Tri.run (codeF _ _) (env_ok h (g40 h hl hc hn)) run246 ren_nq21⟩
  · exact ⟨98, _, _, by decide, rfl, ((h.more hl).upd 4 (x := 1) (by decide) (by decide)), Tri.run (codeF _ _) (env_ok h (g41 h hl hc hn)) run247 ren_nq22⟩
  · exact ⟨98, _, _, by decide, rfl, ((h.more hl).upd 4 (x := 2) (by decide) (by decide)), Tri.run (codeF _ _) (env_ok h (g42 h hl hc hn)) run248 ren_nq23⟩
  · exact ⟨98, _, _, by decide, rfl, ((h.more hl).upd 4 (x := 3) (by decide) (by decide)), Tri.run (codeF _ _) (env_ok h (g43 h hl hc hn)) run249 ren_nq24⟩
theorem round50 (h : Inv L n at' sl) (hn : (4 : Int) < n) : Round w0 N z L n at' b sl u v 50 := by
  rcases drawn h with hl | ⟨hl, hc | hc | hc | hc⟩
  · exact ⟨99, _, _, by decide, rfl, (h.upd 4 (x := 0) (by decide) (by decide)), Tri.run (codeF _ _) (env_ok h (g4E h hl hn)) run250 ren_nq20⟩
  · exact ⟨99, _, _, by decide, rfl, ((h.more hl).upd 4 (x := 0) (by decide) (by decide)), Tri.run (codeF _ _) (env_ok h (g40 h hl hc hn)) run251 ren_nq21⟩
  · exact ⟨99, _, _, by decide, rfl, ((h.more hl).upd 4 (x := 1) (by decide) (by decide)), Tri.run (codeF _ _) (env_ok h (g41 h hl hc hn)) run252 ren_nq22⟩
  · exact ⟨97, _, _, by decide, rfl, ((h.more hl).upd 4 (x := 2) (by decide) (by decide)), Tri.run (codeF _ _) (env_ok h (g42 h hl hc hn)) run253 ren_nq23⟩
  · exact ⟨99, _, _, by decide, rfl, ((h.more hl).upd 4 (x := 3) (by decide) (by decide)), Tri.run (codeF _ _) (env_ok h (g43 h hl hc hn)) run254 ren_nq24⟩
theorem round51 (h : Inv L n at' sl) (hn : (4 : Int) < n) : Round w0 N z L n at' b sl u v 51 := by
  rcases drawn h with hl | ⟨hl, hc | hc | hc | hc⟩
  · exact ⟨100, _, _, by decide, rfl, (h.upd 4 (x := 0) (by decide) (by decide)), Tri.run (codeF _ _) (env_ok h (g4E h hl hn)) run255 ren_nq20⟩
  · exact ⟨100, _, _, by decide, rfl, ((h.more hl).upd 4 (x := 0) (by decide) (by decide)), Tri.run (codeF _ _) (env_ok h (g40 h hl hc hn)) run256 ren_nq21⟩
  · exact ⟨91, _, _, by decide, rfl, ((h.more hl).upd 4 (x := 1) (by decide) (by decide)), Tri.run (codeF _ _) (env_ok h (g41 h hl hc hn)) run257 ren_nq22⟩
  · exact ⟨100, _, _, by decide, rfl, ((h.more hl).upd 4 (x := 2) (by decide) (by decide)), Tri.run (codeF _ _) (env_ok h (g42 h hl hc hn)) run258 ren_nq23⟩
  · exact ⟨101, _, _, by decide, rfl, ((h.more hl).upd 4 (x := 3) (by decide) (by decide)), Tri.run (codeF _ _) (env_ok h (g43 h hl hc hn)) run259 ren_nq24⟩
theorem round52 (h : Inv L n at' sl) (hn : (4 : Int) < n) : Round w0 N z L n at' b sl u v 52 := by
  rcases drawn h with hl | ⟨hl, hc | hc | hc | hc⟩
  · exact ⟨102, _, _, by decide, rfl, (h.upd 4 (x := 0) (by decide) (by decide)), Tri.run (codeF _ _) (env_ok h (g4E h hl hn)) run260 ren_nq20⟩
  · exact ⟨102, _, _, by decide, rfl, ((h.more hl).upd 4 (x := 0) (by decide) (by decide)), Tri.run (codeF _ _) (env_ok h (g40 h hl hc hn)) run261 ren_nq21⟩
  · exact ⟨94, _, _, by decide, rfl, ((h.more hl).upd 4 (x := 1) (by decide) (by decide)), Tri.run (codeF _ _) (env_ok h (g41 h hl hc hn)) run262 ren_nq22⟩
  · exact ⟨102, _, _, by decide, rfl, ((h.more hl).upd 4 (x := 2) (by decide) (by decide)), Tri.run (codeF _ _) (env_ok h (g42 h hl hc hn)) run263 ren_nq23⟩
  · exact ⟨102, _, _, by decide, rfl, ((h.more hl).upd 4 (x := 3) (by decide) (by decide)), Tri.run (codeF _ _) (env_ok h (g43 h hl hc hn)) run264 ren_nq24⟩
theorem round53 (h : Inv L n at' sl) (hn : (4 : Int) < n) : Round w0 N z L n at' b sl u v 53 := by
  rcases drawn h with hl | ⟨hl, hc | hc | hc | hc⟩
  · exact ⟨103, _, _, by decide, rfl, (h.upd 4 (x := 0) (by decide) (by decide)), Tri.run (codeF _ _) (env_ok h (g4E h hl hn)) run265 ren_nq20⟩
  · exact ⟨103, _, _, by decide, rfl, ((h.more hl).upd 4 (x := 0) (by decide) (by decide)), Tri.run (codeF _ _) (env_ok h (g40 h hl hc hn)) run266 ren_nq21⟩
  · exact ⟨97, _, _, by decide, rfl, ((h.more hl).upd 4 (x := 1) (by decide) (by decide)), Tri.run (codeF _ _) (env_ok h (g41 h hl hc hn)) run267 ren_nq22⟩
  · exact ⟨103, _, _, by decide, rfl, ((h.more hl).upd 4 (x := 2) (by decide) (by decide)), Tri.run (codeF _ _) (env_ok h (g42 h hl hc hn)) run268 ren_nq23⟩
  · exact ⟨103, _, _, by decide, rfl, ((h.more hl).upd 4 (x := 3) (by decide) (by decide)), Tri.run (codeF _ _) (env_ok h (g43 h hl hc hn)) run269 ren_nq24⟩
theorem round54 (h : Inv L n at' sl) (hn : (4 : Int) < n) : Round w0 N z L n at' b sl u v 54 := by
  rcases drawn h with hl | ⟨hl, hc | hc | hc | hc⟩
  · exact ⟨104, _, _, by decide, rfl, (h.upd 4 (x := 0) (by decide) (by decide)), Tri.run (codeF _ _) (env_ok h (g4E h hl hn)) run270 ren_nq20⟩
  · exact ⟨104, _, _, by decide, rfl, ((h.more hl).upd 4 (x := 0) (by decide) (by decide)), Tri.run (codeF _ _) (env_ok h (g40 h hl hc hn)) run271 ren_nq21⟩
  · exact ⟨92, _, _, by decide, rfl, ((h.more hl).upd 4 (x := 1) (by decide) (by decide)), Tri.run (codeF _ _) (env_ok h (g41 h hl hc hn)) run272 ren_nq22⟩
  · exact ⟨101, _, _, by decide, rfl, ((h.more hl).upd 4 (x := 2) (by decide) (by decide)), Tri.run (codeF _ _) (env_ok h (g42 h hl hc hn)) run273 ren_nq23⟩
  · exact ⟨104, _, _, by decide, rfl, ((h.more hl).upd 4 (x := 3) (by decide) (by decide)), Tri.run (codeF _ _) (env_ok h (g43 h hl hc hn)) run274 ren_nq24⟩
theorem round55 (h : Inv L n at' sl) (hn : (4 : Int) < n) : Round w0 N z L n at' b sl u v 55 := by
  rcases drawn h with hl | ⟨hl, hc | hc | hc | hc⟩
  · exact ⟨71, _, _, by decide, rfl, (h.upd 4 (x := 0) (by decide) (by decide)), Tri.run (codeF _ _) (env_ok h (g4E h hl hn)) run275 ren_nq20⟩
  · exact ⟨71, _, _, by decide, rfl, ((h.more hl).upd 4 (x := 0) (by decide) (by decide)), Tri.run (codeF _ _) (env_ok h (g40 h hl hc hn)) run276 ren_nq21⟩
  · exact ⟨105, _, _, by decide, rfl, ((h.more hl).upd 4 (x := 1) (by decide) (by decide)), Tri.run (codeF _ _) (env_ok h (g41 h hl hc hn)) run277 ren_nq22⟩
  · exact ⟨106, _, _, by decide, rfl, ((h.more hl).upd 4 (x := 2) (by decide) (by decide)), Tri.run (codeF _ _) (env_ok h (g42 h hl hc hn)) run278 ren_nq23⟩
  · exact ⟨107, _, _, by decide, rfl, ((h.more hl).upd 4 (x := 3) (by decide) (by decide)), Tri.run (codeF _ _) (env_ok h (g43 h hl hc hn)) run279 ren_nq24⟩
theorem round56 (h : Inv L n at' sl) (hn : (4 : Int) < n) : Round w0 N z L n at' b sl u v 56 := by
  rcases drawn h with hl | ⟨hl, hc | hc | hc | hc⟩
  · exact ⟨75, _, _, by decide, rfl, (h.upd 4 (x := 0) (by decide) (by decide)), Tri.run (codeF _ _) (env_ok h (g4E h hl hn)) run280 ren_nq20⟩
  · exact ⟨75, _, _, by decide, rfl, ((h.more hl).upd 4 (x := 0) (by decide) (by decide)), Tri.run (codeF _ _) (env_ok h (g40 h hl hc hn)) run281 ren_nq21⟩
  · exact ⟨108, _, _, by decide, rfl, ((h.more hl).upd 4 (x := 1) (by decide) (by decide)), Tri.run (codeF _ _) (env_ok h (g41 h hl hc hn)) run282 ren_nq22⟩
  · exact ⟨108, _, _, by decide, rfl, ((h.more hl).upd 4 (x := 2) (by decide) (by decide)), Tri.run (codeF _ _) (env_ok h (g42 h hl hc hn)) run283 ren_nq23⟩
  · exact ⟨109, _, _, by decide, rfl, ((h.more hl).upd 4 (x := 3) (by decide) (by decide)), Tri.run (codeF _ _) (env_ok h (g43 h hl hc hn)) run284 ren_nq24⟩
theorem round57 (h : Inv L n at' sl) (hn : (4 : Int) < n) : Round w0 N z L n at' b sl u v 57 := by
  rcases drawn h with hl | ⟨hl, hc | hc | hc | hc⟩
  · exact ⟨76, _, _, by decide, rfl, (h.upd 4 (x := 0) (by decide) (by decide)), Tri.run (codeF _ _) (env_ok h (g4E h hl hn)) run285 ren_nq20⟩
  · exact ⟨76, _, _, by decide, rfl, ((h.more hl).upd 4 (x := 0) (by decide) (by decide)), Tri.run (codeF _ _) (env_ok h (g40 h hl hc hn)) run286 ren_nq21⟩
  · exact ⟨110, _, _, by decide, rfl, ((h.more hl).upd 4 (x := 1) (by decide) (by decide)), Tri.run (codeF _ _) (env_ok h (g41 h hl hc hn)) run287 ren_nq22⟩
  · exact ⟨109, _, _, by decide, rfl, ((h.more hl).upd 4 (x := 2) (by decide) (by decide)), Tri.run (codeF _ _) (env_ok h (g42 h hl hc hn)) run288 ren_nq23⟩
  · exact ⟨110, _, _, by decide, rfl, ((h.more hl).upd 4 (x := 3) (by decide) (by decide)), Tri.run (codeF _ _) (env_ok h (g43 h hl hc hn)) run289 ren_nq24⟩
theorem round58 (h : Inv L n at' sl) (hn : (4 : Int) < n) : Round w0 N z L n at' b sl u v 58 := by
  rcases drawn h with hl | ⟨hl, hc | hc | hc | hc⟩
  · exact ⟨81, _, _, by decide, rfl, (h.upd 4 (x := 0) (by decide) (by decide)), Tri.run (codeF _ _) (env_ok h (g4E h hl hn)) run290 ren_nq20⟩
  · exact ⟨81, _, _, by decide, rfl, ((h.more hl).upd 4 (x := 0) (by decide) (by decide)), Tri.run (codeF _ _) (env_ok h (g40 h hl hc hn)) run291 ren_nq21⟩
  · exact ⟨111, _, _, by decide, rfl, ((h.more hl).upd 4 (x := 1) (by decide) (by decide)), Tri.run (codeF _ _) (env_ok h (g41 h hl hc hn)) run292 ren_nq22⟩
  · exact ⟨111, _, _, by decide, rfl, ((h.more hl).upd 4 (x := 2) (by decide) (by decide)), Tri.run (codeF _ _) (env_ok h (g42 h hl hc hn)) run293 ren_nq23⟩
  · exact ⟨112, _, _, by decide, rfl, ((h.more hl).upd 4 (x := 3) (by decide) (by decide)), Tri.run (codeF _ _) (env_ok h (g43 h hl hc hn)) run294 ren_nq24⟩
theorem round59 (h : Inv L n at' sl) (hn : (4 : Int) < n) : Round w0 N z L n at' b sl u v 59 := by
  rcases drawn h with hl | ⟨hl, hc | hc | hc | hc⟩
  · exact ⟨84, _, _, by decide, rfl, (h.upd 4 (x := 0) (by decide) (by decide)), Tri.run (codeF _ _) (env_ok h (g4E h hl hn)) run295 ren_nq20⟩
  · exact ⟨84, _, _, by decide, rfl, ((h.more hl).upd 4 (x := 0) (by decide) (by decide)), Tri.run (codeF _ _) (env_ok h (g40 h hl hc hn)) run296 ren_nq21⟩
  · exact ⟨113, _, _, by decide, rfl, ((h.more hl).upd 4 (x := 1) (by decide) (by decide)), Tri.run (codeF _ _) (env_ok h (g41 h hl hc hn)) run297 ren_nq22⟩
  · exact ⟨113, _, _, by decide, rfl, ((h.more hl).upd 4 (x := 2) (by decide) (by decide)), Tri.run (codeF _ _) (env_ok h (g42 h hl hc hn)) run298 ren_nq23⟩
  · exact ⟨113, _, _, by decide, rfl, ((h.more hl).upd 4 (x := 3) (by decide) (by decide)), Tri.run (codeF _ _) (env_ok h (g43 h hl hc hn)) run299 ren_nq24⟩
theorem round60 (h : Inv L n at' sl) (hn : (4 : Int) < n) : Round w0 N z L n at' b sl u v 60 := by
  rcases drawn h with hl | ⟨hl, hc | hc | hc | hc⟩
  · exact ⟨82, _, _, by decide, rfl, (h.upd 4 (x := 0) (by decide) (by decide)), Tri.run (codeF _ _) (env_ok h (g4E h hl hn)) run300 ren_nq20⟩
  · exact ⟨82, _, _, by decide, rfl, ((h.more hl).upd 4 (x := 0) (by decide) (by decide)), Tri.run (codeF _ _) (env_ok h (g40 h hl hc hn)) run301 ren_nq21⟩
  · exact ⟨114, _, _, by decide, rfl, ((h.more hl).upd 4 (x := 1) (by decide) (by decide)), Tri.run (codeF _ _) (env_ok h (g41 h hl hc hn)) run302 ren_nq22⟩
  · exact ⟨112, _, _, by decide, rfl, ((h.more hl).upd 4 (x := 2) (by decide) (by decide)), Tri.run (codeF _ _) (env_ok h (g42 h hl hc hn)) run303 ren_nq23⟩
  · exact ⟨114, _, _, by decide, rfl, ((h.more hl).upd 4 (x := 3) (by decide) (by decide)), Tri.run (codeF _ _) (env_ok h (g43 h hl hc hn)) run304 ren_nq24⟩
theorem round61 (h : Inv L n at' sl) (hn : (4 : Int) < n) : Round w0 N z L n at' b sl u v 61 := by
  rcases drawn h with hl | ⟨hl, hc | hc | hc | hc⟩
  · exact ⟨91, _, _, by decide, rfl, (h.upd 4 (x := 0) (by decide) (by decide)), Tri.run (codeF _ _) (env_ok h (g4E h hl hn)) run305 ren_nq20⟩
  · exact ⟨91, _, _, by decide, rfl, ((h.more hl).upd 4 (x := 0) (by decide) (by decide)), Tri.run (codeF _ _) (env_ok h (g40 h hl hc hn)) run306 ren_nq21⟩
  · exact ⟨115, _, _, by decide, rfl, ((h.more hl).upd 4 (x := 1) (by decide) (by decide)), Tri.run (codeF _ _) (env_ok h (g41 h hl hc hn)) run307 ren_nq22⟩
  · exact ⟨115, _, _, by decide, rfl, ((h.more hl).upd 4 (x := 2) (by decide) (by decide)), Tri.run (codeF _ _) (env_ok h (g42 h hl hc hn)) run308 ren_nq23⟩
  · exact ⟨116, _, _, by decide, rfl, ((h.more hl).upd 4 (x := 3) (by decide) (by decide)), Tri.run (codeF _ _) (env_ok h (g43 h hl hc hn)) run309 ren_nq24⟩
theorem round62 (h : Inv L n at' sl) (hn : (4 : Int) < n) : Round w0 N z L n at' b sl u v 62 := by
  rcases drawn h with hl | ⟨hl, hc | hc | hc | hc⟩
  · exact ⟨94, _, _, by decide, rfl, (h.upd 4 (x := 0) (by decide) (by decide)), Tri.run (codeF _ _) (env_ok h (g4E h hl hn)) run310 ren_nq20⟩
  · exact ⟨94, _, _, by decide, rfl, ((h.more hl).upd 4 (x := 0) (by decide) (by decide)), Tri.run (codeF _ _) (env_ok h (g40 h hl hc hn)) run311 ren_nq21⟩
  · exact ⟨117, _, _, by decide, rfl, ((h.more hl).upd 4 (x := 1) (by decide) (by decide)), Tri.run (codeF _ _) (env_ok h (g41 h hl hc hn)) run312 ren_nq22⟩
  · exact ⟨117, _, _, by decide, rfl, ((h.more hl).upd 4 (x := 2) (by decide) (by decide)), Tri.run (codeF _ _) (env_ok h (g42 h hl hc hn)) run313 ren_nq23⟩
  · exact ⟨117, _, _, by decide, rfl, ((h.more hl).upd 4 (x := 3) (by decide) (by decide)), Tri.run (codeF _ _) (env_ok h (g43 h hl hc hn)) run314 ren_nq24⟩
theorem round63 (h : Inv L n at' sl) (hn : (4 : Int) < n) : Round w0 N z L n at' b sl u v 63 := by
  rcases drawn h with hl | ⟨hl, hc | hc | hc | hc⟩
  · exact ⟨97, _, _, by decide, rfl, (h.upd 4 (x := 0) (by decide) (by decide)), Tri.run (codeF _ _) (env_ok h (g4E h hl hn)) run315 ren_nq20⟩
  · exact ⟨97, _, _, by decide, rfl, ((h.more hl).upd 4 (x := 0) (by decide) (by decide)), Tri.run (codeF _ _) (env_ok h (g40 h hl hc hn)) run316 ren_nq21⟩
  · exact ⟨118, _, _, by decide, rfl, ((h.more hl).upd 4 (x := 1) (by decide) (by decide)), Tri.run (codeF _ _) (env_ok h (g41 h hl hc hn)) run317 ren_nq22⟩
  · exact ⟨118, _, _, by decide, rfl, ((h.more hl).upd 4 (x := 2) (by decide) (by decide)), Tri.run (codeF _ _) (env_ok h (g42 h hl hc hn)) run318 ren_nq23⟩
  · exact ⟨118, _, _, by decide, rfl, ((h.more hl).upd 4 (x := 3) (by decide) (by decide)), Tri.run (codeF _ _) (env_ok h (g43 h hl hc hn)) run319 ren_nq24⟩
theorem round64 (h : Inv L n at' sl) (hn : (4 : Int) < n) : Round w0 N z L n at' b sl u v 64 := by
  rcases drawn h with hl | ⟨hl, hc | hc | hc | hc⟩
  · exact ⟨92, _, _, by decide, rfl, (h.upd 4 (x := 0) (by decide) (by decide)), Tri.run (codeF _ _) (env_ok h (g4E h hl hn)) run320 ren_nq20⟩
  · exact ⟨92, _, _, by decide, rfl, ((h.more hl).upd 4 (x := 0) (by decide) (by decide)), Tri.run (codeF _ _) (env_ok h (g40 h hl hc hn)) run321 ren_nq21⟩
  · exact ⟨119, _, _, by decide, rfl, ((h.more hl).upd 4 (x := 1) (by decide) (by decide)), Tri.run (codeF _ _) (env_ok h (g41 h hl hc hn)) run322 ren_nq22⟩
  · exact ⟨116, _, _, by decide, rfl, ((h.more hl).upd 4 (x := 2) (by decide) (by decide)), Tri.run (codeF _ _) (env_ok h (g42 h hl hc hn)) run323 ren_nq23⟩
  · exact ⟨119, _, _, by decide, rfl, ((h.more hl).upd 4 (x := 3) (by decide) (by decide)), Tri.run (codeF _ _) (env_ok h (g43 h hl hc hn)) run324 ren_nq24⟩
theorem round65 (h : Inv L n at' sl) (hn : (4 : Int) < n) : Round w0 N z L n at' b sl u v 65 := by
  rcases drawn h with hl | ⟨hl, hc | hc | hc | hc⟩
  · exact ⟨72, _, _, by decide, rfl, (h.upd 4 (x := 0) (by decide) (by decide)), Tri.run (codeF _ _) (env_ok h (g4E h hl hn)) run325 ren_nq20⟩
  · exact ⟨72, _, _, by decide, rfl, ((h.more hl).upd 4 (x := 0) (by decide) (by decide)), Tri.run (codeF _ _) (env_ok h (g40 h hl hc hn)) run326 ren_nq21⟩
  · exact ⟨106, _, _, by decide, rfl, ((h.more hl).upd 4 (x := 1) (by decide) (by decide)), Tri.run (codeF _ _) (env_ok h (g41 h hl hc hn)) run327 ren_nq22⟩
  · exact ⟨120, _, _, by decide, rfl, ((h.more hl).upd 4 (x := 2) (by decide) (by decide)), Tri.run (codeF _ _) (env_ok h (g42 h hl hc hn)) run328 ren_nq23⟩
  · exact ⟨121, _, _, by decide, rfl, ((h.more hl).upd 4 (x := 3) (by decide) (by decide)), Tri.run (codeF _ _) (env_ok h (g43 h hl hc hn)) run329 ren_nq24⟩
theorem round66 (h : Inv L n at' sl) (hn : (4 : Int) < n) : Round w0 N z L n at' b sl u v 66 := by
  rcases drawn h with hl | ⟨hl, hc | hc | hc | hc⟩
  · exact ⟨78, _, _, by decide, rfl, (h.upd 4 (x := 0) (by decide) (by decide)), Tri.run (codeF _ _) (env_ok h (g4E h hl hn)) run330 ren_nq20⟩
  · exact ⟨78, _, _, by decide, rfl, ((h.more hl).upd 4 (x := 0) (by decide) (by decide)), Tri.run (codeF _ _) (env_ok h (g40 h hl hc hn)) run331 ren_nq21⟩
  · exact ⟨109, _, _, by decide, rfl, ((h.more hl).upd 4 (x := 1) (by decide) (by decide)), Tri.run (codeF _ _) (env_ok h (g41 h hl hc hn)) run332 ren_nq22⟩
  · exact ⟨122, _, _, by decide, rfl, ((h.more hl).upd 4 (x := 2) (by decide) (by decide)), Tri.run (codeF _ _) (env_ok h (g42 h hl hc hn)) run333 ren_nq23⟩
  · exact ⟨122, _, _, by decide, rfl, ((h.more hl).upd 4 (x := 3) (by decide) (by decide)), Tri.run (codeF _ _) (env_ok h (g43 h hl hc hn)) run334 ren_nq24⟩
theorem round67 (h : Inv L n at' sl) (hn : (4 : Int) < n) : Round w0 N z L n at' b sl u v 67 := by
  rcases drawn h with hl | ⟨hl, hc | hc | hc | hc⟩
  · exact ⟨87, _, _, by decide, rfl, (h.upd 4 (x := 0) (by decide) (by decide)), Tri.run (codeF _ _) (env_ok h (g4E h hl hn)) run335 ren_nq20⟩
  · exact ⟨87, _, _, by decide, rfl, ((h.more hl).upd 4 (x := 0) (by decide) (by decide)), Tri.run (codeF _ _) (env_ok h (g40 h hl hc hn)) run336 ren_nq21⟩
  · exact ⟨112, _, _, by decide, rfl, ((h.more hl).upd 4 (x := 1) (by decide) (by decide)), Tri.run (codeF _ _) (env_ok h (g41 h hl hc hn)) run337 ren_nq22⟩
  · exact ⟨123, _, _, by decide, rfl, ((h.more hl).upd 4 (x := 2) (by decide) (by decide)), Tri.run (codeF _ _) (env_ok h (g42 h hl hc hn)) run338 ren_nq23⟩
  · exact ⟨123, _, _, by decide, rfl, ((h.more hl).upd 4 (x := 3) (by decide) (by decide)), Tri.run (codeF _ _) (env_ok h (g43 h hl hc hn)) run339 ren_nq24⟩
theorem round68 (h : Inv L n at' sl) (hn : (4 : Int) < n) : Round w0 N z L n at' b sl u v 68 := by
  rcases drawn h with hl | ⟨hl, hc | hc | hc | hc⟩
  · exact ⟨101, _, _, by decide, rfl, (h.upd 4 (x := 0) (by decide) (by decide)), Tri.run (codeF _ _) (env_ok h (g4E h hl hn)) run340 ren_nq20⟩
  · exact ⟨101, _, _, by decide, rfl, ((h.more hl).upd 4 (x := 0) (by decide) (by decide)), Tri.run (codeF _ _) (env_ok h (g40 h hl hc hn)) run341 ren_nq21⟩
  · exact ⟨116, _, _, by decide, rfl, ((h.more hl).upd 4 (x := 1) (by decide) (by decide)), Tri.run (codeF _ _) (env_ok h (g41 h hl hc hn)) run342 ren_nq22⟩
  · exact ⟨124, _, _, by decide, rfl, ((h.more hl).upd 4 (x := 2) (by decide) (by decide)), Tri.run (codeF _ _) (env_ok h (g42 h hl hc hn)) run343 ren_nq23⟩
  · exact ⟨124, _, _, by decide, rfl, ((h.more hl).upd 4 (x := 3) (by decide) (by decide)), Tri.run (codeF _ _) (env_ok h (g43 h hl hc hn)) run344 ren_nq24⟩
theorem round69 (h : Inv L n at' sl) (hn : (4 : Int) < n) : Round w0 N z L n at' b sl u v 69 := by
  rcases drawn h with hl | ⟨hl, hc | hc | hc | hc⟩
  · exact ⟨73, _, _, by decide, rfl, (h.upd 4 (x := 0) (by decide) (by decide)), Tri.run (codeF _ _) (env_ok h (g4E h hl hn)) run345 ren_nq20⟩
  · exact ⟨73, _, _, by decide, rfl, ((h.more hl).upd 4 (x := 0) (by decide) (by decide)), Tri.run (codeF _ _) (env_ok h (g40 h hl hc hn)) run346 ren_nq21⟩
  · exact ⟨107, _, _, by decide, rfl, ((h.more hl).upd 4 (x := 1) (by decide) (by decide)), Tri.run (codeF _ _) (env_ok h (g41 h hl hc hn)) run347 ren_nq22⟩
  · exact ⟨121, _, _, by decide, rfl, ((h.more hl).upd 4 (x := 2) (by decide) (by decide)), Tri.run (codeF _ _) (env_ok h (g42 h hl hc hn)) run348 ren_nq23⟩
  · exact ⟨125, _, _, by decide, rfl, ((h.more hl).upd 4 (x := 3) (by decide) (by decide)), Tri.run (codeF _ _) (env_ok h (g43 h hl hc hn)) run349 ren_nq24⟩
theorem rounds : ∀ k, k < 126 → Inv L n at' sl → (iOf k : Int) < n → Round w0 N z L n at' b sl u v k
  | 0, _, h, hn => round0 h hn
  | 1, _, h, hn => round1 h hn
  | 2, _, h, hn => round2 h hn
  | 3, _, h, hn => round3 h hn
  | 4, _, h, hn => round4 h hn
  | 5, _, h, hn => round5 h hn
  | 6, _, h, hn => round6 h hn
  | 7, _, h, hn => round7 h hn
  | 8, _, h, hn => round8 h hn
  | 9, _, h, hn => round9 h hn
  | 10, _, h, hn => round10 h hn
  | 11, _, h, hn => round11 h hn
  | 12, _, h, hn => round12 h hn
  | 13, _, h, hn => round13 h hn
  | 14, _, h, hn => round14 h hn
  | 15, _, h, hn => round15 h hn
  | 16, _, h, hn => round16 h hn
  | 17, _, h, hn => round17 h hn
  | 18, _, h, hn => round18 h hn
  | 19, _, h, hn => round19 h hn
  | 20, _, h, hn => round20 h hn
  | 21, _, h, hn => round21 h hn
  | 22, _, h, hn => round22 h hn
  | 23, _, h, hn => round23 h hn
  | 24, _, h, hn => round24 h hn
  | 25, _, h, hn => round25 h hn
  | 26, _, h, hn => round26 h hn
  | 27, _, h, hn => round27 h hn
  | 28, _, h, hn => round28 h hn
  | 29, _, h, hn => round29 h hn
  | 30, _, h, hn => round30 h hn
  | 31, _, h, hn => round31 h hn
  | 32, _, h, hn => round32 h hn
  | 33, _, h, hn => round33 h hn
  | 34, _, h, hn => round34 h hn
  | 35, _, h, hn => round35 h hn
  | 36, _, h, hn => round36 h hn
  | 37, _, h, hn => round37 h hn
  | 38, _, h, hn => round38 h hn
  | 39, _, h, hn => round39 h hn
  | 40, _, h, hn => round40 h hn
  | 41, _, h, hn => round41 h hn
  | 42, _, h, hn => round42 h hn
  | 43, _, h, hn => round43 h hn
  | 44, _, h, hn => round44 h hn
  | 45, _, h, hn => round45 h hn
  | 46, _, h, hn => round46 h hn
  | 47, _, h, hn => round47 h hn
  | 48, _, h, hn => round48 h hn
  | 49, _, h, hn => round49 h hn
  | 50, _, h, hn => round50 h hn
  | 51, _, h, hn => round51 h hn
  | 52, _, h, hn => round52 h hn
  | 53, _, h, hn => round53 h hn
  | 54, _, h, hn => round54 h hn
  | 55, _, h, hn => round55 h hn
  | 56, _, h, hn => round56 h hn
  | 57, _, h, hn => round57 h hn
  | 58, _, h, hn => round58 h hn
  | 59, _, h, hn => round59 h hn
  | 60, _, h, hn => round60 h hn
  | 61, _, h, hn => round61 h hn
  | 62, _, h, hn => round62 h hn
  | 63, _, h, hn => round63 h hn
  | 64, _, h, hn => round64 h hn
  | 65, _, h, hn => round65 h hn
  | 66, _, h, hn => round66 h hn
  | 67, _, h, hn => round67 h hn
  | 68, _, h, hn => round68 h hn
  | 69, _, h, hn => round69 h hn
  | 70, _, h, hn => absurd (show (5 : Int) < n from hn) (by have := h.n5; omega)
  | 71, _, h, hn => absurd (show (5 : Int) < n from hn) (by have := h.n5; omega)
  | 72, _, h, hn => absurd (show (5 : Int) < n from hn) (by have := h.n5; omega)
  | 73, _, h, hn => absurd (show (5 : Int) < n from hn) (by have := h.n5; omega)
  | 74, _, h, hn => absurd (show (5 : Int) < n from hn) (by have := h.n5; omega)
  | 75, _, h, hn => absurd (show (5 : Int) < n from hn) (by have := h.n5; omega)
  | 76, _, h, hn => absurd (show (5 : Int) < n from hn) (by have := h.n5; omega)
  | 77, _, h, hn => absurd (show (5 : Int) < n from hn) (by have := h.n5; omega)
  | 78, _, h, hn => absurd (show (5 : Int) < n from hn) (by have := h.n5; omega)
  | 79, _, h, hn => absurd (show (5 : Int) < n from hn) (by have := h.n5; omega)
  | 80, _, h, hn => absurd (show (5 : Int) < n from hn) (by have := h.n5; omega)
  | 81, _, h, hn => absurd (show (5 : Int) < n from hn) (by have := h.n5; omega)
  | 82, _, h, hn => absurd (show (5 : Int) < n from hn) (by have := h.n5; omega)
  | 83, _, h, hn => absurd (show (5 : Int) < n from hn) (by have := h.n5; omega)
  | 84, _, h, hn => absurd (show (5 : Int) < n from hn) (by have := h.n5; omega)
  | 85, _, h, hn => absurd (show (5 : Int) < n from hn) (by have := h.n5; omega)
  | 86, _, h, hn => absurd (show (5 : Int) < n from hn) (by have := h.n5; omega)
  | 87, _, h, hn => absurd (show (5 : Int) < n from hn) (by have := h.n5; omega)
  | 88, _, h, hn => absurd (show (5 : Int) < n from hn) (by have := h.n5; omega)
  | 89, _, h, hn => absurd (show (5 : Int) < n from hn) (by have := h.n5; omega)
  | 90, _, h, hn => absurd (show (5 : Int) < n from hn) (by have := h.n5; omega)
  | 91, _, h, hn => absurd (show (5 : Int) < n from hn) (by have := h.n5; omega)
  | 92, _, h, hn => absurd (show (5 : Int) < n from hn) (by have := h.n5; omega)
  | 93, _, h, hn => absurd (show (5 : Int) < n from hn) (by have := h.n5; omega)
  | 94, _, h, hn => absurd (show (5 : Int) < n from hn) (by have := h.n5; omega)
  | 95, _, h, hn => absurd (show (5 : Int) < n from hn) (by have := h.n5; omega)
  | 96, _, h, hn => absurd (show (5 : Int) < n from hn) (by have := h.n5; omega)
  | 97, _, h, hn => absurd (show (5 : Int) < n from hn) (by have := h.n5; omega)
  | 98, _, h, hn => absurd (show (5 : Int) < n from hn) (by have := h.n5; omega)
  | 99, _, h, hn => absurd (show (5 : Int) < n from hn) (by have := h.n5; omega)
  | 100, _, h, hn => absurd (show (5 : Int) < n from hn) (by have := h.n5; omega)
  | 101, _, h, hn => absurd (show (5 : Int) < n from hn) (by have := h.n5; omega)
  | 102, _, h, hn => absurd (show (5 : Int) < n from hn) (by have := h.n5; omega)
  | 103, _, h, hn => absurd (show (5 : Int) < n from hn) (by have := h.n5; omega)
  | 104, _, h, hn => absurd (show (5 : Int) < n from hn) (by have := h.n5; omega)
  | 105, _, h, hn => absurd (show (5 : Int) < n from hn) (by have := h.n5; omega)
  | 106, _, h, hn => absurd (show (5 : Int) < n from hn) (by have := h.n5; omega)
  | 107, _, h, hn => absurd (show (5 : Int) < n from hn) (by have := h.n5; omega)
  | 108, _, h, hn => absurd (show (5 : Int) < n from hn) (by have := h.n5; omega)
  | 109, _, h, hn => absurd (show (5 : Int) < n from hn) (by have := h.n5; omega)
  | 110, _, h, hn => absurd (show (5 : Int) < n from hn) (by have := h.n5; omega)
  | 111, _, h, hn => absurd (show (5 : Int) < n from hn) (by have := h.n5; omega)
  | 112, _, h, hn => absurd (show (5 : Int) < n from hn) (by have := h.n5; omega)
  | 113, _, h, hn => absurd (show (5 : Int) < n from hn) (by have := h.n5; omega)
  | 114, _, h, hn => absurd (show (5 : Int) < n from hn) (by have := h.n5; omega)
  | 115, _, h, hn => absurd (show (5 : Int) < n from hn) (by have := h.n5; omega)
  | 116, _, h, hn => absurd (show (5 : Int) < n from hn) (by have := h.n5; omega)
  | 117, _, h, hn => absurd (show (5 : Int) < n from hn) (by have := h.n5; omega)
  | 118, _, h, hn => absurd (show (5 : Int) < n from hn) (by have := h.n5; omega)
  | 119, _, h, hn => absurd (show (5 : Int) < n from hn) (by have := h.n5; omega)
  | 120, _, h, hn => absurd (show (5 : Int) < n from hn) (by have := h.n5; omega)
  | 121, _, h, hn => absurd (show (5 : Int) < n from hn) (by have := h.n5; omega)
  | 122, _, h, hn => absurd (show (5 : Int) < n from hn) (by have := h.n5; omega)
  | 123, _, h, hn => absurd (show (5 : Int) < n from hn) (by have := h.n5; omega)
  | 124, _, h, hn => absurd (show (5 : Int) < n from hn) (by have := h.n5; omega)
  | 125, _, h, hn => absurd (show (5 : Int) < n from hn) (by have := h.n5; omega)
  | k + 126, hk, _, _ => absurd hk (by omega)
theorem exits : ∀ k, k < 126 → Inv L n at' sl → n ≤ (iOf k : Int) → Tri Tryz.prog N kBody (At w0 N (rF z L n at' b sl u v) (SS k)) fun e a w => e = .exit 0 ∧ At w0 N (rF z L n at' b sl u v) (SS k) a w
  | 0, _, h, hn => Tri.run (codeF _ _) (env_ok h (gX0_ok hn)) runX0 renX0
  | 1, _, h, hn => Tri.run (codeF _ _) (env_ok h (gX1_ok hn)) runX1 renX1
  | 2, _, h, hn => Tri.run (codeF _ _) (env_ok h (gX1_ok hn)) runX2 renX1
  | 3, _, h, hn => Tri.run (codeF _ _) (env_ok h (gX1_ok hn)) runX3 renX1
  | 4, _, h, hn => Tri.run (codeF _ _) (env_ok h (gX1_ok hn)) runX4 renX1
  | 5, _, h, hn => Tri.run (codeF _ _) (env_ok h (gX2_ok hn)) runX5 renX2
  | 6, _, h, hn => Tri.run (codeF _ _) (env_ok h (gX2_ok hn)) runX6 renX2
  | 7, _, h, hn => Tri.run (codeF _ _) (env_ok h (gX2_ok hn)) runX7 renX2
  | 8, _, h, hn => Tri.run (codeF _ _) (env_ok h (gX2_ok hn)) runX8 renX2
  | 9, _, h, hn => Tri.run (codeF _ _) (env_ok h (gX2_ok hn)) runX9 renX2
  | 10, _, h, hn => Tri.run (codeF _ _) (env_ok h (gX2_ok hn)) runX10 renX2
  | 11, _, h, hn => Tri.run (codeF _ _) (env_ok h (gX2_ok hn)) runX11 renX2
  | 12, _, h, hn => Tri.run (codeF _ _) (env_ok h (gX2_ok hn)) runX12 renX2
  | 13, _, h, hn => Tri.run (codeF _ _) (env_ok h (gX2_ok hn)) runX13 renX2
  | 14, _, h, hn => Tri.run (codeF _ _) (env_ok h (gX2_ok hn)) runX14 renX2
  | 15, _, h, hn => Tri.run (codeF _ _) (env_ok h (gX3_ok hn)) runX15 renX3
  | 16, _, h, hn => Tri.run (codeF _ _) (env_ok h (gX3_ok hn)) runX16 renX3
  | 17, _, h, hn => Tri.run (codeF _ _) (env_ok h (gX3_ok hn)) runX17 renX3
  | 18, _, h, hn => Tri.run (codeF _ _) (env_ok h (gX3_ok hn)) runX18 renX3
  | 19, _, h, hn => Tri.run (codeF _ _) (env_ok h (gX3_ok hn)) runX19 renX3
  | 20, _, h, hn => Tri.run (codeF _ _) (env_ok h (gX3_ok hn)) runX20 renX3
  | 21, _, h, hn => Tri.run (codeF _ _) (env_ok h (gX3_ok hn)) runX21 renX3
  | 22, _, h, hn => Tri.run (codeF _ _) (env_ok h (gX3_ok hn)) runX22 renX3
  | 23, _, h, hn => Tri.run (codeF _ _) (env_ok h (gX3_ok hn)) runX23 renX3
  | 24, _, h, hn => Tri.run (codeF _ _) (env_ok h (gX3_ok hn)) runX24 renX3
  | 25, _, h, hn => Tri.run (codeF _ _) (env_ok h (gX3_ok hn)) runX25 renX3
  | 26, _, h, hn => Tri.run (codeF _ _) (env_ok h (gX3_ok hn)) runX26 renX3
  | 27, _, h, hn => Tri.run (codeF _ _) (env_ok h (gX3_ok hn)) runX27 renX3
  | 28, _, h, hn => Tri.run (codeF _ _) (env_ok h (gX3_ok hn)) runX28 renX3
  | 29, _, h, hn => Tri.run (codeF _ _) (env_ok h (gX3_ok hn)) runX29 renX3
  | 30, _, h, hn => Tri.run (codeF _ _) (env_ok h (gX3_ok hn)) runX30 renX3
  | 31, _, h, hn => Tri.run (codeF _ _) (env_ok h (gX3_ok hn)) runX31 renX3
  | 32, _, h, hn => Tri.run (codeF _ _) (env_ok h (gX3_ok hn)) runX32 renX3
  | 33, _, h, hn => Tri.run (codeF _ _) (env_ok h (gX3_ok hn)) runX33 renX3
  | 34, _, h, hn => Tri.run (codeF _ _) (env_ok h (gX3_ok hn)) runX34 renX3
  | 35, _, h, hn => Tri.run (codeF _ _) (env_ok h (gX4_ok hn)) runX35 renX4
  | 36, _, h, hn => Tri.run (codeF _ _) (env_ok h (gX4_ok hn)) runX36 renX4
  | 37, _, h, hn => Tri.run (codeF _ _) (env_ok h (gX4_ok hn)) runX37 renX4
  | 38, _, h, hn => Tri.run (codeF _ _) (env_ok h (gX4_ok hn)) runX38 renX4
  | 39, _, h, hn => Tri.run (codeF _ _) (env_ok h (gX4_ok hn)) runX39 renX4
  | 40, _, h, hn => Tri.run (codeF _ _) (env_ok h (gX4_ok hn)) runX40 renX4
  | 41, _, h, hn => Tri.run (codeF _ _) (env_ok h (gX4_ok hn)) runX41 renX4
  | 42, _, h, hn => Tri.run (codeF _ _) (env_ok h (gX4_ok hn)) runX42 renX4
  | 43, _, h, hn => Tri.run (codeF _ _) (env_ok h (gX4_ok hn)) runX43 renX4
  | 44, _, h, hn => Tri.run (codeF _ _) (env_ok h (gX4_ok hn)) runX44 renX4
  | 45, _, h, hn => Tri.run (codeF _ _) (env_ok h (gX4_ok hn)) runX45 renX4
  | 46, _, h, hn => Tri.run (codeF _ _) (env_ok h (gX4_ok hn)) runX46 renX4
  | 47, _, h, hn => Tri.run (codeF _ _) (env_ok h (gX4_ok hn)) runX47 renX4
  | 48, _, h, hn => Tri.run (codeF _ _) (env_ok h (gX4_ok hn)) runX48 renX4
  | 49, _, h, hn => Tri.run (codeF _ _) (env_ok h (gX4_ok hn)) runX49 renX4
  | 50, _, h, hn => Tri.run (codeF _ _) (env_ok h (gX4_ok hn)) runX50 renX4
  | 51, _, h, hn => Tri.run (codeF _ _) (env_ok h (gX4_ok hn)) runX51 renX4
  | 52, _, h, hn => Tri.run (codeF _ _) (env_ok h (gX4_ok hn)) runX52 renX4
  | 53, _, h, hn => Tri.run (codeF _ _) (env_ok h (gX4_ok hn)) runX53 renX4
  | 54, _, h, hn => Tri.run (codeF _ _) (env_ok h (gX4_ok hn)) runX54 renX4
  | 55, _, h, hn => Tri.run (codeF _ _) (env_ok h (gX4_ok hn)) runX55 renX4
  | 56, _, h, hn => Tri.run (codeF _ _) (env_ok h (gX4_ok hn)) runX56 renX4
  | 57, _, h, hn => Tri.run (codeF _ _) (env_ok h (gX4_ok hn)) runX57 renX4
  | 58, _, h, hn => Tri.run (codeF _ _) (env_ok h (gX4_ok hn)) runX58 renX4
  | 59, _, h, hn => Tri.run (codeF _ _) (env_ok h (gX4_ok hn)) runX59 renX4
  | 60, _, h, hn => Tri.run (codeF _ _) (env_ok h (gX4_ok hn)) runX60 renX4
  | 61, _, h, hn => Tri.run (codeF _ _) (env_ok h (gX4_ok hn)) runX61 renX4
  | 62, _, h, hn => Tri.run (codeF _ _) (env_ok h (gX4_ok hn)) runX62 renX4
  | 63, _, h, hn => Tri.run (codeF _ _) (env_ok h (gX4_ok hn)) runX63 renX4
  | 64, _, h, hn => Tri.run (codeF _ _) (env_ok h (gX4_ok hn)) runX64 renX4
  | 65, _, h, hn => Tri.run (codeF _ _) (env_ok h (gX4_ok hn)) runX65 renX4
  | 66, _, h, hn => Tri.run (codeF _ _) (env_ok h (gX4_ok hn)) runX66 renX4
  | 67, _, h, hn => Tri.run (codeF _ _) (env_ok h (gX4_ok hn)) runX67 renX4
  | 68, _, h, hn => Tri.run (codeF _ _) (env_ok h (gX4_ok hn)) runX68 renX4
  | 69, _, h, hn => Tri.run (codeF _ _) (env_ok h (gX4_ok hn)) runX69 renX4
  | 70, _, h, hn => Tri.run (codeF _ _) (env_ok h (gX5_ok hn)) runX70 renX5
  | 71, _, h, hn => Tri.run (codeF _ _) (env_ok h (gX5_ok hn)) runX71 renX5
  | 72, _, h, hn => Tri.run (codeF _ _) (env_ok h (gX5_ok hn)) runX72 renX5
  | 73, _, h, hn => Tri.run (codeF _ _) (env_ok h (gX5_ok hn)) runX73 renX5
  | 74, _, h, hn => Tri.run (codeF _ _) (env_ok h (gX5_ok hn)) runX74 renX5
  | 75, _, h, hn => Tri.run (codeF _ _) (env_ok h (gX5_ok hn)) runX75 renX5
  | 76, _, h, hn => Tri.run (codeF _ _) (env_ok h (gX5_ok hn)) runX76 renX5
  | 77, _, h, hn => Tri.run (codeF _ _) (env_ok h (gX5_ok hn)) runX77 renX5
  | 78, _, h, hn => Tri.run (codeF _ _) (env_ok h (gX5_ok hn)) runX78 renX5
  | 79, _, h, hn => Tri.run (codeF _ _) (env_ok h (gX5_ok hn)) runX79 renX5
  | 80, _, h, hn => Tri.run (codeF _ _) (env_ok h (gX5_ok hn)) runX80 renX5
  | 81, _, h, hn => Tri.run (codeF _ _) (env_ok h (gX5_ok hn)) runX81 renX5
  | 82, _, h, hn => Tri.run (codeF _ _) (env_ok h (gX5_ok hn)) runX82 renX5
  | 83, _, h, hn => Tri.run (codeF _ _) (env_ok h (gX5_ok hn)) runX83 renX5
  | 84, _, h, hn => Tri.run (codeF _ _) (env_ok h (gX5_ok hn)) runX84 renX5
  | 85, _, h, hn => Tri.run (codeF _ _) (env_ok h (gX5_ok hn)) runX85 renX5
  | 86, _, h, hn => Tri.run (codeF _ _) (env_ok h (gX5_ok hn)) runX86 renX5
  | 87, _, h, hn => Tri.run (codeF _ _) (env_ok h (gX5_ok hn)) runX87 renX5
  | 88, _, h, hn => Tri.run (codeF _ _) (env_ok h (gX5_ok hn)) runX88 renX5
  | 89, _, h, hn => Tri.run (codeF _ _) (env_ok h (gX5_ok hn)) runX89 renX5
  | 90, _, h, hn => Tri.run (codeF _ _) (env_ok h (gX5_ok hn)) runX90 renX5
  | 91, _, h, hn => Tri.run (codeF _ _) (env_ok h (gX5_ok hn)) runX91 renX5
  | 92, _, h, hn => Tri.run (codeF _ _) (env_ok h (gX5_ok hn)) runX92 renX5
  | 93, _, h, hn => Tri.run (codeF _ _) (env_ok h (gX5_ok hn)) runX93 renX5
  | 94, _, h, hn => Tri.run (codeF _ _) (env_ok h (gX5_ok hn)) runX94 renX5
  | 95, _, h, hn => Tri.run (codeF _ _) (env_ok h (gX5_ok hn)) runX95 renX5
  | 96, _, h, hn => Tri.run (codeF _ _) (env_ok h (gX5_ok hn)) runX96 renX5
  | 97, _, h, hn => Tri.run (codeF _ _) (env_ok h (gX5_ok hn)) runX97 renX5
  | 98, _, h, hn => Tri.run (codeF _ _) (env_ok h (gX5_ok hn)) runX98 renX5
  | 99, _, h, hn => Tri.run (codeF _ _) (env_ok h (gX5_ok hn)) runX99 renX5
  | 100, _, h, hn => Tri.run (codeF _ _) (env_ok h (gX5_ok hn)) runX100 renX5
  | 101, _, h, hn => Tri.run (codeF _ _) (env_ok h (gX5_ok hn)) runX101 renX5
  | 102, _, h, hn => Tri.run (codeF _ _) (env_ok h (gX5_ok hn)) runX102 renX5
  | 103, _, h, hn => Tri.run (codeF _ _) (env_ok h (gX5_ok hn)) runX103 renX5
  | 104, _, h, hn => Tri.run (codeF _ _) (env_ok h (gX5_ok hn)) runX104 renX5
  | 105, _, h, hn => Tri.run (codeF _ _) (env_ok h (gX5_ok hn)) runX105 renX5
  | 106, _, h, hn => Tri.run (codeF _ _) (env_ok h (gX5_ok hn)) runX106 renX5
  | 107, _, h, hn => Tri.run (codeF _ _) (env_ok h (gX5_ok hn)) runX107 renX5
  | 108, _, h, hn => Tri.run (codeF _ _) (env_ok h (gX5_ok hn)) runX108 renX5
  | 109, _, h, hn => Tri.run (codeF _ _) (env_ok h (gX5_ok hn)) runX109 renX5
  | 110, _, h, hn => Tri.run (codeF _ _) (env_ok h (gX5_ok hn)) runX110 renX5
  | 111, _, h, hn => Tri.run (codeF _ _) (env_ok h (gX5_ok hn)) runX111 renX5
  | 112, _, h, hn => Tri.run (codeF _ _) (env_ok h (gX5_ok hn)) runX112 renX5
  | 113, _, h, hn => Tri.run (codeF _ _) (env_ok h (gX5_ok hn)) runX113 renX5
  | 114, _, h, hn => Tri.run (codeF _ _) (env_ok h (gX5_ok hn)) runX114 renX5
  | 115, _, h, hn => Tri.run (codeF _ _) (env_ok h (gX5_ok hn)) runX115 renX5
  | 116, _, h, hn => Tri.run (codeF _ _) (env_ok h (gX5_ok hn)) runX116 renX5
  | 117, _, h, hn => Tri.run (codeF _ _) (env_ok h (gX5_ok hn)) runX117 renX5
  | 118, _, h, hn => Tri.run (codeF _ _) (env_ok h (gX5_ok hn)) runX118 renX5
  | 119, _, h, hn => Tri.run (codeF _ _) (env_ok h (gX5_ok hn)) runX119 renX5
  | 120, _, h, hn => Tri.run (codeF _ _) (env_ok h (gX5_ok hn)) runX120 renX5
  | 121, _, h, hn => Tri.run (codeF _ _) (env_ok h (gX5_ok hn)) runX121 renX5
  | 122, _, h, hn => Tri.run (codeF _ _) (env_ok h (gX5_ok hn)) runX122 renX5
  | 123, _, h, hn => Tri.run (codeF _ _) (env_ok h (gX5_ok hn)) runX123 renX5
  | 124, _, h, hn => Tri.run (codeF _ _) (env_ok h (gX5_ok hn)) runX124 renX5
  | 125, _, h, hn => Tri.run (codeF _ _) (env_ok h (gX5_ok hn)) runX125 renX5
  | k + 126, hk, _, _ => absurd hk (by omega)
theorem renEnd : Ren (rF z L n at' b sl u v) (rF z L n at' b sl u v) ⟨[], [], [], [], []⟩ := ⟨fun _ => rfl, fun _ => rfl, fun _ h => (nomatch h), fun _ h => (nomatch h), fun _ h => (nomatch h), fun _ h => (nomatch h), fun _ h => (nomatch h), rfl⟩
theorem endAt {i : Nat} {s : Lit} {G : List Fact} (h : Inv L n at' sl) (hn : n = (i : Int)) (h1 : getF .x0 .x1 s.frame = some (.c (.sb (.v 3)))) (h2 : s = s) (ft : RunE G true s) (ff : RunE G false s) (hG : ∀ f ∈ G, f.holds (rF z L n at' b sl u v)) : Tri Tryz.prog N kEnd (At w0 N (rF z L n at' b sl u v) s) fun e a w => e = .ret ∧ At w0 N (rF z L n at' b sl u v) sEnd a w := by
  have he := env_ok h hG
  cases b with
  | true => exact (Tri.run (codeF G _) he (s := s.put P01 (.c (.b true))) (by unfold RunE at ft; rw [Lit.hp_put]; exact ft) renEnd).pre fun a w hat => At.bool hat h1
  | false => exact (Tri.run (codeF G _) he (s := s.put P01 (.c (.b false))) (by unfold RunE at ff; rw [Lit.hp_put]; exact ff) renEnd).pre fun a w hat => At.bool hat h1
theorem ends : ∀ k, k < 126 → Inv L n at' sl → n = (iOf k : Int) → Tri Tryz.prog N kEnd (At w0 N (rF z L n at' b sl u v) (SS k)) fun e a w => e = .ret ∧ At w0 N (rF z L n at' b sl u v) sEnd a w
  | 0, _, h, hn => absurd (show n = 0 from hn) (by have := h.n1; omega)
  | 1, _, h, hn => endAt (i := 1) h hn rfl rfl fin0 fin1 (gF1_ok hn)
  | 2, _, h, hn => endAt (i := 1) h hn rfl rfl fin2 fin3 (gF1_ok hn)
  | 3, _, h, hn => endAt (i := 1) h hn rfl rfl fin4 fin5 (gF1_ok hn)
  | 4, _, h, hn => endAt (i := 1) h hn rfl rfl fin6 fin7 (gF1_ok hn)
  | 5, _, h, hn => endAt (i := 2) h hn rfl rfl fin8 fin9 (gF2_ok hn)
  | 6, _, h, hn => endAt (i := 2) h hn rfl rfl fin10 fin11 (gF2_ok hn)
  | 7, _, h, hn => endAt (i := 2) h hn rfl rfl fin12 fin13 (gF2_ok hn)
  | 8, _, h, hn => endAt (i := 2) h hn rfl rfl fin14 fin15 (gF2_ok hn)
  | 9, _, h, hn => endAt (i := 2) h hn rfl rfl fin16 fin17 (gF2_ok hn)
  | 10, _, h, hn => endAt (i := 2) h hn rfl rfl fin18 fin19 (gF2_ok hn)
  | 11, _, h, hn => endAt (i := 2) h hn rfl rfl fin20 fin21 (gF2_ok hn)
  | 12, _, h, hn => endAt (i := 2) h hn rfl rfl fin22 fin23 (gF2_ok hn)
  | 13, _, h, hn => endAt (i := 2) h hn rfl rfl fin24 fin25 (gF2_ok hn)
  | 14, _, h, hn => endAt (i := 2) h hn rfl rfl fin26 fin27 (gF2_ok hn)
  | 15, _, h, hn => endAt (i := 3) h hn rfl rfl fin28 fin29 (gF3_ok hn)
  | 16, _, h, hn => endAt (i := 3) h hn rfl rfl fin30 fin31 (gF3_ok hn)
  | 17, _, h, hn => endAt (i := 3) h hn rfl rfl fin32 fin33 (gF3_ok hn)
  | 18, _, h, hn => endAt (i := 3) h hn rfl rfl fin34 fin35 (gF3_ok hn)
  | 19, _, h, hn => endAt (i := 3) h hn rfl rfl fin36 fin37 (gF3_ok hn)
  | 20, _, h, hn => endAt (i := 3) h hn rfl rfl fin38 fin39 (gF3_ok hn)
  | 21, _, h, hn => endAt (i := 3) h hn rfl rfl fin40 fin41 (gF3_ok hn)
  | 22, _, h, hn => endAt (i := 3) h hn rfl rfl fin42 fin43 (gF3_ok hn)
  | 23, _, h, hn => endAt (i := 3) h hn rfl rfl fin44 fin45 (gF3_ok hn)
  | 24, _, h, hn => endAt (i := 3) h hn rfl rfl fin46 fin47 (gF3_ok hn)
  | 25, _, h, hn => endAt (i := 3) h hn rfl rfl fin48 fin49 (gF3_ok hn)
  | 26, _, h, hn => endAt (i := 3) h hn rfl rfl fin50 fin51 (gF3_ok hn)
  | 27, _, h, hn => endAt (i := 3) h hn rfl rfl fin52 fin53 (gF3_ok hn)
  | 28, _, h, hn => endAt (i := 3) h hn rfl rfl fin54 fin55 (gF3_ok hn)
  | 29, _, h, hn => endAt (i := 3) h hn rfl rfl fin56 fin57 (gF3_ok hn)
  | 30, _, h, hn => endAt (i := 3) h hn rfl rfl fin58 fin59 (gF3_ok hn)
  | 31, _, h, hn => endAt (i := 3) h hn rfl rfl fin60 fin61 (gF3_ok hn)
  | 32, _, h, hn => endAt (i := 3) h hn rfl rfl fin62 fin63 (gF3_ok hn)
  | 33, _, h, hn => endAt (i := 3) h hn rfl rfl fin64 fin65 (gF3_ok hn)
  | 34, _, h, hn => endAt (i := 3) h hn rfl rfl fin66 fin67 (gF3_ok hn)
  | 35, _, h, hn => endAt (i := 4) h hn rfl rfl fin68 fin69 (gF4_ok hn)
  | 36, _, h, hn => endAt (i := 4) h hn rfl rfl fin70 fin71 (gF4_ok hn)
  | 37, _, h, hn => endAt (i := 4) h hn rfl rfl fin72 fin73 (gF4_ok hn)
  | 38, _, h, hn => endAt (i := 4) h hn rfl rfl fin74 fin75 (gF4_ok hn)
  | 39, _, h, hn => endAt (i := 4) h hn rfl rfl fin76 fin77 (gF4_ok hn)
  | 40, _, h, hn => endAt (i := 4) h hn rfl rfl fin78 fin79 (gF4_ok hn)
  | 41, _, h, hn => endAt (i := 4) h hn rfl rfl fin80 fin81 (gF4_ok hn)
  | 42, _, h, hn => endAt (i := 4) h hn rfl rfl fin82 fin83 (gF4_ok hn)
  | 43, _, h, hn => endAt (i := 4) h hn rfl rfl fin84 fin85 (gF4_ok hn)
  | 44, _, h, hn => endAt (i := 4) h hn rfl rfl fin86 fin87 (gF4_ok hn)
  | 45, _, h, hn => endAt (i := 4) h hn rfl rfl fin88 fin89 (gF4_ok hn)
  | 46, _, h, hn => endAt (i := 4) h hn rfl rfl fin90 fin91 (gF4_ok hn)
  | 47, _, h, hn => endAt (i := 4) h hn rfl rfl fin92 fin93 (gF4_ok hn)
  | 48, _, h, hn => endAt (i := 4) h hn rfl rfl fin94 fin95 (gF4_ok hn)
  | 49, _, h, hn => endAt (i := 4) h hn rfl rfl fin96 fin97 (gF4_ok hn)
  | 50, _, h, hn => endAt (i := 4) h hn rfl rfl fin98 fin99 (gF4_ok hn)
  | 51, _, h, hn => endAt (i := 4) h hn rfl rfl fin100 fin101 (gF4_ok hn)
  | 52, _, h, hn => endAt (i := 4) h hn rfl rfl fin102 fin103 (gF4_ok hn)
  | 53, _, h, hn => endAt (i := 4) h hn rfl rfl fin104 fin105 (gF4_ok hn)
  | 54, _, h, hn => endAt (i := 4) h hn rfl rfl fin106 fin107 (gF4_ok hn)
  | 55, _, h, hn => endAt (i := 4) h hn rfl rfl fin108 fin109 (gF4_ok hn)
  | 56, _, h, hn => endAt (i := 4) h hn rfl rfl fin110 fin111 (gF4_ok hn)
  | 57, _, h, hn => endAt (i := 4) h hn rfl rfl fin112 fin113 (gF4_ok hn)
  | 58, _, h, hn => endAt (i := 4) h hn rfl rfl fin114 fin115 (gF4_ok hn)
  | 59, _, h, hn => endAt (i := 4) h hn rfl rfl fin116 fin117 (gF4_ok hn)
  | 60, _, h, hn => endAt (i := 4) h hn rfl rfl fin118 fin119 (gF4_ok hn)
  | 61, _, h, hn => endAt (i := 4) h hn rfl rfl fin120 fin121 (gF4_ok hn)
  | 62, _, h, hn => endAt (i := 4) h hn rfl rfl fin122 fin123 (gF4_ok hn)
  | 63, _, h, hn => endAt (i := 4) h hn rfl rfl fin124 fin125 (gF4_ok hn)
  | 64, _, h, hn => endAt (i := 4) h hn rfl rfl fin126 fin127 (gF4_ok hn)
  | 65, _, h, hn => endAt (i := 4) h hn rfl rfl fin128 fin129 (gF4_ok hn)
  | 66, _, h, hn => endAt (i := 4) h hn rfl rfl fin130 fin131 (gF4_ok hn)
  | 67, _, h, hn => endAt (i := 4) h hn rfl rfl fin132 fin133 (gF4_ok hn)
  | 68, _, h, hn => endAt (i := 4) h hn rfl rfl fin134 fin135 (gF4_ok hn)
  | 69, _, h, hn => endAt (i := 4) h hn rfl rfl fin136 fin137 (gF4_ok hn)
  | 70, _, h, hn => endAt (i := 5) h hn rfl rfl fin138 fin139 (gF5_ok hn)
  | 71, _, h, hn => endAt (i := 5) h hn rfl rfl fin140 fin141 (gF5_ok hn)
  | 72, _, h, hn => endAt (i := 5) h hn rfl rfl fin142 fin143 (gF5_ok hn)
  | 73, _, h, hn => endAt (i := 5) h hn rfl rfl fin144 fin145 (gF5_ok hn)
  | 74, _, h, hn => endAt (i := 5) h hn rfl rfl fin146 fin147 (gF5_ok hn)
  | 75, _, h, hn => endAt (i := 5) h hn rfl rfl fin148 fin149 (gF5_ok hn)
  | 76, _, h, hn => endAt (i := 5) h hn rfl rfl fin150 fin151 (gF5_ok hn)
  | 77, _, h, hn => endAt (i := 5) h hn rfl rfl fin152 fin153 (gF5_ok hn)
  | 78, _, h, hn => endAt (i := 5) h hn rfl rfl fin154 fin155 (gF5_ok hn)
  | 79, _, h, hn => endAt (i := 5) h hn rfl rfl fin156 fin157 (gF5_ok hn)
  | 80, _, h, hn => endAt (i := 5) h hn rfl rfl fin158 fin159 (gF5_ok hn)
  | 81, _, h, hn => endAt (i := 5) h hn rfl rfl fin160 fin161 (gF5_ok hn)
  | 82, _, h, hn => endAt (i := 5) h hn rfl rfl fin162 fin163 (gF5_ok hn)
  | 83, _, h, hn => endAt (i := 5) h hn rfl rfl fin164 fin165 (gF5_ok hn)
  | 84, _, h, hn => endAt (i := 5) h hn rfl rfl fin166 fin167 (gF5_ok hn)
  | 85, _, h, hn => endAt (i := 5) h hn rfl rfl fin168 fin169 (gF5_ok hn)
  | 86, _, h, hn => endAt (i := 5) h hn rfl rfl fin170 fin171 (gF5_ok hn)
  | 87, _, h, hn => endAt (i := 5) h hn rfl rfl fin172 fin173 (gF5_ok hn)
  | 88, _, h, hn => endAt (i := 5) h hn rfl rfl fin174 fin175 (gF5_ok hn)
  | 89, _, h, hn => endAt (i := 5) h hn rfl rfl fin176 fin177 (gF5_ok hn)
  | 90, _, h, hn => endAt (i := 5) h hn rfl rfl fin178 fin179 (gF5_ok hn)
  | 91, _, h, hn => endAt (i := 5) h hn rfl rfl fin180 fin181 (gF5_ok hn)
  | 92, _, h, hn => endAt (i := 5) h hn rfl rfl fin182 fin183 (gF5_ok hn)
  | 93, _, h, hn => endAt (i := 5) h hn rfl rfl fin184 fin185 (gF5_ok hn)
  | 94, _, h, hn => endAt (i := 5) h hn rfl rfl fin186 fin187 (gF5_ok hn)
  | 95, _, h, hn => endAt (i := 5) h hn rfl rfl fin188 fin189 (gF5_ok hn)
  | 96, _, h, hn => endAt (i := 5) h hn rfl rfl fin190 fin191 (gF5_ok hn)
  | 97, _, h, hn => endAt (i := 5) h hn rfl rfl fin192 fin193 (gF5_ok hn)
  | 98, _, h, hn => endAt (i := 5) h hn rfl rfl fin194 fin195 (gF5_ok hn)
  | 99, _, h, hn => endAt (i := 5) h hn rfl rfl fin196 fin197 (gF5_ok hn)
  | 100, _, h, hn => endAt (i := 5) h hn rfl rfl fin198 fin199 (gF5_ok hn)
  | 101, _, h, hn => endAt (i := 5) h hn rfl rfl fin200 fin201 (gF5_ok hn)
  | 102, _, h, hn => endAt (i := 5) h hn rfl rfl fin202 fin203 (gF5_ok hn)
  | 103, _, h, hn => endAt (i := 5) h hn rfl rfl fin204 fin205 (gF5_ok hn)
  | 104, _, h, hn => endAt (i := 5) h hn rfl rfl fin206 fin207 (gF5_ok hn)
  | 105, _, h, hn => endAt (i := 5) h hn rfl rfl fin208 fin209 (gF5_ok hn)
  | 106, _, h, hn => endAt (i := 5) h hn rfl rfl fin210 fin211 (gF5_ok hn)
  | 107, _, h, hn => endAt (i := 5) h hn rfl rfl fin212 fin213 (gF5_ok hn)
  | 108, _, h, hn => endAt (i := 5) h hn rfl rfl fin214 fin215 (gF5_ok hn)
  | 109, _, h, hn => endAt (i := 5) h hn rfl rfl fin216 fin217 (gF5_ok hn)
  | 110, _, h, hn => endAt (i := 5) h hn rfl rfl fin218 fin219 (gF5_ok hn)
  | 111, _, h, hn => endAt (i := 5) h hn rfl rfl fin220 fin221 (gF5_ok hn)
  | 112, _, h, hn => endAt (i := 5) h hn rfl rfl fin222 fin223 (gF5_ok hn)
  | 113, _, h, hn => endAt (i := 5) h hn rfl rfl fin224 fin225 (gF5_ok hn)
  | 114, _, h, hn => endAt (i := 5) h hn rfl rfl fin226 fin227 (gF5_ok hn)
  | 115, _, h, hn => endAt (i := 5) h hn rfl rfl fin228 fin229 (gF5_ok hn)
  | 116, _, h, hn => endAt (i := 5) h hn rfl rfl fin230 fin231 (gF5_ok hn)
  | 117, _, h, hn => endAt (i := 5) h hn rfl rfl fin232 fin233 (gF5_ok hn)
  | 118, _, h, hn => endAt (i := 5) h hn rfl rfl fin234 fin235 (gF5_ok hn)
  | 119, _, h, hn => endAt (i := 5) h hn rfl rfl fin236 fin237 (gF5_ok hn)
  | 120, _, h, hn => endAt (i := 5) h hn rfl rfl fin238 fin239 (gF5_ok hn)
  | 121, _, h, hn => endAt (i := 5) h hn rfl rfl fin240 fin241 (gF5_ok hn)
  | 122, _, h, hn => endAt (i := 5) h hn rfl rfl fin242 fin243 (gF5_ok hn)
  | 123, _, h, hn => endAt (i := 5) h hn rfl rfl fin244 fin245 (gF5_ok hn)
  | 124, _, h, hn => endAt (i := 5) h hn rfl rfl fin246 fin247 (gF5_ok hn)
  | 125, _, h, hn => endAt (i := 5) h hn rfl rfl fin248 fin249 (gF5_ok hn)
  | k + 126, hk, _, _ => absurd hk (by omega)
/-- all rounds -/
theorem roundF (h0 : ∀ x : Nat × Int × (Nat → Int), True) (x : Nat × Int × (Nat → Int)) : Tri Tryz.prog N kBody (fun a w => (x.1 < 126 ∧ (iOf x.1 : Int) ≤ n ∧ Inv L n x.2.1 x.2.2) ∧ At w0 N (rF z L n x.2.1 b x.2.2 u v) (SS x.1) a w) fun e a w => (e = .normal ∧ ∃ y : Nat × Int × (Nat → Int), 5 - iOf y.1 < 5 - iOf x.1 ∧ (y.1 < 126 ∧ (iOf y.1 : Int) ≤ n ∧ Inv L n y.2.1 y.2.2) ∧ At w0 N (rF z L n y.2.1 b y.2.2 u v) (SS y.1) a w) ∨ (e ≠ .normal ∧ e = .exit 0 ∧ ∃ y : Nat × Int × (Nat → Int), (y.1 < 126 ∧ n = (iOf y.1 : Int) ∧ Inv L n y.2.1 y.2.2) ∧ At w0 N (rF z L n y.2.1 b y.2.2 u v) (SS y.1) a w) := by
  obtain ⟨k, at', sl⟩ := x
  refine Tri.imp fun hx => ?_
  obtain ⟨h1, h2, h3⟩ := hx
  dsimp only at h1 h2 h3 ⊢
  have h5 := h3.n5
  by_cases hn : (iOf k : Int) < n
  · obtain ⟨k2, at2, sl2, a1, a2, a3, a4⟩ := rounds (w0 := w0) (N := N) (z := z) (b := b) (u := u) (v := v) k h1 h3 hn
    exact a4.post fun e a w h => .inl ⟨h.1, (k2, at2, sl2), by show 5 - iOf k2 < 5 - iOf k; omega, ⟨a1, by show (iOf k2 : Int) ≤ n; omega, a3⟩, h.2⟩
  · exact (exits k h1 h3 (by omega)).post fun e a w h => .inr ⟨by rw [h.1]; exact fun h => (nomatch h), h.1, (k, at', sl), ⟨h1, by show n = (iOf k : Int); omega, h3⟩, h.2⟩
/-- from behind the start -/
theorem restT (h : Inv L n at' sl) : Tri Tryz.prog N kL (At w0 N (rF z L n at' b sl u v) SI) fun e a w => e = .ret ∧ ∃ ρ' s', saysTrue resF s' = true ∧ At w0 N ρ' s' a w := by
  rw [kL_eq]
  refine Tri.seq (Mid := fun a w => ∃ y : Nat × Int × (Nat → Int), (y.1 < 126 ∧ n = (iOf y.1 : Int) ∧ Inv L n y.2.1 y.2.2) ∧ At w0 N (rF z L n y.2.1 b y.2.2 u v) (SS y.1) a w) ?_ ?_
  · rw [kLs_eq]
    refine Tri.seq (Mid := At w0 N (rF z L n at' b sl u v) SS0) ((Tri.run (codeF [] _) (env_ok h (List.forall_mem_nil _)) runH renX0).post fun e a w h => .inl h) ?_
    rw [kBlk_eq]
    refine Tri.block ?_
    refine ((Tri.loop (Post := fun e a w => e = .exit 0 ∧ ∃ y : Nat × Int × (Nat → Int), (y.1 < 126 ∧ n = (iOf y.1 : Int) ∧ Inv L n y.2.1 y.2.2) ∧ At w0 N (rF z L n y.2.1 b y.2.2 u v) (SS y.1) a w) (fun x => 5 - iOf x.1) (fun (x : Nat × Int × (Nat → Int)) a w => (x.1 < 126 ∧ (iOf x.1 : Int) ≤ n ∧ Inv L n x.2.1 x.2.2) ∧ At w0 N (rF z L n x.2.1 b x.2.2 u v) (SS x.1) a w) fun x => (roundF (fun _ => trivial) x).post fun e a w h => h).pre fun a w hat => ⟨(0, at', sl), ⟨(show 0 < 126 by decide), (show (0 : Int) ≤ n by have := h.n1; omega), h⟩, hat⟩).post fun e a w h => .inl ⟨.inr h.1, .inl ⟨rfl, h.2⟩⟩
  · refine Tri.ex fun y => Tri.imp fun hy => ?_
    obtain ⟨k, at2, sl2⟩ := y
    exact (ends k hy.1 hy.2.2 hy.2.1).post fun e a w h => ⟨h.1, _, _, (by kernel_rfl), h.2⟩
end
theorem new_any3 (a : Option Addr) (len cap most : Nat) (w : World) (h : BytesIn w a len) (hlc : len ≤ cap) (hm : most ≤ 65536) (h0 : 0 < most) (hmax : cap ≤ maxLen) :
    Calls Tryz.prog 5 #[.slice a len cap, .int .i64 most] w (fun e w' => ∃ (c : Nat) (q : CodeRow), e = .returned (.pointer (some ⟨c, 0, none⟩)) ∧ w.heap.size ≤ c ∧ Ext w w' ∧ CodesAt q w' c ∧ q.a = a ∧ q.len ≤ len ∧ q.len ≤ most) := by
  unfold maxLen at hmax
  have H := Lib.hid h
  by_cases hl : most < len
  · obtain ⟨blk, off, rfl, _⟩ := h (by omega)
    clear h
    go_enter Tryz.func5, Tryz.ntmps5
    go_wp2
    go_ret
    exact ⟨w.heap.size, ⟨_, most, cap, []⟩, rfl, Nat.le_refl _, (Ext.refl w).alloc _, codes_new H.out (by omega) hm (NewBox.of w _ _), rfl, Nat.le_of_lt hl, Nat.le_refl _⟩
  · clear h
    go_enter Tryz.func5, Tryz.ntmps5
    go_wp2
    go_ret
    exact ⟨w.heap.size, ⟨_, len, cap, []⟩, rfl, Nat.le_refl _, (Ext.refl w).alloc _, codes_new H.out (Nat.le_refl _) (by omega) (NewBox.of w _ _), rfl, Nat.le_refl _, (show len ≤ most by omega)⟩
/-- the law -/
theorem flushes_walk (x : Option Addr) (len cap : Nat) (b : Bool) {zs : List Int} {w : World} (hz : IsRow .u8 w x len cap zs) (hb : BytesIn w x len) (hl : len ≤ cap) (hm : cap ≤ maxLen) : Calls Tryz.prog 3 #[.slice x len cap, .bool b] w fun e w' => e = .returned (.bool true) ∧ Below w.heap.size w w' := by
  let L0 : List (List DV) := (zs.take len).map fun n => [DV.i n]
  obtain ⟨zf, hzf, hsl⟩ : ∃ zf : Nat → Option Obj, (∀ b y, zf b = some y → w.heap[b]? = some y) ∧ SlD zf shP L0 (.slice x len cap) := frozen_row hz
  have hlen : L0.length = len := by
    rcases hz with ⟨_, rfl, _, _⟩ | ⟨_, _, h1, h2, h3, _⟩
    · simp [L0]
    · simp [L0]; omega
  have hby : ∀ (k j : Nat), j < (L0.take k).length → 0 ≤ byteF (L0.take k) j ∧ byteF (L0.take k) j ≤ 255 := fun k j hj => by
    have hj0 : j < L0.length := by simp at hj ⊢; omega
    have hjz : j < (zs.take len).length := by simpa [L0] using hj0
    have hmem : (zs.take len)[j] ∈ zs := List.mem_of_mem_take (List.getElem_mem hjz)
    have hv : byteF (L0.take k) j = (zs.take len)[j] := by
      have hLj : (L0.take k)[j]? = some [DV.i ((zs.take len)[j])] := by
        rw [List.getElem?_take_of_lt (by simp at hj; omega)]
        show ((zs.take len).map fun n => [DV.i n])[j]? = _
        rw [List.getElem?_map, List.getElem?_eq_getElem hjz]; rfl
      unfold byteF cellD
      rw [show ((j : Int)).toNat = j from rfl, hLj]
      rfl
    rw [hv]
    rcases hz with ⟨_, _, _, rfl⟩ | ⟨_, _, _, _, _, _, hw⟩
    · cases hmem
    · have := bounds_u8 (hw _ hmem)
      omega
  have inv0 : Inv [] 1 0 (fun _ => 0) := ⟨by decide, fun j h1 h2 => absurd h2 (by simp; omega), Int.le_refl _, Int.le_refl _, Int.le_refl _, by decide, fun _ => ⟨Int.le_refl _, by decide⟩⟩
  have invK : ∀ k pos : Nat, k ≤ len → k ≤ 60 → pos ≤ k → Inv (L0.take k) 1 pos (fun _ => 0) := fun k pos hk1 hk2 hk3 => ⟨by simp; omega, fun j h1 h2 => by
    obtain ⟨m, rfl⟩ := Int.eq_ofNat_of_zero_le h1
    exact hby k m (by omega), Int.natCast_nonneg _, by simp [hlen]; omega, Int.le_refl _, by decide, fun _ => ⟨Int.le_refl _, by decide⟩⟩
  refine law_tri (us := [.slice x len cap, .bool b]) (args := [.c (.gv (.v M7)), .c (.sb (.v M3))]) (s0 := s0) (ac := bodyF) (res := resF) (ρ := rF zf [] 1 0 b (fun _ => 0) (.slice x len cap) (.bool false)) Tryz.func3 (by kernel_rfl) ⟨_, rfl, by kernel_rfl⟩ (by kernel_rfl) (.cons ⟨rfl, rfl⟩ (.cons rfl .nil)) w hzf ?_
  have renG : ∀ {z L n at' sl u v}, Ren (rF z L n at' b sl u v) (rF z L n at' b sl u v) nmG := fun {z L n at' sl u v} => ⟨fun _ => rfl, fun _ => rfl, fun _ h => (nomatch h), fun _ h => (nomatch h), fun y h => by simp only [nmG, List.mem_cons, List.not_mem_nil, or_false] at h; subst h; rfl, fun _ h => (nomatch h), fun y h => by simp only [nmG, List.mem_cons, List.not_mem_nil, or_false] at h; rcases h with rfl | rfl <;> rfl, rfl⟩
  refine Tri.pre_run (codeF [] _) (env_ok inv0 (List.forall_mem_nil _)) cut1 runA renG ?_
  rw [kN_eq]
  refine Tri.seq (Mid := fun a w' => ∃ (c k at0 cp : Nat) (T : TypeId), (k ≤ len ∧ k ≤ 60 ∧ at0 ≤ k ∧ w.heap.size ≤ c) ∧ At w Tryz.f3.ntmps (rF (markZ zf c (some (.cells #[.slice x k cp, .int .i64 at0] T (0, 0)))) (L0.take k) 1 at0 b (fun _ => 0) (.slice x len cap) (.pointer (some ⟨c, 0, none⟩))) s2G a w') ?_ ?_
  · rw [kNew_eq]
    refine Tri.regcall callOk0 (env_ok inv0 (List.forall_mem_nil _)) runN1 renG (vs := [.c (.gv (.v M7)), .c Z60]) rfl ?_
    intro φ a w1 us hat hrel hus
    cases hus with
    | cons h1 t1 =>
      cases t1 with
      | cons h2 t2 =>
        cases t2
        obtain ⟨h1, _⟩ := h1
        have h1 : _ = Value.slice x len cap := h1
        have h2 : _ = Value.int .i64 60 := h2
        subst h1
        subst h2
        have hold : ∀ b, b < w.heap.size → w1.heap[b]? = w.heap[b]? := by obtain ⟨φ, _, _, h3, _⟩ := hat; exact h3.old
        have hsz : w.heap.size ≤ w1.heap.size := by obtain ⟨φ, _, _, h3, _⟩ := hat; exact h3.size
        refine (new_any3 x len cap 60 w1 (hb.at2 hold) hl (by decide) (by decide) hm).mono ?_
        rintro e w' ⟨c, ⟨qa, ql, qcap, qm⟩, rfl, hc, hext, ⟨pos, T, hq1, hq2, hq3, hq4⟩, hqa, hql, hq60⟩
        dsimp only at hqa hql hq60 hq1 hq2
        subst hqa
        have hat2 := At.mark hat (by kernel_rfl) hext hc (o := some (.cells #[.slice qa ql qcap, .int .i64 pos] T (0, 0))) (fun y hy => by rw [← hy]; exact hq1)
        have hat3 : At w Tryz.f3.ntmps (rF (markZ zf c (some (.cells #[.slice qa ql qcap, .int .i64 pos] T (0, 0)))) (L0.take ql) 1 pos b (fun _ => 0) (.slice qa len cap) (.pointer (some ⟨c, 0, none⟩))) s1N a w' := At.ren (m := []) (nm := ⟨[], [], [(.v M3, .v M3)], [], [(.v M7, .v M7)]⟩) hat2 (by kernel_rfl) ⟨fun _ => rfl, fun _ => rfl, fun _ h => (nomatch h), fun _ h => (nomatch h), fun y h => by simp only [List.mem_cons, List.not_mem_nil, or_false] at h; subst h; rfl, fun _ h => (nomatch h), fun y h => by simp only [List.mem_cons, List.not_mem_nil, or_false] at h; subst h; rfl, rfl⟩
        exact ⟨_, rfl, _, .c (.gv (.v M8)), env_ok (invK ql pos hql hq60 hq2) (List.forall_mem_nil _), hat3, fun φ => ⟨rfl, rfl⟩, s2G, [], nmG, _, runN2, renG, fun a2 w2 h => .inl ⟨rfl, c, ql, pos, qcap, T, ⟨hql, hq60, hq2, by omega⟩, h⟩⟩
  · refine Tri.ex fun c => Tri.ex fun k => Tri.ex fun at0 => Tri.ex fun cp => Tri.ex fun T => Tri.imp fun ⟨hk1, hk2, hk3, hc⟩ => ?_
    have inv1 := invK k at0 hk1 hk2 hk3
    have hzc : zf c = none := by
      cases hzc : zf c with
      | none => rfl
      | some y =>
        have := (Array.getElem?_eq_some_iff.1 (hzf c y hzc)).1
        omega
    refine Tri.pre (Pre := At w Tryz.f3.ntmps (rF zf (L0.take k) 1 at0 b (fun _ => 0) (.slice x len cap) (.pointer (some ⟨c, 0, none⟩))) s2O) ?_ fun a w' h => ?_
    · by_cases hlt : (at0 : Int) < ((L0.take k).length : Int)
      · have h5 := rem5 inv1 hlt
        have hw : IntKind.i64.wrap (1 + (byteF (L0.take k) at0).tmod 5) = 1 + (byteF (L0.take k) at0).tmod 5 := IntWalk.i64_in _ (by omega)
        refine Tri.pre_run (codeF gID _) (env_ok inv1 (gID_ok inv1 hlt)) cut2 runID (ρ' := rF zf (L0.take k) (IntKind.i64.wrap (1 + (byteF (L0.take k) at0).tmod 5)) (IntKind.i64.wrap ((at0 : Int) + 1)) b (fun _ => 0) (.slice x len cap) (.pointer (some ⟨c, 0, none⟩))) ⟨fun _ => rfl, fun _ => rfl, fun y h => ?_, fun _ h => (nomatch h), fun y h => ?_, fun y h => ?_, fun _ h => (nomatch h), rfl⟩ (restT { inv1.more hlt with n1 := by rw [hw]; omega, n5 := by rw [hw]; omega })
        all_goals simp only [nID, List.mem_cons, List.not_mem_nil, or_false] at h
        · rcases h with rfl | rfl <;> rfl
        · subst h; rfl
        · subst h; rfl
      · refine Tri.pre_run (codeF gIE _) (env_ok inv1 (gIE_ok (by omega))) cut2 runIE (ρ' := rF zf (L0.take k) 1 at0 b (fun _ => 0) (.slice x len cap) (.pointer (some ⟨c, 0, none⟩))) ⟨fun _ => rfl, fun _ => rfl, fun y h => ?_, fun _ h => (nomatch h), fun y h => ?_, fun y h => ?_, fun _ h => (nomatch h), rfl⟩ (restT inv1)
        all_goals simp only [nIE, List.mem_cons, List.not_mem_nil, or_false] at h
        · rcases h with rfl | rfl <;> rfl
        · subst h; rfl
        · subst h; rfl
    · obtain ⟨h1, h2⟩ := At.unmark (ρ := rF zf (L0.take k) 1 at0 b (fun _ => 0) (.slice x len cap) (.pointer (some ⟨c, 0, none⟩))) (z := zf) h (by kernel_rfl) hzc
      exact At.own (t := .v 8) (i := .x0) (j := .x5) h1 rfl (by kernel_rfl) (by kernel_rfl) rfl hc (h2 _ rfl) hzc fun φ => .cons (SlD.take hsl (by rw [hlen]; exact hk1)) (.cons rfl .nil)
end Go.Proofs.YtpnlcoolbimmjaaGreat
