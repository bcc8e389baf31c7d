/-
  AnalysisDirty answers true whatever the input.
-/
import Derived.Test.YtpecbnkhppglkaaGreatDB
import Derived.Test.YtpecbnkhppglkaaGreatFrRow
import Derived.KernelRfl
import Derived.WalkKit
namespace Go.Proofs.YtpecbnkhppglkaaGreat
open Go.RowKit
set_option maxRecDepth 100000
set_option linter.unusedVariables false
def rA (z : Nat → Option Obj) (L : List (List DV)) (j rec last : Int) : Vn := vnA (fun n => match n with | 9 => { d := L } | 1 => { i := j } | 2 => { i := rec } | 3 => { i := last } | _ => {}) (fun _ _ _ => {}) (fun _ => .bool false) z
theorem codeF (F : List Fact) (n : Nat) : CodeOk Tryz.prog (envA F) tbl n := code_ok tbl_ok (draw_ok mixed) n
/-- byte j -/
def byteA (L : List (List DV)) (j : Int) : Int := dvI (cellD L j 0)
def refA (L : List (List DV)) (j : Int) : Int := (byteA L j).tmod (IntKind.i64.wrap (j + 1))
section
variable {z : Nat → Option Obj} {L : List (List DV)} {j : Nat} {rec last : Int}
theorem std : StdA (rA z L j rec last) := vnA_std _ _ _ _
theorem wrap1 (hj : j < 60) : IntKind.i64.wrap ((j : Int) + 1) = (j : Int) + 1 := IntWalk.i64_in _ (by omega)
theorem refA_rng (hj : j < 60) (hb : 0 ≤ byteA L j ∧ byteA L j ≤ 255) : 0 ≤ refA L j ∧ refA L j ≤ j := by
  unfold refA
  rw [wrap1 hj]
  obtain ⟨b, hb2⟩ := Int.eq_ofNat_of_zero_le hb.1
  rw [hb2]
  have h : Int.tmod (b : Int) ((j : Int) + 1) = ((b % (j + 1) : Nat) : Int) := rfl
  rw [h]
  have := Nat.mod_lt b (by omega : 0 < j + 1)
  omega
theorem wrapR (hj : j < 60) (hb : 0 ≤ byteA L j ∧ byteA L j ≤ 255) : IntKind.i64.wrap (refA L j + 1) = refA L j + 1 := by
  have := refA_rng hj hb
  exact IntWalk.i64_in _ (by omega)
theorem base_ok (hL : L.length ≤ 60) (hjl : j < L.length) (hb : 0 ≤ byteA L j ∧ byteA L j ≤ 255) : ∀ f ∈ FB, f.holds (rA z L j rec last) := by
  have hj : j < 60 := by omega
  have hr := refA_rng hj hb
  unfold FB
  refine List.forall_mem_cons.2 ⟨⟨Int.natCast_nonneg _, ?_⟩, ?_⟩
  · show (L.length : Int) ≤ 60; omega
  refine List.forall_mem_cons.2 ⟨⟨Int.natCast_nonneg _, ?_⟩, ?_⟩
  · show (j : Int) ≤ 59; omega
  refine List.forall_mem_cons.2 ⟨?_, ?_⟩
  · show icmp .lss (j : Int) (L.length : Int) = some true; simp [icmp]; omega
  refine List.forall_mem_cons.2 ⟨⟨?_, ?_⟩, ?_⟩
  · show (1 : Int) ≤ IntKind.i64.wrap ((j : Int) + 1); rw [wrap1 hj]; omega
  · show IntKind.i64.wrap ((j : Int) + 1) ≤ 60; rw [wrap1 hj]; omega
  refine List.forall_mem_cons.2 ⟨⟨hb.1, hb.2⟩, ?_⟩
  refine List.forall_mem_cons.2 ⟨⟨hr.1, ?_⟩, ?_⟩
  · show refA L j ≤ 59; omega
  refine List.forall_mem_cons.2 ⟨⟨?_, ?_⟩, ?_⟩
  · show (1 : Int) ≤ IntKind.i64.wrap (refA L j + 1); rw [wrapR hj hb]; omega
  · show IntKind.i64.wrap (refA L j + 1) ≤ 60; rw [wrapR hj hb]; omega
  have eqt : ∀ (ρ : Vn) (t : Nm), (Fact.cmp .eql t t true).holds ρ := fun ρ t => by show icmp .eql _ _ = some true; simp [icmp]
  exact List.forall_mem_cons.2 ⟨eqt _ _, List.forall_mem_cons.2 ⟨eqt _ _, List.forall_mem_cons.2 ⟨eqt _ _, List.forall_mem_cons.2 ⟨eqt _ _, List.forall_mem_nil _⟩⟩⟩⟩
theorem app_ok {ρ : Vn} {F G : List Fact} (h : ∀ f ∈ F, f.holds ρ) (k : ∀ f ∈ G, f.holds ρ) : ∀ f ∈ F ++ G, f.holds ρ := fun f hf => (List.mem_append.1 hf).elim (h f) (k f)
end
/-- what is known at the loop's head, by the kind of its state -/
def inv (k : Nat) (j : Nat) (rec last : Int) : Prop := (k = 1 → 1 ≤ rec ∧ rec ≤ j) ∧ 0 ≤ last ∧ last ≤ j
def SS (k : Nat) : Lit := match k with
  | 0 => SS0
  | 1 => SS1
  | 2 => SS2
  | _ => SS0
section
variable {w0 : World} {N : Nat} {z : Nat → Option Obj} {L : List (List DV)} {j : Nat} {rec last : Int}
theorem step0 (hL : L.length ≤ 60) (hjl : j < L.length) (hb : 0 ≤ byteA L j ∧ byteA L j ≤ 255) (hi : inv 0 j rec last) (c0 : Int.tmod (byteA L j) 3 ≠ 0) : inv 1 (j + 1) (IntKind.i64.wrap ((j : Int) + 1)) (IntKind.i64.wrap ((j : Int) + 1)) ∧ Tri Tryz.prog N dBody (At w0 N (rA z L j rec last) SS0) fun e a w => e = .normal ∧ At w0 N (rA z L ((j + 1 : Nat) : Int) (IntKind.i64.wrap ((j : Int) + 1)) (IntKind.i64.wrap ((j : Int) + 1))) SS1 a w := by
  have hj : j < 60 := by omega
  have hw := wrap1 hj
  have hr := refA_rng hj hb
  have hwr := wrapR hj hb
  refine ⟨?_, ?_⟩
  · unfold inv at hi ⊢
    try simp only [hw, hwr]
    refine ⟨fun hk => ?_, ?_, ?_⟩
    · first | (cases hk; done) | (have := hi.1; omega)
    · have := hi.2; omega
    · have := hi.2; omega
  have hG : ∀ f ∈ G0, f.holds (rA z L j rec last) := by
    unfold G0
    exact List.forall_mem_cons.2 ⟨(by show icmp .eql (Int.tmod (byteA L j) 3) (0) = some false; simp only [icmp, Option.some.injEq, decide_eq_true_eq, decide_eq_false_iff_not]; omega), List.forall_mem_nil _⟩
  have hK : ∀ f ∈ FK0, f.holds (rA z L j rec last) := by
    unfold FK0
    exact List.forall_mem_cons.2 ⟨⟨hi.2.1, by show last ≤ 59; have := hi.2.2; omega⟩, List.forall_mem_nil _⟩
  refine Tri.run (codeF _ _) (envA_ok std (app_ok hG (app_ok hK (base_ok hL hjl hb)))) (ρ' := rA z L ((j + 1 : Nat) : Int) (IntKind.i64.wrap ((j : Int) + 1)) (IntKind.i64.wrap ((j : Int) + 1))) run0 ⟨fun _ => rfl, fun _ => rfl, fun x h => ?_, fun _ h => (nomatch h), fun _ h => (nomatch h), fun x h => ?_, fun _ h => (nomatch h), rfl⟩
  · simp only [nmr0, List.mem_cons, List.not_mem_nil, or_false] at h
    rcases h with rfl | rfl | rfl | rfl
    all_goals first | rfl | (show (((j + 1 : Nat) : Int)) = IntKind.i64.wrap ((j : Int) + 1); rw [hw]; omega)
  · simp only [nmr0, List.mem_cons, List.not_mem_nil, or_false] at h
    subst h
    rfl
theorem step1 (hL : L.length ≤ 60) (hjl : j < L.length) (hb : 0 ≤ byteA L j ∧ byteA L j ≤ 255) (hi : inv 0 j rec last) (c0 : refA L j < last) (c1 : Int.tmod (byteA L j) 3 = 0) : inv 0 (j + 1) (rec) (last) ∧ Tri Tryz.prog N dBody (At w0 N (rA z L j rec last) SS0) fun e a w => e = .normal ∧ At w0 N (rA z L ((j + 1 : Nat) : Int) (rec) (last)) SS0 a w := by
  have hj : j < 60 := by omega
  have hw := wrap1 hj
  have hr := refA_rng hj hb
  have hwr := wrapR hj hb
  refine ⟨?_, ?_⟩
  · unfold inv at hi ⊢
    try simp only [hw, hwr]
    refine ⟨fun hk => ?_, ?_, ?_⟩
    · first | (cases hk; done) | (have := hi.1; omega)
    · have := hi.2; omega
    · have := hi.2; omega
  have hG : ∀ f ∈ G1, f.holds (rA z L j rec last) := by
    unfold G1
    exact List.forall_mem_cons.2 ⟨(by show icmp .geq (refA L j) (last) = some false; simp only [icmp, Option.some.injEq, decide_eq_true_eq, decide_eq_false_iff_not]; omega), List.forall_mem_cons.2 ⟨(by show icmp .eql (Int.tmod (byteA L j) 3) (0) = some true; simp only [icmp, Option.some.injEq, decide_eq_true_eq, decide_eq_false_iff_not]; omega), List.forall_mem_nil _⟩⟩
  have hK : ∀ f ∈ FK0, f.holds (rA z L j rec last) := by
    unfold FK0
    exact List.forall_mem_cons.2 ⟨⟨hi.2.1, by show last ≤ 59; have := hi.2.2; omega⟩, List.forall_mem_nil _⟩
  refine Tri.run (codeF _ _) (envA_ok std (app_ok hG (app_ok hK (base_ok hL hjl hb)))) (ρ' := rA z L ((j + 1 : Nat) : Int) (rec) (last)) run1 ⟨fun _ => rfl, fun _ => rfl, fun x h => ?_, fun _ h => (nomatch h), fun _ h => (nomatch h), fun x h => ?_, fun _ h => (nomatch h), rfl⟩
  · simp only [nmr1, List.mem_cons, List.not_mem_nil, or_false] at h
    rcases h with rfl | rfl | rfl
    all_goals first | rfl | (show (((j + 1 : Nat) : Int)) = IntKind.i64.wrap ((j : Int) + 1); rw [hw]; omega)
  · simp only [nmr1, List.mem_cons, List.not_mem_nil, or_false] at h
    subst h
    rfl
theorem step2 (hL : L.length ≤ 60) (hjl : j < L.length) (hb : 0 ≤ byteA L j ∧ byteA L j ≤ 255) (hi : inv 0 j rec last) (c0 : last ≤ refA L j) (c1 : Int.tmod (byteA L j) 3 = 0) : inv 0 (j + 1) (rec) (last) ∧ Tri Tryz.prog N dBody (At w0 N (rA z L j rec last) SS0) fun e a w => e = .normal ∧ At w0 N (rA z L ((j + 1 : Nat) : Int) (rec) (last)) SS0 a w := by
  have hj : j < 60 := by omega
  have hw := wrap1 hj
  have hr := refA_rng hj hb
  have hwr := wrapR hj hb
  refine ⟨?_, ?_⟩
  · unfold inv at hi ⊢
    try simp only [hw, hwr]
    refine ⟨fun hk => ?_, ?_, ?_⟩
    · first | (cases hk; done) | (have := hi.1; omega)
    · have := hi.2; omega
    · have := hi.2; omega
  have hG : ∀ f ∈ G2, f.holds (rA z L j rec last) := by
    unfold G2
    exact List.forall_mem_cons.2 ⟨(by show icmp .geq (refA L j) (last) = some true; simp only [icmp, Option.some.injEq, decide_eq_true_eq, decide_eq_false_iff_not]; omega), List.forall_mem_cons.2 ⟨(by show icmp .eql (Int.tmod (byteA L j) 3) (0) = some true; simp only [icmp, Option.some.injEq, decide_eq_true_eq, decide_eq_false_iff_not]; omega), List.forall_mem_nil _⟩⟩
  have hK : ∀ f ∈ FK0, f.holds (rA z L j rec last) := by
    unfold FK0
    exact List.forall_mem_cons.2 ⟨⟨hi.2.1, by show last ≤ 59; have := hi.2.2; omega⟩, List.forall_mem_nil _⟩
  refine Tri.run (codeF _ _) (envA_ok std (app_ok hG (app_ok hK (base_ok hL hjl hb)))) (ρ' := rA z L ((j + 1 : Nat) : Int) (rec) (last)) run2 ⟨fun _ => rfl, fun _ => rfl, fun x h => ?_, fun _ h => (nomatch h), fun _ h => (nomatch h), fun x h => ?_, fun _ h => (nomatch h), rfl⟩
  · simp only [nmr2, List.mem_cons, List.not_mem_nil, or_false] at h
    rcases h with rfl | rfl | rfl
    all_goals first | rfl | (show (((j + 1 : Nat) : Int)) = IntKind.i64.wrap ((j : Int) + 1); rw [hw]; omega)
  · simp only [nmr2, List.mem_cons, List.not_mem_nil, or_false] at h
    subst h
    rfl
theorem step3 (hL : L.length ≤ 60) (hjl : j < L.length) (hb : 0 ≤ byteA L j ∧ byteA L j ≤ 255) (hi : inv 1 j rec last) (c0 : Int.tmod (byteA L j) 3 ≠ 0) : inv 1 (j + 1) (rec) (IntKind.i64.wrap ((j : Int) + 1)) ∧ Tri Tryz.prog N dBody (At w0 N (rA z L j rec last) SS1) fun e a w => e = .normal ∧ At w0 N (rA z L ((j + 1 : Nat) : Int) (rec) (IntKind.i64.wrap ((j : Int) + 1))) SS1 a w := by
  have hj : j < 60 := by omega
  have hw := wrap1 hj
  have hr := refA_rng hj hb
  have hwr := wrapR hj hb
  refine ⟨?_, ?_⟩
  · unfold inv at hi ⊢
    try simp only [hw, hwr]
    refine ⟨fun hk => ?_, ?_, ?_⟩
    · first | (cases hk; done) | (have := hi.1; omega)
    · have := hi.2; omega
    · have := hi.2; omega
  have hG : ∀ f ∈ G3, f.holds (rA z L j rec last) := by
    unfold G3
    exact List.forall_mem_cons.2 ⟨(by show icmp .eql (Int.tmod (byteA L j) 3) (0) = some false; simp only [icmp, Option.some.injEq, decide_eq_true_eq, decide_eq_false_iff_not]; omega), List.forall_mem_nil _⟩
  have hK : ∀ f ∈ FK1, f.holds (rA z L j rec last) := by
    unfold FK1
    exact List.forall_mem_cons.2 ⟨⟨(hi.1 rfl).1, by show rec ≤ 59; have := (hi.1 rfl).2; omega⟩, List.forall_mem_cons.2 ⟨⟨hi.2.1, by show last ≤ 59; have := hi.2.2; omega⟩, List.forall_mem_nil _⟩⟩
  refine Tri.run (codeF _ _) (envA_ok std (app_ok hG (app_ok hK (base_ok hL hjl hb)))) (ρ' := rA z L ((j + 1 : Nat) : Int) (rec) (IntKind.i64.wrap ((j : Int) + 1))) run3 ⟨fun _ => rfl, fun _ => rfl, fun x h => ?_, fun _ h => (nomatch h), fun _ h => (nomatch h), fun x h => ?_, fun _ h => (nomatch h), rfl⟩
  · simp only [nmr3, List.mem_cons, List.not_mem_nil, or_false] at h
    rcases h with rfl | rfl | rfl | rfl
    all_goals first | rfl | (show (((j + 1 : Nat) : Int)) = IntKind.i64.wrap ((j : Int) + 1); rw [hw]; omega)
  · simp only [nmr3, List.mem_cons, List.not_mem_nil, or_false] at h
    subst h
    rfl
theorem step4 (hL : L.length ≤ 60) (hjl : j < L.length) (hb : 0 ≤ byteA L j ∧ byteA L j ≤ 255) (hi : inv 1 j rec last) (c0 : refA L j < rec) (c1 : refA L j < last) (c2 : Int.tmod (byteA L j) 3 = 0) : inv 1 (j + 1) (rec) (last) ∧ Tri Tryz.prog N dBody (At w0 N (rA z L j rec last) SS1) fun e a w => e = .normal ∧ At w0 N (rA z L ((j + 1 : Nat) : Int) (rec) (last)) SS1 a w := by
  have hj : j < 60 := by omega
  have hw := wrap1 hj
  have hr := refA_rng hj hb
  have hwr := wrapR hj hb
  refine ⟨?_, ?_⟩
  · unfold inv at hi ⊢
    try simp only [hw, hwr]
    refine ⟨fun hk => ?_, ?_, ?_⟩
    · first | (cases hk; done) | (have := hi.1; omega)
    · have := hi.2; omega
    · have := hi.2; omega
  have hG : ∀ f ∈ G4, f.holds (rA z L j rec last) := by
    unfold G4
    exact List.forall_mem_cons.2 ⟨(by show icmp .geq (refA L j) (rec) = some false; simp only [icmp, Option.some.injEq, decide_eq_true_eq, decide_eq_false_iff_not]; omega), List.forall_mem_cons.2 ⟨(by show icmp .geq (refA L j) (last) = some false; simp only [icmp, Option.some.injEq, decide_eq_true_eq, decide_eq_false_iff_not]; omega), List.forall_mem_cons.2 ⟨(by show icmp .eql (Int.tmod (byteA L j) 3) (0) = some true; simp only [icmp, Option.some.injEq, decide_eq_true_eq, decide_eq_false_iff_not]; omega), List.forall_mem_nil _⟩⟩⟩
  have hK : ∀ f ∈ FK1, f.holds (rA z L j rec last) := by
    unfold FK1
    exact List.forall_mem_cons.2 ⟨⟨(hi.1 rfl).1, by show rec ≤ 59; have := (hi.1 rfl).2; omega⟩, List.forall_mem_cons.2 ⟨⟨hi.2.1, by show last ≤ 59; have := hi.2.2; omega⟩, List.forall_mem_nil _⟩⟩
  refine Tri.run (codeF _ _) (envA_ok std (app_ok hG (app_ok hK (base_ok hL hjl hb)))) (ρ' := rA z L ((j + 1 : Nat) : Int) (rec) (last)) run4 ⟨fun _ => rfl, fun _ => rfl, fun x h => ?_, fun _ h => (nomatch h), fun _ h => (nomatch h), fun x h => ?_, fun _ h => (nomatch h), rfl⟩
  · simp only [nmr4, List.mem_cons, List.not_mem_nil, or_false] at h
    rcases h with rfl | rfl | rfl | rfl
    all_goals first | rfl | (show (((j + 1 : Nat) : Int)) = IntKind.i64.wrap ((j : Int) + 1); rw [hw]; omega)
  · simp only [nmr4, List.mem_cons, List.not_mem_nil, or_false] at h
    subst h
    rfl
theorem step5 (hL : L.length ≤ 60) (hjl : j < L.length) (hb : 0 ≤ byteA L j ∧ byteA L j ≤ 255) (hi : inv 1 j rec last) (c0 : rec ≤ refA L j) (c1 : refA L j < last) (c2 : Int.tmod (byteA L j) 3 = 0) : inv 1 (j + 1) (IntKind.i64.wrap (refA L j + 1)) (last) ∧ Tri Tryz.prog N dBody (At w0 N (rA z L j rec last) SS1) fun e a w => e = .normal ∧ At w0 N (rA z L ((j + 1 : Nat) : Int) (IntKind.i64.wrap (refA L j + 1)) (last)) SS1 a w := by
  have hj : j < 60 := by omega
  have hw := wrap1 hj
  have hr := refA_rng hj hb
  have hwr := wrapR hj hb
  refine ⟨?_, ?_⟩
  · unfold inv at hi ⊢
    try simp only [hw, hwr]
    refine ⟨fun hk => ?_, ?_, ?_⟩
    · first | (cases hk; done) | (have := hi.1; omega)
    · have := hi.2; omega
    · have := hi.2; omega
  have hG : ∀ f ∈ G5, f.holds (rA z L j rec last) := by
    unfold G5
    exact List.forall_mem_cons.2 ⟨(by show icmp .geq (refA L j) (rec) = some true; simp only [icmp, Option.some.injEq, decide_eq_true_eq, decide_eq_false_iff_not]; omega), List.forall_mem_cons.2 ⟨(by show icmp .geq (refA L j) (last) = some false; simp only [icmp, Option.some.injEq, decide_eq_true_eq, decide_eq_false_iff_not]; omega), List.forall_mem_cons.2 ⟨(by show icmp .eql (Int.tmod (byteA L j) 3) (0) = some true; simp only [icmp, Option.some.injEq, decide_eq_true_eq, decide_eq_false_iff_not]; omega), List.forall_mem_nil _⟩⟩⟩
  have hK : ∀ f ∈ FK1, f.holds (rA z L j rec last) := by
    unfold FK1
    exact List.forall_mem_cons.2 ⟨⟨(hi.1 rfl).1, by show rec ≤ 59; have := (hi.1 rfl).2; omega⟩, List.forall_mem_cons.2 ⟨⟨hi.2.1, by show last ≤ 59; have := hi.2.2; omega⟩, List.forall_mem_nil _⟩⟩
  refine Tri.run (codeF _ _) (envA_ok std (app_ok hG (app_ok hK (base_ok hL hjl hb)))) (ρ' := rA z L ((j + 1 : Nat) : Int) (IntKind.i64.wrap (refA L j + 1)) (last)) run5 ⟨fun _ => rfl, fun _ => rfl, fun x h => ?_, fun _ h => (nomatch h), fun _ h => (nomatch h), fun x h => ?_, fun _ h => (nomatch h), rfl⟩
  · simp only [nmr5, List.mem_cons, List.not_mem_nil, or_false] at h
    rcases h with rfl | rfl | rfl | rfl
    all_goals first | rfl | (show (((j + 1 : Nat) : Int)) = IntKind.i64.wrap ((j : Int) + 1); rw [hw]; omega)
  · simp only [nmr5, List.mem_cons, List.not_mem_nil, or_false] at h
    subst h
    rfl
theorem step6 (hL : L.length ≤ 60) (hjl : j < L.length) (hb : 0 ≤ byteA L j ∧ byteA L j ≤ 255) (hi : inv 1 j rec last) (c0 : last ≤ refA L j) (c1 : Int.tmod (byteA L j) 3 = 0) : inv 2 (j + 1) (rec) (last) ∧ Tri Tryz.prog N dBody (At w0 N (rA z L j rec last) SS1) fun e a w => e = .normal ∧ At w0 N (rA z L ((j + 1 : Nat) : Int) (rec) (last)) SS2 a w := by
  have hj : j < 60 := by omega
  have hw := wrap1 hj
  have hr := refA_rng hj hb
  have hwr := wrapR hj hb
  refine ⟨?_, ?_⟩
  · unfold inv at hi ⊢
    try simp only [hw, hwr]
    refine ⟨fun hk => ?_, ?_, ?_⟩
    · first | (cases hk; done) | (have := hi.1; omega)
    · have := hi.2; omega
    · have := hi.2; omega
  have hG : ∀ f ∈ G6, f.holds (rA z L j rec last) := by
    unfold G6
    exact List.forall_mem_cons.2 ⟨(by show icmp .geq (refA L j) (last) = some true; simp only [icmp, Option.some.injEq, decide_eq_true_eq, decide_eq_false_iff_not]; omega), List.forall_mem_cons.2 ⟨(by show icmp .eql (Int.tmod (byteA L j) 3) (0) = some true; simp only [icmp, Option.some.injEq, decide_eq_true_eq, decide_eq_false_iff_not]; omega), List.forall_mem_nil _⟩⟩
  have hK : ∀ f ∈ FK1, f.holds (rA z L j rec last) := by
    unfold FK1
    exact List.forall_mem_cons.2 ⟨⟨(hi.1 rfl).1, by show rec ≤ 59; have := (hi.1 rfl).2; omega⟩, List.forall_mem_cons.2 ⟨⟨hi.2.1, by show last ≤ 59; have := hi.2.2; omega⟩, List.forall_mem_nil _⟩⟩
  refine Tri.run (codeF _ _) (envA_ok std (app_ok hG (app_ok hK (base_ok hL hjl hb)))) (ρ' := rA z L ((j + 1 : Nat) : Int) (rec) (last)) run6 ⟨fun _ => rfl, fun _ => rfl, fun x h => ?_, fun _ h => (nomatch h), fun _ h => (nomatch h), fun x h => ?_, fun _ h => (nomatch h), rfl⟩
  · simp only [nmr6, List.mem_cons, List.not_mem_nil, or_false] at h
    rcases h with rfl | rfl | rfl
    all_goals first | rfl | (show (((j + 1 : Nat) : Int)) = IntKind.i64.wrap ((j : Int) + 1); rw [hw]; omega)
  · simp only [nmr6, List.mem_cons, List.not_mem_nil, or_false] at h
    subst h
    rfl
theorem step7 (hL : L.length ≤ 60) (hjl : j < L.length) (hb : 0 ≤ byteA L j ∧ byteA L j ≤ 255) (hi : inv 2 j rec last) (c0 : Int.tmod (byteA L j) 3 ≠ 0) : inv 1 (j + 1) (IntKind.i64.wrap ((j : Int) + 1)) (IntKind.i64.wrap ((j : Int) + 1)) ∧ Tri Tryz.prog N dBody (At w0 N (rA z L j rec last) SS2) fun e a w => e = .normal ∧ At w0 N (rA z L ((j + 1 : Nat) : Int) (IntKind.i64.wrap ((j : Int) + 1)) (IntKind.i64.wrap ((j : Int) + 1))) SS1 a w := by
  have hj : j < 60 := by omega
  have hw := wrap1 hj
  have hr := refA_rng hj hb
  have hwr := wrapR hj hb
  refine ⟨?_, ?_⟩
  · unfold inv at hi ⊢
    try simp only [hw, hwr]
    refine ⟨fun hk => ?_, ?_, ?_⟩
    · first | (cases hk; done) | (have := hi.1; omega)
    · have := hi.2; omega
    · have := hi.2; omega
  have hG : ∀ f ∈ G7, f.holds (rA z L j rec last) := by
    unfold G7
    exact List.forall_mem_cons.2 ⟨(by show icmp .eql (Int.tmod (byteA L j) 3) (0) = some false; simp only [icmp, Option.some.injEq, decide_eq_true_eq, decide_eq_false_iff_not]; omega), List.forall_mem_nil _⟩
  have hK : ∀ f ∈ FK2, f.holds (rA z L j rec last) := by
    unfold FK2
    exact List.forall_mem_cons.2 ⟨⟨hi.2.1, by show last ≤ 59; have := hi.2.2; omega⟩, List.forall_mem_nil _⟩
  refine Tri.run (codeF _ _) (envA_ok std (app_ok hG (app_ok hK (base_ok hL hjl hb)))) (ρ' := rA z L ((j + 1 : Nat) : Int) (IntKind.i64.wrap ((j : Int) + 1)) (IntKind.i64.wrap ((j : Int) + 1))) run7 ⟨fun _ => rfl, fun _ => rfl, fun x h => ?_, fun _ h => (nomatch h), fun _ h => (nomatch h), fun x h => ?_, fun _ h => (nomatch h), rfl⟩
  · simp only [nmr7, List.mem_cons, List.not_mem_nil, or_false] at h
    rcases h with rfl | rfl | rfl | rfl
    all_goals first | rfl | (show (((j + 1 : Nat) : Int)) = IntKind.i64.wrap ((j : Int) + 1); rw [hw]; omega)
  · simp only [nmr7, List.mem_cons, List.not_mem_nil, or_false] at h
    subst h
    rfl
theorem step8 (hL : L.length ≤ 60) (hjl : j < L.length) (hb : 0 ≤ byteA L j ∧ byteA L j ≤ 255) (hi : inv 2 j rec last) (c0 : refA L j < last) (c1 : Int.tmod (byteA L j) 3 = 0) : inv 2 (j + 1) (rec) (last) ∧ Tri Tryz.prog N dBody (At w0 N (rA z L j rec last) SS2) fun e a w => e = .normal ∧ At w0 N (rA z L ((j + 1 : Nat) : Int) (rec) (last)) SS2 a w := by
  have hj : j < 60 := by omega
  have hw := wrap1 hj
  have hr := refA_rng hj hb
  have hwr := wrapR hj hb
  refine ⟨?_, ?_⟩
  · unfold inv at hi ⊢
    try simp only [hw, hwr]
    refine ⟨fun hk => ?_, ?_, ?_⟩
    · first | (cases hk; done) | (have := hi.1; omega)
    · have := hi.2; omega
    · have := hi.2; omega
  have hG : ∀ f ∈ G8, f.holds (rA z L j rec last) := by
    unfold G8
    exact List.forall_mem_cons.2 ⟨(by show icmp .geq (refA L j) (last) = some false; simp only [icmp, Option.some.injEq, decide_eq_true_eq, decide_eq_false_iff_not]; omega), List.forall_mem_cons.2 ⟨(by show icmp .eql (Int.tmod (byteA L j) 3) (0) = some true; simp only [icmp, Option.some.injEq, decide_eq_true_eq, decide_eq_false_iff_not]; omega), List.forall_mem_nil _⟩⟩
  have hK : ∀ f ∈ FK2, f.holds (rA z L j rec last) := by
    unfold FK2
    exact List.forall_mem_cons.2 ⟨⟨hi.2.1, by show last ≤ 59; have := hi.2.2; omega⟩, List.forall_mem_nil _⟩
  refine Tri.run (codeF _ _) (envA_ok std (app_ok hG (app_ok hK (base_ok hL hjl hb)))) (ρ' := rA z L ((j + 1 : Nat) : Int) (rec) (last)) run8 ⟨fun _ => rfl, fun _ => rfl, fun x h => ?_, fun _ h => (nomatch h), fun _ h => (nomatch h), fun x h => ?_, fun _ h => (nomatch h), rfl⟩
  · simp only [nmr8, List.mem_cons, List.not_mem_nil, or_false] at h
    rcases h with rfl | rfl | rfl
    all_goals first | rfl | (show (((j + 1 : Nat) : Int)) = IntKind.i64.wrap ((j : Int) + 1); rw [hw]; omega)
  · simp only [nmr8, List.mem_cons, List.not_mem_nil, or_false] at h
    subst h
    rfl
theorem step9 (hL : L.length ≤ 60) (hjl : j < L.length) (hb : 0 ≤ byteA L j ∧ byteA L j ≤ 255) (hi : inv 2 j rec last) (c0 : last ≤ refA L j) (c1 : Int.tmod (byteA L j) 3 = 0) : inv 2 (j + 1) (rec) (last) ∧ Tri Tryz.prog N dBody (At w0 N (rA z L j rec last) SS2) fun e a w => e = .normal ∧ At w0 N (rA z L ((j + 1 : Nat) : Int) (rec) (last)) SS2 a w := by
  have hj : j < 60 := by omega
  have hw := wrap1 hj
  have hr := refA_rng hj hb
  have hwr := wrapR hj hb
  refine ⟨?_, ?_⟩
  · unfold inv at hi ⊢
    try simp only [hw, hwr]
    refine ⟨fun hk => ?_, ?_, ?_⟩
    · first | (cases hk; done) | (have := hi.1; omega)
    · have := hi.2; omega
    · have := hi.2; omega
  have hG : ∀ f ∈ G9, f.holds (rA z L j rec last) := by
    unfold G9
    exact List.forall_mem_cons.2 ⟨(by show icmp .geq (refA L j) (last) = some true; simp only [icmp, Option.some.injEq, decide_eq_true_eq, decide_eq_false_iff_not]; omega), List.forall_mem_cons.2 ⟨(by show icmp .eql (Int.tmod (byteA L j) 3) (0) = some true; simp only [icmp, Option.some.injEq, decide_eq_true_eq, decide_eq_false_iff_not]; omega), List.forall_mem_nil _⟩⟩
  have hK : ∀ f ∈ FK2, f.holds (rA z L j rec last) := by
    unfold FK2
    exact List.forall_mem_cons.2 ⟨⟨hi.2.1, by show last ≤ 59; have := hi.2.2; omega⟩, List.forall_mem_nil _⟩
  refine Tri.run (codeF _ _) (envA_ok std (app_ok hG (app_ok hK (base_ok hL hjl hb)))) (ρ' := rA z L ((j + 1 : Nat) : Int) (rec) (last)) run9 ⟨fun _ => rfl, fun _ => rfl, fun x h => ?_, fun _ h => (nomatch h), fun _ h => (nomatch h), fun x h => ?_, fun _ h => (nomatch h), rfl⟩
  · simp only [nmr9, List.mem_cons, List.not_mem_nil, or_false] at h
    rcases h with rfl | rfl | rfl
    all_goals first | rfl | (show (((j + 1 : Nat) : Int)) = IntKind.i64.wrap ((j : Int) + 1); rw [hw]; omega)
  · simp only [nmr9, List.mem_cons, List.not_mem_nil, or_false] at h
    subst h
    rfl
theorem round0 (hL : L.length ≤ 60) (hjl : j < L.length) (hb : 0 ≤ byteA L j ∧ byteA L j ≤ 255) (hi : inv 0 j rec last) : ∃ (k2 : Nat) (rec2 last2 : Int), k2 < 3 ∧ inv k2 (j + 1) rec2 last2 ∧ Tri Tryz.prog N dBody (At w0 N (rA z L j rec last) SS0) fun e a w => e = .normal ∧ At w0 N (rA z L ((j + 1 : Nat) : Int) rec2 last2) (SS k2) a w := by
  rcases (show (Int.tmod (byteA L j) 3 = 0) ∨ (Int.tmod (byteA L j) 3 ≠ 0) by omega) with h0 | h0
  ·
    rcases (show (last ≤ refA L j) ∨ (refA L j < last) by omega) with h1 | h1
    ·
      exact ⟨0, _, _, by decide, (step2 (w0 := w0) (N := N) (z := z) hL hjl hb hi h1 h0).1, (step2 (w0 := w0) (N := N) (z := z) hL hjl hb hi h1 h0).2.post fun e a w h => ⟨h.1, h.2⟩⟩
    ·
      exact ⟨0, _, _, by decide, (step1 (w0 := w0) (N := N) (z := z) hL hjl hb hi h1 h0).1, (step1 (w0 := w0) (N := N) (z := z) hL hjl hb hi h1 h0).2.post fun e a w h => ⟨h.1, h.2⟩⟩
  ·
    exact ⟨1, _, _, by decide, (step0 (w0 := w0) (N := N) (z := z) hL hjl hb hi h0).1, (step0 (w0 := w0) (N := N) (z := z) hL hjl hb hi h0).2.post fun e a w h => ⟨h.1, h.2⟩⟩
theorem round1 (hL : L.length ≤ 60) (hjl : j < L.length) (hb : 0 ≤ byteA L j ∧ byteA L j ≤ 255) (hi : inv 1 j rec last) : ∃ (k2 : Nat) (rec2 last2 : Int), k2 < 3 ∧ inv k2 (j + 1) rec2 last2 ∧ Tri Tryz.prog N dBody (At w0 N (rA z L j rec last) SS1) fun e a w => e = .normal ∧ At w0 N (rA z L ((j + 1 : Nat) : Int) rec2 last2) (SS k2) a w := by
  rcases (show (Int.tmod (byteA L j) 3 = 0) ∨ (Int.tmod (byteA L j) 3 ≠ 0) by omega) with h0 | h0
  ·
    rcases (show (last ≤ refA L j) ∨ (refA L j < last) by omega) with h1 | h1
    ·
      exact ⟨2, _, _, by decide, (step6 (w0 := w0) (N := N) (z := z) hL hjl hb hi h1 h0).1, (step6 (w0 := w0) (N := N) (z := z) hL hjl hb hi h1 h0).2.post fun e a w h => ⟨h.1, h.2⟩⟩
    ·
      rcases (show (rec ≤ refA L j) ∨ (refA L j < rec) by omega) with h2 | h2
      ·
        exact ⟨1, _, _, by decide, (step5 (w0 := w0) (N := N) (z := z) hL hjl hb hi h2 h1 h0).1, (step5 (w0 := w0) (N := N) (z := z) hL hjl hb hi h2 h1 h0).2.post fun e a w h => ⟨h.1, h.2⟩⟩
      ·
        exact ⟨1, _, _, by decide, (step4 (w0 := w0) (N := N) (z := z) hL hjl hb hi h2 h1 h0).1, (step4 (w0 := w0) (N := N) (z := z) hL hjl hb hi h2 h1 h0).2.post fun e a w h => ⟨h.1, h.2⟩⟩
  ·
    exact ⟨1, _, _, by decide, (step3 (w0 := w0) (N := N) (z := z) hL hjl hb hi h0).1, (step3 (w0 := w0) (N := N) (z := z) hL hjl hb hi h0).2.post fun e a w h => ⟨h.1, h.2⟩⟩
theorem round2 (hL : L.length ≤ 60) (hjl : j < L.length) (hb : 0 ≤ byteA L j ∧ byteA L j ≤ 255) (hi : inv 2 j rec last) : ∃ (k2 : Nat) (rec2 last2 : Int), k2 < 3 ∧ inv k2 (j + 1) rec2 last2 ∧ Tri Tryz.prog N dBody (At w0 N (rA z L j rec last) SS2) fun e a w => e = .normal ∧ At w0 N (rA z L ((j + 1 : Nat) : Int) rec2 last2) (SS k2) a w := by
  rcases (show (Int.tmod (byteA L j) 3 = 0) ∨ (Int.tmod (byteA L j) 3 ≠ 0) by omega) with h0 | h0
  ·
    rcases (show (last ≤ refA L j) ∨ (refA L j < last) by omega) with h1 | h1
    ·
      exact ⟨2, _, _, by decide, (step9 (w0 := w0) (N := N) (z := z) hL hjl hb hi h1 h0).1, (step9 (w0 := w0) (N := N) (z := z) hL hjl hb hi h1 h0).2.post fun e a w h => ⟨h.1, h.2⟩⟩
    ·
      exact ⟨2, _, _, by decide, (step8 (w0 := w0) (N := N) (z := z) hL hjl hb hi h1 h0).1, (step8 (w0 := w0) (N := N) (z := z) hL hjl hb hi h1 h0).2.post fun e a w h => ⟨h.1, h.2⟩⟩
  ·
    exact ⟨1, _, _, by decide, (step7 (w0 := w0) (N := N) (z := z) hL hjl hb hi h0).1, (step7 (w0 := w0) (N := N) (z := z) hL hjl hb hi h0).2.post fun e a w h => ⟨h.1, h.2⟩⟩
end
section
variable {w0 : World} {N : Nat} {z : Nat → Option Obj} {L : List (List DV)}
theorem roundD (hL : L.length ≤ 60) (hb : ∀ j : Nat, j < L.length → 0 ≤ byteA L j ∧ byteA L j ≤ 255) (x : Nat × Nat × Int × Int) : Tri Tryz.prog N dBody (fun a w => (x.1 ≤ L.length ∧ x.2.1 < 3 ∧ inv x.2.1 x.1 x.2.2.1 x.2.2.2) ∧ At w0 N (rA z L x.1 x.2.2.1 x.2.2.2) (SS x.2.1) a w) fun e a w => (e = .normal ∧ ∃ y : Nat × Nat × Int × Int, L.length - y.1 < L.length - x.1 ∧ (y.1 ≤ L.length ∧ y.2.1 < 3 ∧ inv y.2.1 y.1 y.2.2.1 y.2.2.2) ∧ At w0 N (rA z L y.1 y.2.2.1 y.2.2.2) (SS y.2.1) a w) ∨ (e ≠ .normal ∧ e = .exit 0 ∧ ∃ (j rec last : Int) (k : Nat), At w0 N (rA z L j rec last) (SS k) a w) := by
  obtain ⟨j, k, rec, last⟩ := x
  refine Tri.imp fun hx => ?_
  obtain ⟨h1, h2, h3⟩ := hx
  dsimp only at h1 h2 h3 ⊢
  by_cases hj : j < L.length
  · have go : ∃ (k2 : Nat) (rec2 last2 : Int), (k2 < 3 ∧ inv k2 (j + 1) rec2 last2) ∧ Tri Tryz.prog N dBody (At w0 N (rA z L j rec last) (SS k)) fun e a w => e = .normal ∧ At w0 N (rA z L ((j + 1 : Nat) : Int) rec2 last2) (SS k2) a w := by
      match k, h2, h3 with
      | 0, _, h3 =>
        obtain ⟨k2, rec2, last2, a1, a2, a3⟩ := round0 (w0 := w0) (N := N) (z := z) hL hj (hb j hj) h3
        exact ⟨k2, rec2, last2, ⟨a1, a2⟩, a3⟩
      | 1, _, h3 =>
        obtain ⟨k2, rec2, last2, a1, a2, a3⟩ := round1 (w0 := w0) (N := N) (z := z) hL hj (hb j hj) h3
        exact ⟨k2, rec2, last2, ⟨a1, a2⟩, a3⟩
      | 2, _, h3 =>
        obtain ⟨k2, rec2, last2, a1, a2, a3⟩ := round2 (w0 := w0) (N := N) (z := z) hL hj (hb j hj) h3
        exact ⟨k2, rec2, last2, ⟨a1, a2⟩, a3⟩
      | k + 3, h2, _ => exact absurd h2 (by omega)
    obtain ⟨k2, rec2, last2, ⟨h4, h5⟩, h6⟩ := go
    exact h6.post fun e a w h => .inl ⟨h.1, (j + 1, k2, rec2, last2), by show L.length - (j + 1) < L.length - j; omega, ⟨by show j + 1 ≤ L.length; omega, h4, h5⟩, h.2⟩
  · have he : EnvOk (envA [.cmp .lss (.v (nat_lit 1)) (.f1 (nat_lit 5) (.v (nat_lit 9))) false]) (rA z L j rec last) := envA_ok std (List.forall_mem_cons.2 ⟨(by show icmp .lss (j : Int) (L.length : Int) = some false; simp only [icmp, Option.some.injEq, decide_eq_false_iff_not]; omega), List.forall_mem_nil _⟩)
    match k, h2 with
    | 0, _ =>
      refine (Tri.run (codeF _ _) he runX0 (ρ' := rA z L j rec last) ⟨fun _ => rfl, fun _ => rfl, fun x h => ?_, fun _ h => (nomatch h), fun _ h => (nomatch h), fun x h => ?_, fun _ h => (nomatch h), rfl⟩).post fun e a w h => .inr ⟨by rw [h.1]; exact fun h => (nomatch h), h.1, _, _, _, 0, h.2⟩
      · simp only [nmk0, List.mem_cons, List.not_mem_nil, or_false] at h
        rcases h with rfl | rfl | rfl <;> rfl
      · simp only [nmk0, List.mem_cons, List.not_mem_nil, or_false] at h
        subst h; rfl
    | 1, _ =>
      refine (Tri.run (codeF _ _) he runX1 (ρ' := rA z L j rec last) ⟨fun _ => rfl, fun _ => rfl, fun x h => ?_, fun _ h => (nomatch h), fun _ h => (nomatch h), fun x h => ?_, fun _ h => (nomatch h), rfl⟩).post fun e a w h => .inr ⟨by rw [h.1]; exact fun h => (nomatch h), h.1, _, _, _, 1, h.2⟩
      · simp only [nmk1, List.mem_cons, List.not_mem_nil, or_false] at h
        rcases h with rfl | rfl | rfl | rfl <;> rfl
      · simp only [nmk1, List.mem_cons, List.not_mem_nil, or_false] at h
        subst h; rfl
    | 2, _ =>
      refine (Tri.run (codeF _ _) he runX2 (ρ' := rA z L j rec last) ⟨fun _ => rfl, fun _ => rfl, fun x h => ?_, fun _ h => (nomatch h), fun _ h => (nomatch h), fun x h => ?_, fun _ h => (nomatch h), rfl⟩).post fun e a w h => .inr ⟨by rw [h.1]; exact fun h => (nomatch h), h.1, _, _, _, 2, h.2⟩
      · simp only [nmk2, List.mem_cons, List.not_mem_nil, or_false] at h
        rcases h with rfl | rfl | rfl <;> rfl
      · simp only [nmk2, List.mem_cons, List.not_mem_nil, or_false] at h
        subst h; rfl
    | k + 3, h2 => exact absurd h2 (by omega)
end
/-- the law -/
theorem dirty_walk (x : Option Addr) (len cap : Nat) {zs : List Int} {w : World} (hz : IsRow .u8 w x len cap zs) : Calls Tryz.prog 3 #[.slice x len cap] w fun e w' => e = .returned (.bool true) ∧ Below w.heap.size w w' := by
  let L : List (List DV) := (zs.take len).map fun n => [DV.i n]
  obtain ⟨zf, hzf, hsl⟩ : ∃ zf : Nat → Option Obj, (∀ b y, zf b = some y → w.heap[b]? = some y) ∧ SlD zf shP L (.slice x len cap) := frozen_row hz
  have hlen : L.length = len := by
    rcases hz with ⟨_, rfl, _, _⟩ | ⟨_, _, h1, h2, h3, _⟩
    · simp [L]
    · simp [L]; omega
  have hby : ∀ j : Nat, j < L.length → 0 ≤ byteA L j ∧ byteA L j ≤ 255 := fun j hj => by
    have hjz : j < (zs.take len).length := by simpa [L] using hj
    have hmem : (zs.take len)[j] ∈ zs := List.mem_of_mem_take (List.getElem_mem hjz)
    have hv : byteA L j = (zs.take len)[j] := by
      have hLj : L[j]? = some [DV.i ((zs.take len)[j])] := by
        show ((zs.take len).map fun n => [DV.i n])[j]? = _
        rw [List.getElem?_map, List.getElem?_eq_getElem hjz]; rfl
      unfold byteA cellD
      rw [show ((j : Int)).toNat = j from rfl, hLj]
      rfl
    rw [hv]
    rcases hz with ⟨_, _, _, rfl⟩ | ⟨_, _, _, _, _, _, hw⟩
    · cases hmem
    · have := bounds_u8 (hw _ hmem)
      omega
  refine law_tri (us := [.slice x len cap]) (args := [.c (.ds shP (.v (nat_lit 9)))]) (s0 := s0) (ac := bodyD) (res := resD) (ρ := rA zf L ((0 : Nat) : Int) 0 0) Tryz.func3 (by kernel_rfl) ⟨_, rfl, by kernel_rfl⟩ (by kernel_rfl) (.cons hsl .nil) w hzf ?_
  by_cases h60 : L.length ≤ 60
  · have e0 : EnvOk (envA F0) (rA zf L ((0 : Nat) : Int) 0 0) := envA_ok std (List.forall_mem_cons.2 ⟨⟨Int.natCast_nonneg _, by show (L.length : Int) ≤ 60; omega⟩, List.forall_mem_cons.2 ⟨(by show icmp .gtr (L.length : Int) 60 = some false; simp only [icmp, Option.some.injEq, decide_eq_false_iff_not]; omega), List.forall_mem_nil _⟩⟩)
    have en : ∀ {j : Int} {rec last : Int}, EnvOk (envA []) (rA zf L j rec last) := fun {j rec last} => envA_ok (vnA_std _ _ _ _) (List.forall_mem_nil _)
    refine Tri.pre_run (codeF _ _) e0 cutD runP (ρ' := rA zf L ((0 : Nat) : Int) 0 0) ⟨fun _ => rfl, fun _ => rfl, fun _ h => (nomatch h), fun _ h => (nomatch h), fun _ h => (nomatch h), fun y h => by simp only [nmD, List.mem_cons, List.not_mem_nil, or_false] at h; subst h; rfl, fun _ h => (nomatch h), rfl⟩ ?_
    rw [dL_eq]
    refine Tri.seq (Mid := fun a w' => ∃ (j rec last : Int) (k : Nat), At w Tryz.f3.ntmps (rA zf L j rec last) (SS k) a w') ?_ ?_
    · rw [dLs_eq]
      refine Tri.seq (Mid := At w Tryz.f3.ntmps (rA zf L ((0 : Nat) : Int) 0 0) SS0) ?_ ?_
      · refine (Tri.run (codeF _ _) en runI ⟨fun _ => rfl, fun _ => rfl, fun y h => ?_, fun _ h => (nomatch h), fun _ h => (nomatch h), fun y h => ?_, fun _ h => (nomatch h), rfl⟩).post fun e a w h => .inl h
        · simp only [nm0, List.mem_cons, List.not_mem_nil, or_false] at h
          rcases h with rfl | rfl | rfl
          all_goals rfl
        · simp only [nm0, List.mem_cons, List.not_mem_nil, or_false] at h
          subst h; rfl
      · rw [dBlk_eq]
        refine Tri.block ?_
        refine ((Tri.loop (Post := fun e a w' => e = .exit 0 ∧ ∃ (j rec last : Int) (k : Nat), At w Tryz.f3.ntmps (rA zf L j rec last) (SS k) a w') (fun x => L.length - x.1) (fun (x : Nat × Nat × Int × Int) a w' => (x.1 ≤ L.length ∧ x.2.1 < 3 ∧ inv x.2.1 x.1 x.2.2.1 x.2.2.2) ∧ At w Tryz.f3.ntmps (rA zf L x.1 x.2.2.1 x.2.2.2) (SS x.2.1) a w') fun x => (roundD h60 hby x).post fun e a w h => h).pre fun a w h => ⟨(0, 0, 0, 0), ⟨Nat.zero_le _, by decide, ⟨fun h => (nomatch h), Int.le_refl _, Int.le_refl _⟩⟩, h⟩).post fun e a w h => .inl ⟨.inr h.1, .inl ⟨rfl, h.2⟩⟩
    · refine Tri.ex fun j => Tri.ex fun rec => Tri.ex fun last => Tri.ex fun k => ?_
      have hz0 : ∀ a w', At w Tryz.f3.ntmps (rA zf L j rec last) (SS k) a w' → At w Tryz.f3.ntmps (rA zf L 0 0 0) ⟨[], [], ⟨.x0, .x0, .x0⟩⟩ a w' := fun a w' h => At.ren (m := []) (nm := ⟨[], [], [], [], []⟩) h rfl ⟨fun _ => rfl, fun _ => rfl, fun _ h => (nomatch h), fun _ h => (nomatch h), fun _ h => (nomatch h), fun _ h => (nomatch h), fun _ h => (nomatch h), rfl⟩
      refine ((Tri.run (codeF _ _) en (s := ⟨[], [], ⟨.x0, .x0, .x0⟩⟩) (ρ' := rA zf L 0 0 0) runE ⟨fun _ => rfl, fun _ => rfl, fun _ h => (nomatch h), fun _ h => (nomatch h), fun _ h => (nomatch h), fun _ h => (nomatch h), fun _ h => (nomatch h), rfl⟩).pre hz0).post fun e a w h => ⟨h.1, _, _, ?_, h.2⟩
      kernel_rfl
  · have e1 : EnvOk (envA F1) (rA zf L ((0 : Nat) : Int) 0 0) := envA_ok std (List.forall_mem_cons.2 ⟨(by show icmp .gtr (L.length : Int) 60 = some true; simp only [icmp, Option.some.injEq, decide_eq_true_eq]; omega), List.forall_mem_nil _⟩)
    refine (Tri.run (codeF _ _) e1 runLong (ρ' := rA zf L 0 0 0) ⟨fun _ => rfl, fun _ => rfl, fun _ h => (nomatch h), fun _ h => (nomatch h), fun _ h => (nomatch h), fun _ h => (nomatch h), fun _ h => (nomatch h), rfl⟩).post fun e a w h => ⟨h.1, _, _, ?_, h.2⟩
    kernel_rfl
end Go.Proofs.YtpecbnkhppglkaaGreat
