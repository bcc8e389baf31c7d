/-
  RollbackOrder: the walk over the runs (printed by a program).
-/
import Derived.Test.YtnofmmceafkkoaaGreatOrR0
import Derived.Test.YtnofmmceafkkoaaGreatOrR1
import Derived.Test.YtnofmmceafkkoaaGreatOrR2
import Derived.Test.YtnofmmceafkkoaaGreatOrR3
import Derived.Test.YtnofmmceafkkoaaGreatOrP
set_option linter.unusedVariables false
set_option linter.unusedSimpArgs false
set_option maxRecDepth 100000
namespace Go.Proofs.YtnofmmceafkkoaaGreat
open Go.RowKit
theorem four {p : Nat → Bool} (a : p 0 = true) (b : p 1 = true) (c : p 2 = true) (d : p 3 = true) : ∀ s, s < 4 → p s = true
  | 0, _ => a
  | 1, _ => b
  | 2, _ => c
  | 3, _ => d
  | s + 4, h => absurd h (by omega)
theorem pick {p : Nat → Bool} {k : Nat} (l : List (PSigma fun s => p s = true)) (h : (List.range 4).all (fun s => !Nat.testBit k s || l.any fun x => decide (x.1 = s)) = true) : ∀ s, s < 4 → Nat.testBit k s = true → p s = true := by
  intro s hs hb
  have h1 := List.all_eq_true.1 h s (List.mem_range.2 hs)
  rw [hb, Bool.not_true, Bool.false_or] at h1
  obtain ⟨⟨s', hp⟩, _, e⟩ := List.any_eq_true.1 h1
  have e := of_decide_eq_true e
  dsimp only at e
  rw [← e]; exact hp
theorem RU1 : ∀ k, k < 16 → ∀ s, s < 4 → run1 k s = true
  | 0, _ => four ru1_0_0 ru1_0_1 ru1_0_2 ru1_0_3
  | 1, _ => four ru1_1_0 ru1_1_1 ru1_1_2 ru1_1_3
  | 2, _ => four ru1_2_0 ru1_2_1 ru1_2_2 ru1_2_3
  | 3, _ => four ru1_3_0 ru1_3_1 ru1_3_2 ru1_3_3
  | 4, _ => four ru1_4_0 ru1_4_1 ru1_4_2 ru1_4_3
  | 5, _ => four ru1_5_0 ru1_5_1 ru1_5_2 ru1_5_3
  | 6, _ => four ru1_6_0 ru1_6_1 ru1_6_2 ru1_6_3
  | 7, _ => four ru1_7_0 ru1_7_1 ru1_7_2 ru1_7_3
  | 8, _ => four ru1_8_0 ru1_8_1 ru1_8_2 ru1_8_3
  | 9, _ => four ru1_9_0 ru1_9_1 ru1_9_2 ru1_9_3
  | 10, _ => four ru1_10_0 ru1_10_1 ru1_10_2 ru1_10_3
  | 11, _ => four ru1_11_0 ru1_11_1 ru1_11_2 ru1_11_3
  | 12, _ => four ru1_12_0 ru1_12_1 ru1_12_2 ru1_12_3
  | 13, _ => four ru1_13_0 ru1_13_1 ru1_13_2 ru1_13_3
  | 14, _ => four ru1_14_0 ru1_14_1 ru1_14_2 ru1_14_3
  | 15, _ => four ru1_15_0 ru1_15_1 ru1_15_2 ru1_15_3
  | k + 16, h => absurd h (by omega)
theorem RUq : ∀ k, k < 16 → k ≠ 0 → (run1x k && (runAb k && run2 k)) = true
  | 0, _ => fun h => absurd rfl h
  | 1, _ => fun _ => ru1x_1
  | 2, _ => fun _ => ru1x_2
  | 3, _ => fun _ => ru1x_3
  | 4, _ => fun _ => ru1x_4
  | 5, _ => fun _ => ru1x_5
  | 6, _ => fun _ => ru1x_6
  | 7, _ => fun _ => ru1x_7
  | 8, _ => fun _ => ru1x_8
  | 9, _ => fun _ => ru1x_9
  | 10, _ => fun _ => ru1x_10
  | 11, _ => fun _ => ru1x_11
  | 12, _ => fun _ => ru1x_12
  | 13, _ => fun _ => ru1x_13
  | 14, _ => fun _ => ru1x_14
  | 15, _ => fun _ => ru1x_15
  | k + 16, h => absurd h (by omega)
theorem RU5 : ∀ k, k < 16 → ∀ s, s < 4 → Nat.testBit k s = true → run5 k s = true
  | 0, _ => pick [] rfl
  | 1, _ => pick [⟨0, ru5_1_0⟩] rfl
  | 2, _ => pick [⟨1, ru5_2_1⟩] rfl
  | 3, _ => pick [⟨0, ru5_3_0⟩, ⟨1, ru5_3_1⟩] rfl
  | 4, _ => pick [⟨2, ru5_4_2⟩] rfl
  | 5, _ => pick [⟨0, ru5_5_0⟩, ⟨2, ru5_5_2⟩] rfl
  | 6, _ => pick [⟨1, ru5_6_1⟩, ⟨2, ru5_6_2⟩] rfl
  | 7, _ => pick [⟨0, ru5_7_0⟩, ⟨1, ru5_7_1⟩, ⟨2, ru5_7_2⟩] rfl
  | 8, _ => pick [⟨3, ru5_8_3⟩] rfl
  | 9, _ => pick [⟨0, ru5_9_0⟩, ⟨3, ru5_9_3⟩] rfl
  | 10, _ => pick [⟨1, ru5_10_1⟩, ⟨3, ru5_10_3⟩] rfl
  | 11, _ => pick [⟨0, ru5_11_0⟩, ⟨1, ru5_11_1⟩, ⟨3, ru5_11_3⟩] rfl
  | 12, _ => pick [⟨2, ru5_12_2⟩, ⟨3, ru5_12_3⟩] rfl
  | 13, _ => pick [⟨0, ru5_13_0⟩, ⟨2, ru5_13_2⟩, ⟨3, ru5_13_3⟩] rfl
  | 14, _ => pick [⟨1, ru5_14_1⟩, ⟨2, ru5_14_2⟩, ⟨3, ru5_14_3⟩] rfl
  | 15, _ => pick [⟨0, ru5_15_0⟩, ⟨1, ru5_15_1⟩, ⟨2, ru5_15_2⟩, ⟨3, ru5_15_3⟩] rfl
  | k + 16, h => absurd h (by omega)
section
variable {w0 : World} {N : Nat} {g : Nm → Value} {z : Nat → Option Obj} {b : Nat → MV} {k n : Nat} {d50 : List (List DV)} {H R : List Wr}
theorem fIn1_ok (h : JW d50 k H b) (hl : d50.length ≤ 30) (hlt : (b 7).i < d50.length) : ∀ f ∈ fIn1, f.holds QR (vb b g z) := by
  have h0 := h.i0
  have hn := h.ln
  have hf : (((b 50).d.length : Nat) : Int) = d50.length := by rw [h.f]
  exact facts_cons ⟨(by show (0 : Int) ≤ (b 7).i; omega), (by show (b 7).i ≤ 30; omega)⟩ (facts_cons ⟨(by show (0 : Int) ≤ (b 8).i; omega), (by show (b 8).i ≤ 30; omega)⟩ (facts_cons ⟨(by show (0 : Int) ≤ (((b 50).d.length : Nat) : Int); omega), (by show (((b 50).d.length : Nat) : Int) ≤ 30; omega)⟩
    (facts_cons ⟨(by show (-30 : Int) ≤ (b 7).i - (b 8).i; omega), (by show (b 7).i - (b 8).i ≤ -1; omega)⟩ (facts_cons ⟨(by show (-30 : Int) ≤ (b 7).i - (((b 50).d.length : Nat) : Int); omega), (by show (b 7).i - (((b 50).d.length : Nat) : Int) ≤ -1; omega)⟩ facts_nil))))
theorem fOut1_ok (h : JW d50 k H b) (hl : d50.length ≤ 30) (hge : ¬ (b 7).i < d50.length) : ∀ f ∈ fOut1, f.holds QR (vb b g z) := by
  have h0 := h.i0
  have h1 := h.i1
  have hn := h.ln
  have hf : (((b 50).d.length : Nat) : Int) = d50.length := by rw [h.f]
  exact facts_cons ⟨(by show (0 : Int) ≤ (b 7).i; omega), (by show (b 7).i ≤ 30; omega)⟩ (facts_cons ⟨(by show (0 : Int) ≤ (b 8).i; omega), (by show (b 8).i ≤ 30; omega)⟩ (facts_cons ⟨(by show (0 : Int) ≤ (((b 50).d.length : Nat) : Int); omega), (by show (((b 50).d.length : Nat) : Int) ≤ 30; omega)⟩
    (facts_cons ⟨(by show (0 : Int) ≤ (b 7).i - (b 8).i; omega), (by show (b 7).i - (b 8).i ≤ 0; omega)⟩ facts_nil)))
theorem rd1_00 (h : JW d50 k H b) (hl : d50.length ≤ 30) (hlt : (b 7).i < d50.length) {x : Int} (hx : (vb b g z).i (.f2 (100 + 0) (.v 50) (.v 7)) = x) (x0 : 0 ≤ x) (x1 : x ≤ 255) (hs : x.tmod 4 = 0) (y0 : 0 ≤ x) (y1 : x ≤ 200) :
    Tri Tryz.prog N chB (At w0 N (vb b g z) (st1 k)) fun e a w => e = .normal ∧ ∃ k' H' b', (JW d50 k' H' b' ∧ (b' 7).i = (b 7).i + 1) ∧ At w0 N (vb b' g z) (st1 k') a w := by
  have r26 : (vb b g z).i (.f2 3 (.f2 (100 + 0) (.v 50) (.v 7)) (.num 26)) = x.tmod 26 := by rw [(vb_std b g z).rem, hx]; rfl
  have m26 := tmod26 x0
  have fg : ∀ f ∈ fg10 0, f.holds QR (vb b g z) := facts_cons (by show (0 : Int) ≤ (vb b g z).i (.f2 3 (.f2 (100 + 0) (.v 50) (.v 7)) (.num 4)) ∧ (vb b g z).i (.f2 3 (.f2 (100 + 0) (.v 50) (.v 7)) (.num 4)) ≤ 0; rw [(vb_std b g z).rem, hx]; show (0 : Int) ≤ x.tmod 4 ∧ x.tmod 4 ≤ 0; omega)
    (facts_cons (by show (0 : Int) ≤ (vb b g z).i (.f2 (100 + 0) (.v 50) (.v 7)) ∧ (vb b g z).i (.f2 (100 + 0) (.v 50) (.v 7)) ≤ 200; rw [hx]; omega) (facts_cons (by show (0 : Int) ≤ (vb b g z).i (.f2 3 (.f2 (100 + 0) (.v 50) (.v 7)) (.num 26)) ∧ (vb b g z).i (.f2 3 (.f2 (100 + 0) (.v 50) (.v 7)) (.num 26)) ≤ 25; rw [r26]; omega)
    (facts_cons (by show (1 : Int) ≤ ((((vb b g z).s (.f1 10 (.f2 1000 (.f2 3 (.f2 (100 + 0) (.v 50) (.v 7)) (.num 26)) (.num 97)))).size : Nat) : Int) ∧ ((((vb b g z).s (.f1 10 (.f2 1000 (.f2 3 (.f2 (100 + 0) (.v 50) (.v 7)) (.num 26)) (.num 97)))).size : Nat) : Int) ≤ 1; rw [(vb_std b g z).byt, size_one]; decide) facts_nil)))
  have hn := h.n
  have hla := h.kb.la
  cases k with
  | zero =>
    have hr := (Bool.and_eq_true_iff.1 (RU1 _ h.k16 0 (by decide))).1
    unfold run10 at hr
    have e0 : (b 0).d = [] := List.eq_nil_of_length_eq_zero (h.kb.k0.1 rfl)
    have hy : (nb b (r1 0 0 0) 0).d = (b 0).d ++ [enR (((b 0).d.length : Int) + 1) 1 1 (b 2).i 0 0 0 (0 : Nat) false ⟨#[]⟩ true (nb b (r1 0 0 0) 21).s] := by rw [e0]; rfl
    refine (Tri.run (codeM _ _) (envR_ok (facts_app fg (facts_app (fIn1_ok h hl hlt) (fb4_ok h.kb)))) hr (ren_nb (by decide))).post fun e a w hq => ⟨hq.1, 0 ||| 2 ^ 0, _, nb b (r1 0 0 0), ⟨h.next (s := 0) hlt (by decide) hy ?_ rfl rfl rfl ?_, rfl⟩, hq.2⟩
    · exact h.kb.next (by decide) (by omega) rfl ⟨by omega, by omega⟩ v0_ok (show VCell true _ from (v1_ok _)) hy rfl (by rw [h.kb.q, e0]; rfl) (by rw [e0]; rfl) (by rw [e0]; rfl) h.kb.du (fun i hi => match i, hi with
        | 0, _ => (v1_ok _)
        | 1, _ => v0_ok
        | 2, _ => v0_ok
        | 3, _ => v0_ok
        | i + 4, h => absurd h (by omega))
    · intro i hi
      exact match i, hi with
      | 0, _ => rfl
      | 1, _ => rfl
      | 2, _ => rfl
      | 3, _ => rfl
      | i + 4, h => absurd h (by omega)
  | succ k =>
    have hr := (Bool.and_eq_true_iff.1 (RU1 _ h.k16 0 (by decide))).1
    unfold run10 at hr
    have hc := h.kb.c (by omega)
    have hpl := h.kb.pl (by omega)
    have hy : (nb b (r1 (k + 1) 0 0) 0).d = (b 0).d ++ [enR (((b 0).d.length : Int) + 1) 1 1 (b 2).i (b 3).i 0 0 (0 : Nat) (b 20).b (b 21).s true (nb b (r1 (k + 1) 0 0) 21).s] := rfl
    refine (Tri.run (codeM _ _) (envR_ok (facts_app fg (facts_app (fIn1_ok h hl hlt) (fb4_ok h.kb)))) hr (ren_nb (r := r1_100) (by decide))).post fun e a w hq => ⟨hq.1, (k + 1) ||| 2 ^ 0, _, nb b (r1 (k + 1) 0 0), ⟨h.next (s := 0) hlt (by decide) hy ?_ rfl rfl rfl ?_, rfl⟩, hq.2⟩
    · exact h.kb.next (by decide) (by omega) rfl ⟨by omega, by omega⟩ (hc 0 (by decide)) (show VCell true _ from (v1_ok _)) hy rfl rfl rfl rfl h.kb.du (fun i hi => match i, hi with
        | 0, _ => (v1_ok _)
        | 1, _ => hc 1 (by decide)
        | 2, _ => hc 2 (by decide)
        | 3, _ => hc 3 (by decide)
        | i + 4, h => absurd h (by omega))
    · intro i hi
      unfold pc
      rw [if_neg or_ne]
      exact match i, hi with
      | 0, _ => rfl
      | 1, _ => rfl
      | 2, _ => rfl
      | 3, _ => rfl
      | i + 4, h => absurd h (by omega)
theorem rd1_01 (h : JW d50 k H b) (hl : d50.length ≤ 30) (hlt : (b 7).i < d50.length) {x : Int} (hx : (vb b g z).i (.f2 (100 + 0) (.v 50) (.v 7)) = x) (x0 : 0 ≤ x) (x1 : x ≤ 255) (hs : x.tmod 4 = 0) (y0 : 201 ≤ x) (y1 : x ≤ 255) :
    Tri Tryz.prog N chB (At w0 N (vb b g z) (st1 k)) fun e a w => e = .normal ∧ ∃ k' H' b', (JW d50 k' H' b' ∧ (b' 7).i = (b 7).i + 1) ∧ At w0 N (vb b' g z) (st1 k') a w := by
  have r26 : (vb b g z).i (.f2 3 (.f2 (100 + 0) (.v 50) (.v 7)) (.num 26)) = x.tmod 26 := by rw [(vb_std b g z).rem, hx]; rfl
  have m26 := tmod26 x0
  have fg : ∀ f ∈ fg11 0, f.holds QR (vb b g z) := facts_cons (by show (0 : Int) ≤ (vb b g z).i (.f2 3 (.f2 (100 + 0) (.v 50) (.v 7)) (.num 4)) ∧ (vb b g z).i (.f2 3 (.f2 (100 + 0) (.v 50) (.v 7)) (.num 4)) ≤ 0; rw [(vb_std b g z).rem, hx]; show (0 : Int) ≤ x.tmod 4 ∧ x.tmod 4 ≤ 0; omega)
    (facts_cons (by show (201 : Int) ≤ (vb b g z).i (.f2 (100 + 0) (.v 50) (.v 7)) ∧ (vb b g z).i (.f2 (100 + 0) (.v 50) (.v 7)) ≤ 255; rw [hx]; omega) (facts_cons (by show (0 : Int) ≤ (vb b g z).i (.f2 3 (.f2 (100 + 0) (.v 50) (.v 7)) (.num 26)) ∧ (vb b g z).i (.f2 3 (.f2 (100 + 0) (.v 50) (.v 7)) (.num 26)) ≤ 25; rw [r26]; omega)
    (facts_cons (by show (1 : Int) ≤ ((((vb b g z).s (.f1 10 (.f2 1000 (.f2 3 (.f2 (100 + 0) (.v 50) (.v 7)) (.num 26)) (.num 97)))).size : Nat) : Int) ∧ ((((vb b g z).s (.f1 10 (.f2 1000 (.f2 3 (.f2 (100 + 0) (.v 50) (.v 7)) (.num 26)) (.num 97)))).size : Nat) : Int) ≤ 1; rw [(vb_std b g z).byt, size_one]; decide) facts_nil)))
  have hn := h.n
  have hla := h.kb.la
  cases k with
  | zero =>
    have hr := (Bool.and_eq_true_iff.1 (RU1 _ h.k16 0 (by decide))).2
    unfold run11 at hr
    have e0 : (b 0).d = [] := List.eq_nil_of_length_eq_zero (h.kb.k0.1 rfl)
    have hy : (nb b (r1 0 0 1) 0).d = (b 0).d ++ [enR (((b 0).d.length : Int) + 1) 1 1 (b 2).i 0 0 0 (0 : Nat) false ⟨#[]⟩ false (nb b (r1 0 0 1) 21).s] := by rw [e0]; rfl
    refine (Tri.run (codeM _ _) (envR_ok (facts_app fg (facts_app (fIn1_ok h hl hlt) (fb4_ok h.kb)))) hr (ren_nb (by decide))).post fun e a w hq => ⟨hq.1, 0 ||| 2 ^ 0, _, nb b (r1 0 0 1), ⟨h.next (s := 0) hlt (by decide) hy ?_ rfl rfl rfl ?_, rfl⟩, hq.2⟩
    · exact h.kb.next (by decide) (by omega) rfl ⟨by omega, by omega⟩ v0_ok (show VCell false _ from v0_ok) hy rfl (by rw [h.kb.q, e0]; rfl) (by rw [e0]; rfl) (by rw [e0]; rfl) h.kb.du (fun i hi => match i, hi with
        | 0, _ => v0_ok
        | 1, _ => v0_ok
        | 2, _ => v0_ok
        | 3, _ => v0_ok
        | i + 4, h => absurd h (by omega))
    · intro i hi
      exact match i, hi with
      | 0, _ => rfl
      | 1, _ => rfl
      | 2, _ => rfl
      | 3, _ => rfl
      | i + 4, h => absurd h (by omega)
  | succ k =>
    have hr := (Bool.and_eq_true_iff.1 (RU1 _ h.k16 0 (by decide))).2
    unfold run11 at hr
    have hc := h.kb.c (by omega)
    have hpl := h.kb.pl (by omega)
    have hy : (nb b (r1 (k + 1) 0 1) 0).d = (b 0).d ++ [enR (((b 0).d.length : Int) + 1) 1 1 (b 2).i (b 3).i 0 0 (0 : Nat) (b 20).b (b 21).s false (nb b (r1 (k + 1) 0 1) 21).s] := rfl
    refine (Tri.run (codeM _ _) (envR_ok (facts_app fg (facts_app (fIn1_ok h hl hlt) (fb4_ok h.kb)))) hr (ren_nb (r := r1_101) (by decide))).post fun e a w hq => ⟨hq.1, (k + 1) ||| 2 ^ 0, _, nb b (r1 (k + 1) 0 1), ⟨h.next (s := 0) hlt (by decide) hy ?_ rfl rfl rfl ?_, rfl⟩, hq.2⟩
    · exact h.kb.next (by decide) (by omega) rfl ⟨by omega, by omega⟩ (hc 0 (by decide)) (show VCell false _ from v0_ok) hy rfl rfl rfl rfl h.kb.du (fun i hi => match i, hi with
        | 0, _ => v0_ok
        | 1, _ => hc 1 (by decide)
        | 2, _ => hc 2 (by decide)
        | 3, _ => hc 3 (by decide)
        | i + 4, h => absurd h (by omega))
    · intro i hi
      unfold pc
      rw [if_neg or_ne]
      exact match i, hi with
      | 0, _ => rfl
      | 1, _ => rfl
      | 2, _ => rfl
      | 3, _ => rfl
      | i + 4, h => absurd h (by omega)
theorem rd1_10 (h : JW d50 k H b) (hl : d50.length ≤ 30) (hlt : (b 7).i < d50.length) {x : Int} (hx : (vb b g z).i (.f2 (100 + 0) (.v 50) (.v 7)) = x) (x0 : 0 ≤ x) (x1 : x ≤ 255) (hs : x.tmod 4 = 1) (y0 : 0 ≤ x) (y1 : x ≤ 200) :
    Tri Tryz.prog N chB (At w0 N (vb b g z) (st1 k)) fun e a w => e = .normal ∧ ∃ k' H' b', (JW d50 k' H' b' ∧ (b' 7).i = (b 7).i + 1) ∧ At w0 N (vb b' g z) (st1 k') a w := by
  have r26 : (vb b g z).i (.f2 3 (.f2 (100 + 0) (.v 50) (.v 7)) (.num 26)) = x.tmod 26 := by rw [(vb_std b g z).rem, hx]; rfl
  have m26 := tmod26 x0
  have fg : ∀ f ∈ fg10 1, f.holds QR (vb b g z) := facts_cons (by show (1 : Int) ≤ (vb b g z).i (.f2 3 (.f2 (100 + 0) (.v 50) (.v 7)) (.num 4)) ∧ (vb b g z).i (.f2 3 (.f2 (100 + 0) (.v 50) (.v 7)) (.num 4)) ≤ 1; rw [(vb_std b g z).rem, hx]; show (1 : Int) ≤ x.tmod 4 ∧ x.tmod 4 ≤ 1; omega)
    (facts_cons (by show (0 : Int) ≤ (vb b g z).i (.f2 (100 + 0) (.v 50) (.v 7)) ∧ (vb b g z).i (.f2 (100 + 0) (.v 50) (.v 7)) ≤ 200; rw [hx]; omega) (facts_cons (by show (0 : Int) ≤ (vb b g z).i (.f2 3 (.f2 (100 + 0) (.v 50) (.v 7)) (.num 26)) ∧ (vb b g z).i (.f2 3 (.f2 (100 + 0) (.v 50) (.v 7)) (.num 26)) ≤ 25; rw [r26]; omega)
    (facts_cons (by show (1 : Int) ≤ ((((vb b g z).s (.f1 10 (.f2 1000 (.f2 3 (.f2 (100 + 0) (.v 50) (.v 7)) (.num 26)) (.num 97)))).size : Nat) : Int) ∧ ((((vb b g z).s (.f1 10 (.f2 1000 (.f2 3 (.f2 (100 + 0) (.v 50) (.v 7)) (.num 26)) (.num 97)))).size : Nat) : Int) ≤ 1; rw [(vb_std b g z).byt, size_one]; decide) facts_nil)))
  have hn := h.n
  have hla := h.kb.la
  cases k with
  | zero =>
    have hr := (Bool.and_eq_true_iff.1 (RU1 _ h.k16 1 (by decide))).1
    unfold run10 at hr
    have e0 : (b 0).d = [] := List.eq_nil_of_length_eq_zero (h.kb.k0.1 rfl)
    have hy : (nb b (r1 0 1 0) 0).d = (b 0).d ++ [enR (((b 0).d.length : Int) + 1) 1 1 (b 2).i 0 0 0 (1 : Nat) false ⟨#[]⟩ true (nb b (r1 0 1 0) 23).s] := by rw [e0]; rfl
    refine (Tri.run (codeM _ _) (envR_ok (facts_app fg (facts_app (fIn1_ok h hl hlt) (fb4_ok h.kb)))) hr (ren_nb (by decide))).post fun e a w hq => ⟨hq.1, 0 ||| 2 ^ 1, _, nb b (r1 0 1 0), ⟨h.next (s := 1) hlt (by decide) hy ?_ rfl rfl rfl ?_, rfl⟩, hq.2⟩
    · exact h.kb.next (by decide) (by omega) rfl ⟨by omega, by omega⟩ v0_ok (show VCell true _ from (v1_ok _)) hy rfl (by rw [h.kb.q, e0]; rfl) (by rw [e0]; rfl) (by rw [e0]; rfl) h.kb.du (fun i hi => match i, hi with
        | 0, _ => v0_ok
        | 1, _ => (v1_ok _)
        | 2, _ => v0_ok
        | 3, _ => v0_ok
        | i + 4, h => absurd h (by omega))
    · intro i hi
      exact match i, hi with
      | 0, _ => rfl
      | 1, _ => rfl
      | 2, _ => rfl
      | 3, _ => rfl
      | i + 4, h => absurd h (by omega)
  | succ k =>
    have hr := (Bool.and_eq_true_iff.1 (RU1 _ h.k16 1 (by decide))).1
    unfold run10 at hr
    have hc := h.kb.c (by omega)
    have hpl := h.kb.pl (by omega)
    have hy : (nb b (r1 (k + 1) 1 0) 0).d = (b 0).d ++ [enR (((b 0).d.length : Int) + 1) 1 1 (b 2).i (b 3).i 0 0 (1 : Nat) (b 22).b (b 23).s true (nb b (r1 (k + 1) 1 0) 23).s] := rfl
    refine (Tri.run (codeM _ _) (envR_ok (facts_app fg (facts_app (fIn1_ok h hl hlt) (fb4_ok h.kb)))) hr (ren_nb (r := r1_110) (by decide))).post fun e a w hq => ⟨hq.1, (k + 1) ||| 2 ^ 1, _, nb b (r1 (k + 1) 1 0), ⟨h.next (s := 1) hlt (by decide) hy ?_ rfl rfl rfl ?_, rfl⟩, hq.2⟩
    · exact h.kb.next (by decide) (by omega) rfl ⟨by omega, by omega⟩ (hc 1 (by decide)) (show VCell true _ from (v1_ok _)) hy rfl rfl rfl rfl h.kb.du (fun i hi => match i, hi with
        | 0, _ => hc 0 (by decide)
        | 1, _ => (v1_ok _)
        | 2, _ => hc 2 (by decide)
        | 3, _ => hc 3 (by decide)
        | i + 4, h => absurd h (by omega))
    · intro i hi
      unfold pc
      rw [if_neg or_ne]
      exact match i, hi with
      | 0, _ => rfl
      | 1, _ => rfl
      | 2, _ => rfl
      | 3, _ => rfl
      | i + 4, h => absurd h (by omega)
theorem rd1_11 (h : JW d50 k H b) (hl : d50.length ≤ 30) (hlt : (b 7).i < d50.length) {x : Int} (hx : (vb b g z).i (.f2 (100 + 0) (.v 50) (.v 7)) = x) (x0 : 0 ≤ x) (x1 : x ≤ 255) (hs : x.tmod 4 = 1) (y0 : 201 ≤ x) (y1 : x ≤ 255) :
    Tri Tryz.prog N chB (At w0 N (vb b g z) (st1 k)) fun e a w => e = .normal ∧ ∃ k' H' b', (JW d50 k' H' b' ∧ (b' 7).i = (b 7).i + 1) ∧ At w0 N (vb b' g z) (st1 k') a w := by
  have r26 : (vb b g z).i (.f2 3 (.f2 (100 + 0) (.v 50) (.v 7)) (.num 26)) = x.tmod 26 := by rw [(vb_std b g z).rem, hx]; rfl
  have m26 := tmod26 x0
  have fg : ∀ f ∈ fg11 1, f.holds QR (vb b g z) := facts_cons (by show (1 : Int) ≤ (vb b g z).i (.f2 3 (.f2 (100 + 0) (.v 50) (.v 7)) (.num 4)) ∧ (vb b g z).i (.f2 3 (.f2 (100 + 0) (.v 50) (.v 7)) (.num 4)) ≤ 1; rw [(vb_std b g z).rem, hx]; show (1 : Int) ≤ x.tmod 4 ∧ x.tmod 4 ≤ 1; omega)
    (facts_cons (by show (201 : Int) ≤ (vb b g z).i (.f2 (100 + 0) (.v 50) (.v 7)) ∧ (vb b g z).i (.f2 (100 + 0) (.v 50) (.v 7)) ≤ 255; rw [hx]; omega) (facts_cons (by show (0 : Int) ≤ (vb b g z).i (.f2 3 (.f2 (100 + 0) (.v 50) (.v 7)) (.num 26)) ∧ (vb b g z).i (.f2 3 (.f2 (100 + 0) (.v 50) (.v 7)) (.num 26)) ≤ 25; rw [r26]; omega)
    (facts_cons (by show (1 : Int) ≤ ((((vb b g z).s (.f1 10 (.f2 1000 (.f2 3 (.f2 (100 + 0) (.v 50) (.v 7)) (.num 26)) (.num 97)))).size : Nat) : Int) ∧ ((((vb b g z).s (.f1 10 (.f2 1000 (.f2 3 (.f2 (100 + 0) (.v 50) (.v 7)) (.num 26)) (.num 97)))).size : Nat) : Int) ≤ 1; rw [(vb_std b g z).byt, size_one]; decide) facts_nil)))
  have hn := h.n
  have hla := h.kb.la
  cases k with
  | zero =>
    have hr := (Bool.and_eq_true_iff.1 (RU1 _ h.k16 1 (by decide))).2
    unfold run11 at hr
    have e0 : (b 0).d = [] := List.eq_nil_of_length_eq_zero (h.kb.k0.1 rfl)
    have hy : (nb b (r1 0 1 1) 0).d = (b 0).d ++ [enR (((b 0).d.length : Int) + 1) 1 1 (b 2).i 0 0 0 (1 : Nat) false ⟨#[]⟩ false (nb b (r1 0 1 1) 23).s] := by rw [e0]; rfl
    refine (Tri.run (codeM _ _) (envR_ok (facts_app fg (facts_app (fIn1_ok h hl hlt) (fb4_ok h.kb)))) hr (ren_nb (by decide))).post fun e a w hq => ⟨hq.1, 0 ||| 2 ^ 1, _, nb b (r1 0 1 1), ⟨h.next (s := 1) hlt (by decide) hy ?_ rfl rfl rfl ?_, rfl⟩, hq.2⟩
    · exact h.kb.next (by decide) (by omega) rfl ⟨by omega, by omega⟩ v0_ok (show VCell false _ from v0_ok) hy rfl (by rw [h.kb.q, e0]; rfl) (by rw [e0]; rfl) (by rw [e0]; rfl) h.kb.du (fun i hi => match i, hi with
        | 0, _ => v0_ok
        | 1, _ => v0_ok
        | 2, _ => v0_ok
        | 3, _ => v0_ok
        | i + 4, h => absurd h (by omega))
    · intro i hi
      exact match i, hi with
      | 0, _ => rfl
      | 1, _ => rfl
      | 2, _ => rfl
      | 3, _ => rfl
      | i + 4, h => absurd h (by omega)
  | succ k =>
    have hr := (Bool.and_eq_true_iff.1 (RU1 _ h.k16 1 (by decide))).2
    unfold run11 at hr
    have hc := h.kb.c (by omega)
    have hpl := h.kb.pl (by omega)
    have hy : (nb b (r1 (k + 1) 1 1) 0).d = (b 0).d ++ [enR (((b 0).d.length : Int) + 1) 1 1 (b 2).i (b 3).i 0 0 (1 : Nat) (b 22).b (b 23).s false (nb b (r1 (k + 1) 1 1) 23).s] := rfl
    refine (Tri.run (codeM _ _) (envR_ok (facts_app fg (facts_app (fIn1_ok h hl hlt) (fb4_ok h.kb)))) hr (ren_nb (r := r1_111) (by decide))).post fun e a w hq => ⟨hq.1, (k + 1) ||| 2 ^ 1, _, nb b (r1 (k + 1) 1 1), ⟨h.next (s := 1) hlt (by decide) hy ?_ rfl rfl rfl ?_, rfl⟩, hq.2⟩
    · exact h.kb.next (by decide) (by omega) rfl ⟨by omega, by omega⟩ (hc 1 (by decide)) (show VCell false _ from v0_ok) hy rfl rfl rfl rfl h.kb.du (fun i hi => match i, hi with
        | 0, _ => hc 0 (by decide)
        | 1, _ => v0_ok
        | 2, _ => hc 2 (by decide)
        | 3, _ => hc 3 (by decide)
        | i + 4, h => absurd h (by omega))
    · intro i hi
      unfold pc
      rw [if_neg or_ne]
      exact match i, hi with
      | 0, _ => rfl
      | 1, _ => rfl
      | 2, _ => rfl
      | 3, _ => rfl
      | i + 4, h => absurd h (by omega)
theorem rd1_20 (h : JW d50 k H b) (hl : d50.length ≤ 30) (hlt : (b 7).i < d50.length) {x : Int} (hx : (vb b g z).i (.f2 (100 + 0) (.v 50) (.v 7)) = x) (x0 : 0 ≤ x) (x1 : x ≤ 255) (hs : x.tmod 4 = 2) (y0 : 0 ≤ x) (y1 : x ≤ 200) :
    Tri Tryz.prog N chB (At w0 N (vb b g z) (st1 k)) fun e a w => e = .normal ∧ ∃ k' H' b', (JW d50 k' H' b' ∧ (b' 7).i = (b 7).i + 1) ∧ At w0 N (vb b' g z) (st1 k') a w := by
  have r26 : (vb b g z).i (.f2 3 (.f2 (100 + 0) (.v 50) (.v 7)) (.num 26)) = x.tmod 26 := by rw [(vb_std b g z).rem, hx]; rfl
  have m26 := tmod26 x0
  have fg : ∀ f ∈ fg10 2, f.holds QR (vb b g z) := facts_cons (by show (2 : Int) ≤ (vb b g z).i (.f2 3 (.f2 (100 + 0) (.v 50) (.v 7)) (.num 4)) ∧ (vb b g z).i (.f2 3 (.f2 (100 + 0) (.v 50) (.v 7)) (.num 4)) ≤ 2; rw [(vb_std b g z).rem, hx]; show (2 : Int) ≤ x.tmod 4 ∧ x.tmod 4 ≤ 2; omega)
    (facts_cons (by show (0 : Int) ≤ (vb b g z).i (.f2 (100 + 0) (.v 50) (.v 7)) ∧ (vb b g z).i (.f2 (100 + 0) (.v 50) (.v 7)) ≤ 200; rw [hx]; omega) (facts_cons (by show (0 : Int) ≤ (vb b g z).i (.f2 3 (.f2 (100 + 0) (.v 50) (.v 7)) (.num 26)) ∧ (vb b g z).i (.f2 3 (.f2 (100 + 0) (.v 50) (.v 7)) (.num 26)) ≤ 25; rw [r26]; omega)
    (facts_cons (by show (1 : Int) ≤ ((((vb b g z).s (.f1 10 (.f2 1000 (.f2 3 (.f2 (100 + 0) (.v 50) (.v 7)) (.num 26)) (.num 97)))).size : Nat) : Int) ∧ ((((vb b g z).s (.f1 10 (.f2 1000 (.f2 3 (.f2 (100 + 0) (.v 50) (.v 7)) (.num 26)) (.num 97)))).size : Nat) : Int) ≤ 1; rw [(vb_std b g z).byt, size_one]; decide) facts_nil)))
  have hn := h.n
  have hla := h.kb.la
  cases k with
  | zero =>
    have hr := (Bool.and_eq_true_iff.1 (RU1 _ h.k16 2 (by decide))).1
    unfold run10 at hr
    have e0 : (b 0).d = [] := List.eq_nil_of_length_eq_zero (h.kb.k0.1 rfl)
    have hy : (nb b (r1 0 2 0) 0).d = (b 0).d ++ [enR (((b 0).d.length : Int) + 1) 1 1 (b 2).i 0 0 0 (2 : Nat) false ⟨#[]⟩ true (nb b (r1 0 2 0) 25).s] := by rw [e0]; rfl
    refine (Tri.run (codeM _ _) (envR_ok (facts_app fg (facts_app (fIn1_ok h hl hlt) (fb4_ok h.kb)))) hr (ren_nb (by decide))).post fun e a w hq => ⟨hq.1, 0 ||| 2 ^ 2, _, nb b (r1 0 2 0), ⟨h.next (s := 2) hlt (by decide) hy ?_ rfl rfl rfl ?_, rfl⟩, hq.2⟩
    · exact h.kb.next (by decide) (by omega) rfl ⟨by omega, by omega⟩ v0_ok (show VCell true _ from (v1_ok _)) hy rfl (by rw [h.kb.q, e0]; rfl) (by rw [e0]; rfl) (by rw [e0]; rfl) h.kb.du (fun i hi => match i, hi with
        | 0, _ => v0_ok
        | 1, _ => v0_ok
        | 2, _ => (v1_ok _)
        | 3, _ => v0_ok
        | i + 4, h => absurd h (by omega))
    · intro i hi
      exact match i, hi with
      | 0, _ => rfl
      | 1, _ => rfl
      | 2, _ => rfl
      | 3, _ => rfl
      | i + 4, h => absurd h (by omega)
  | succ k =>
    have hr := (Bool.and_eq_true_iff.1 (RU1 _ h.k16 2 (by decide))).1
    unfold run10 at hr
    have hc := h.kb.c (by omega)
    have hpl := h.kb.pl (by omega)
    have hy : (nb b (r1 (k + 1) 2 0) 0).d = (b 0).d ++ [enR (((b 0).d.length : Int) + 1) 1 1 (b 2).i (b 3).i 0 0 (2 : Nat) (b 24).b (b 25).s true (nb b (r1 (k + 1) 2 0) 25).s] := rfl
    refine (Tri.run (codeM _ _) (envR_ok (facts_app fg (facts_app (fIn1_ok h hl hlt) (fb4_ok h.kb)))) hr (ren_nb (r := r1_120) (by decide))).post fun e a w hq => ⟨hq.1, (k + 1) ||| 2 ^ 2, _, nb b (r1 (k + 1) 2 0), ⟨h.next (s := 2) hlt (by decide) hy ?_ rfl rfl rfl ?_, rfl⟩, hq.2⟩
    · exact h.kb.next (by decide) (by omega) rfl ⟨by omega, by omega⟩ (hc 2 (by decide)) (show VCell true _ from (v1_ok _)) hy rfl rfl rfl rfl h.kb.du (fun i hi => match i, hi with
        | 0, _ => hc 0 (by decide)
        | 1, _ => hc 1 (by decide)
        | 2, _ => (v1_ok _)
        | 3, _ => hc 3 (by decide)
        | i + 4, h => absurd h (by omega))
    · intro i hi
      unfold pc
      rw [if_neg or_ne]
      exact match i, hi with
      | 0, _ => rfl
      | 1, _ => rfl
      | 2, _ => rfl
      | 3, _ => rfl
      | i + 4, h => absurd h (by omega)
theorem rd1_21 (h : JW d50 k H b) (hl : d50.length ≤ 30) (hlt : (b 7).i < d50.length) {x : Int} (hx : (vb b g z).i (.f2 (100 + 0) (.v 50) (.v 7)) = x) (x0 : 0 ≤ x) (x1 : x ≤ 255) (hs : x.tmod 4 = 2) (y0 : 201 ≤ x) (y1 : x ≤ 255) :
    Tri Tryz.prog N chB (At w0 N (vb b g z) (st1 k)) fun e a w => e = .normal ∧ ∃ k' H' b', (JW d50 k' H' b' ∧ (b' 7).i = (b 7).i + 1) ∧ At w0 N (vb b' g z) (st1 k') a w := by
  have r26 : (vb b g z).i (.f2 3 (.f2 (100 + 0) (.v 50) (.v 7)) (.num 26)) = x.tmod 26 := by rw [(vb_std b g z).rem, hx]; rfl
  have m26 := tmod26 x0
  have fg : ∀ f ∈ fg11 2, f.holds QR (vb b g z) := facts_cons (by show (2 : Int) ≤ (vb b g z).i (.f2 3 (.f2 (100 + 0) (.v 50) (.v 7)) (.num 4)) ∧ (vb b g z).i (.f2 3 (.f2 (100 + 0) (.v 50) (.v 7)) (.num 4)) ≤ 2; rw [(vb_std b g z).rem, hx]; show (2 : Int) ≤ x.tmod 4 ∧ x.tmod 4 ≤ 2; omega)
    (facts_cons (by show (201 : Int) ≤ (vb b g z).i (.f2 (100 + 0) (.v 50) (.v 7)) ∧ (vb b g z).i (.f2 (100 + 0) (.v 50) (.v 7)) ≤ 255; rw [hx]; omega) (facts_cons (by show (0 : Int) ≤ (vb b g z).i (.f2 3 (.f2 (100 + 0) (.v 50) (.v 7)) (.num 26)) ∧ (vb b g z).i (.f2 3 (.f2 (100 + 0) (.v 50) (.v 7)) (.num 26)) ≤ 25; rw [r26]; omega)
    (facts_cons (by show (1 : Int) ≤ ((((vb b g z).s (.f1 10 (.f2 1000 (.f2 3 (.f2 (100 + 0) (.v 50) (.v 7)) (.num 26)) (.num 97)))).size : Nat) : Int) ∧ ((((vb b g z).s (.f1 10 (.f2 1000 (.f2 3 (.f2 (100 + 0) (.v 50) (.v 7)) (.num 26)) (.num 97)))).size : Nat) : Int) ≤ 1; rw [(vb_std b g z).byt, size_one]; decide) facts_nil)))
  have hn := h.n
  have hla := h.kb.la
  cases k with
  | zero =>
    have hr := (Bool.and_eq_true_iff.1 (RU1 _ h.k16 2 (by decide))).2
    unfold run11 at hr
    have e0 : (b 0).d = [] := List.eq_nil_of_length_eq_zero (h.kb.k0.1 rfl)
    have hy : (nb b (r1 0 2 1) 0).d = (b 0).d ++ [enR (((b 0).d.length : Int) + 1) 1 1 (b 2).i 0 0 0 (2 : Nat) false ⟨#[]⟩ false (nb b (r1 0 2 1) 25).s] := by rw [e0]; rfl
    refine (Tri.run (codeM _ _) (envR_ok (facts_app fg (facts_app (fIn1_ok h hl hlt) (fb4_ok h.kb)))) hr (ren_nb (by decide))).post fun e a w hq => ⟨hq.1, 0 ||| 2 ^ 2, _, nb b (r1 0 2 1), ⟨h.next (s := 2) hlt (by decide) hy ?_ rfl rfl rfl ?_, rfl⟩, hq.2⟩
    · exact h.kb.next (by decide) (by omega) rfl ⟨by omega, by omega⟩ v0_ok (show VCell false _ from v0_ok) hy rfl (by rw [h.kb.q, e0]; rfl) (by rw [e0]; rfl) (by rw [e0]; rfl) h.kb.du (fun i hi => match i, hi with
        | 0, _ => v0_ok
        | 1, _ => v0_ok
        | 2, _ => v0_ok
        | 3, _ => v0_ok
        | i + 4, h => absurd h (by omega))
    · intro i hi
      exact match i, hi with
      | 0, _ => rfl
      | 1, _ => rfl
      | 2, _ => rfl
      | 3, _ => rfl
      | i + 4, h => absurd h (by omega)
  | succ k =>
    have hr := (Bool.and_eq_true_iff.1 (RU1 _ h.k16 2 (by decide))).2
    unfold run11 at hr
    have hc := h.kb.c (by omega)
    have hpl := h.kb.pl (by omega)
    have hy : (nb b (r1 (k + 1) 2 1) 0).d = (b 0).d ++ [enR (((b 0).d.length : Int) + 1) 1 1 (b 2).i (b 3).i 0 0 (2 : Nat) (b 24).b (b 25).s false (nb b (r1 (k + 1) 2 1) 25).s] := rfl
    refine (Tri.run (codeM _ _) (envR_ok (facts_app fg (facts_app (fIn1_ok h hl hlt) (fb4_ok h.kb)))) hr (ren_nb (r := r1_121) (by decide))).post fun e a w hq => ⟨hq.1, (k + 1) ||| 2 ^ 2, _, nb b (r1 (k + 1) 2 1), ⟨h.next (s := 2) hlt (by decide) hy ?_ rfl rfl rfl ?_, rfl⟩, hq.2⟩
    · exact h.kb.next (by decide) (by omega) rfl ⟨by omega, by omega⟩ (hc 2 (by decide)) (show VCell false _ from v0_ok) hy rfl rfl rfl rfl h.kb.du (fun i hi => match i, hi with
        | 0, _ => hc 0 (by decide)
        | 1, _ => hc 1 (by decide)
        | 2, _ => v0_ok
        | 3, _ => hc 3 (by decide)
        | i + 4, h => absurd h (by omega))
    · intro i hi
      unfold pc
      rw [if_neg or_ne]
      exact match i, hi with
      | 0, _ => rfl
      | 1, _ => rfl
      | 2, _ => rfl
      | 3, _ => rfl
      | i + 4, h => absurd h (by omega)
theorem rd1_30 (h : JW d50 k H b) (hl : d50.length ≤ 30) (hlt : (b 7).i < d50.length) {x : Int} (hx : (vb b g z).i (.f2 (100 + 0) (.v 50) (.v 7)) = x) (x0 : 0 ≤ x) (x1 : x ≤ 255) (hs : x.tmod 4 = 3) (y0 : 0 ≤ x) (y1 : x ≤ 200) :
    Tri Tryz.prog N chB (At w0 N (vb b g z) (st1 k)) fun e a w => e = .normal ∧ ∃ k' H' b', (JW d50 k' H' b' ∧ (b' 7).i = (b 7).i + 1) ∧ At w0 N (vb b' g z) (st1 k') a w := by
  have r26 : (vb b g z).i (.f2 3 (.f2 (100 + 0) (.v 50) (.v 7)) (.num 26)) = x.tmod 26 := by rw [(vb_std b g z).rem, hx]; rfl
  have m26 := tmod26 x0
  have fg : ∀ f ∈ fg10 3, f.holds QR (vb b g z) := facts_cons (by show (3 : Int) ≤ (vb b g z).i (.f2 3 (.f2 (100 + 0) (.v 50) (.v 7)) (.num 4)) ∧ (vb b g z).i (.f2 3 (.f2 (100 + 0) (.v 50) (.v 7)) (.num 4)) ≤ 3; rw [(vb_std b g z).rem, hx]; show (3 : Int) ≤ x.tmod 4 ∧ x.tmod 4 ≤ 3; omega)
    (facts_cons (by show (0 : Int) ≤ (vb b g z).i (.f2 (100 + 0) (.v 50) (.v 7)) ∧ (vb b g z).i (.f2 (100 + 0) (.v 50) (.v 7)) ≤ 200; rw [hx]; omega) (facts_cons (by show (0 : Int) ≤ (vb b g z).i (.f2 3 (.f2 (100 + 0) (.v 50) (.v 7)) (.num 26)) ∧ (vb b g z).i (.f2 3 (.f2 (100 + 0) (.v 50) (.v 7)) (.num 26)) ≤ 25; rw [r26]; omega)
    (facts_cons (by show (1 : Int) ≤ ((((vb b g z).s (.f1 10 (.f2 1000 (.f2 3 (.f2 (100 + 0) (.v 50) (.v 7)) (.num 26)) (.num 97)))).size : Nat) : Int) ∧ ((((vb b g z).s (.f1 10 (.f2 1000 (.f2 3 (.f2 (100 + 0) (.v 50) (.v 7)) (.num 26)) (.num 97)))).size : Nat) : Int) ≤ 1; rw [(vb_std b g z).byt, size_one]; decide) facts_nil)))
  have hn := h.n
  have hla := h.kb.la
  cases k with
  | zero =>
    have hr := (Bool.and_eq_true_iff.1 (RU1 _ h.k16 3 (by decide))).1
    unfold run10 at hr
    have e0 : (b 0).d = [] := List.eq_nil_of_length_eq_zero (h.kb.k0.1 rfl)
    have hy : (nb b (r1 0 3 0) 0).d = (b 0).d ++ [enR (((b 0).d.length : Int) + 1) 1 1 (b 2).i 0 0 0 (3 : Nat) false ⟨#[]⟩ true (nb b (r1 0 3 0) 27).s] := by rw [e0]; rfl
    refine (Tri.run (codeM _ _) (envR_ok (facts_app fg (facts_app (fIn1_ok h hl hlt) (fb4_ok h.kb)))) hr (ren_nb (by decide))).post fun e a w hq => ⟨hq.1, 0 ||| 2 ^ 3, _, nb b (r1 0 3 0), ⟨h.next (s := 3) hlt (by decide) hy ?_ rfl rfl rfl ?_, rfl⟩, hq.2⟩
    · exact h.kb.next (by decide) (by omega) rfl ⟨by omega, by omega⟩ v0_ok (show VCell true _ from (v1_ok _)) hy rfl (by rw [h.kb.q, e0]; rfl) (by rw [e0]; rfl) (by rw [e0]; rfl) h.kb.du (fun i hi => match i, hi with
        | 0, _ => v0_ok
        | 1, _ => v0_ok
        | 2, _ => v0_ok
        | 3, _ => (v1_ok _)
        | i + 4, h => absurd h (by omega))
    · intro i hi
      exact match i, hi with
      | 0, _ => rfl
      | 1, _ => rfl
      | 2, _ => rfl
      | 3, _ => rfl
      | i + 4, h => absurd h (by omega)
  | succ k =>
    have hr := (Bool.and_eq_true_iff.1 (RU1 _ h.k16 3 (by decide))).1
    unfold run10 at hr
    have hc := h.kb.c (by omega)
    have hpl := h.kb.pl (by omega)
    have hy : (nb b (r1 (k + 1) 3 0) 0).d = (b 0).d ++ [enR (((b 0).d.length : Int) + 1) 1 1 (b 2).i (b 3).i 0 0 (3 : Nat) (b 26).b (b 27).s true (nb b (r1 (k + 1) 3 0) 27).s] := rfl
    refine (Tri.run (codeM _ _) (envR_ok (facts_app fg (facts_app (fIn1_ok h hl hlt) (fb4_ok h.kb)))) hr (ren_nb (r := r1_130) (by decide))).post fun e a w hq => ⟨hq.1, (k + 1) ||| 2 ^ 3, _, nb b (r1 (k + 1) 3 0), ⟨h.next (s := 3) hlt (by decide) hy ?_ rfl rfl rfl ?_, rfl⟩, hq.2⟩
    · exact h.kb.next (by decide) (by omega) rfl ⟨by omega, by omega⟩ (hc 3 (by decide)) (show VCell true _ from (v1_ok _)) hy rfl rfl rfl rfl h.kb.du (fun i hi => match i, hi with
        | 0, _ => hc 0 (by decide)
        | 1, _ => hc 1 (by decide)
        | 2, _ => hc 2 (by decide)
        | 3, _ => (v1_ok _)
        | i + 4, h => absurd h (by omega))
    · intro i hi
      unfold pc
      rw [if_neg or_ne]
      exact match i, hi with
      | 0, _ => rfl
      | 1, _ => rfl
      | 2, _ => rfl
      | 3, _ => rfl
      | i + 4, h => absurd h (by omega)
theorem rd1_31 (h : JW d50 k H b) (hl : d50.length ≤ 30) (hlt : (b 7).i < d50.length) {x : Int} (hx : (vb b g z).i (.f2 (100 + 0) (.v 50) (.v 7)) = x) (x0 : 0 ≤ x) (x1 : x ≤ 255) (hs : x.tmod 4 = 3) (y0 : 201 ≤ x) (y1 : x ≤ 255) :
    Tri Tryz.prog N chB (At w0 N (vb b g z) (st1 k)) fun e a w => e = .normal ∧ ∃ k' H' b', (JW d50 k' H' b' ∧ (b' 7).i = (b 7).i + 1) ∧ At w0 N (vb b' g z) (st1 k') a w := by
  have r26 : (vb b g z).i (.f2 3 (.f2 (100 + 0) (.v 50) (.v 7)) (.num 26)) = x.tmod 26 := by rw [(vb_std b g z).rem, hx]; rfl
  have m26 := tmod26 x0
  have fg : ∀ f ∈ fg11 3, f.holds QR (vb b g z) := facts_cons (by show (3 : Int) ≤ (vb b g z).i (.f2 3 (.f2 (100 + 0) (.v 50) (.v 7)) (.num 4)) ∧ (vb b g z).i (.f2 3 (.f2 (100 + 0) (.v 50) (.v 7)) (.num 4)) ≤ 3; rw [(vb_std b g z).rem, hx]; show (3 : Int) ≤ x.tmod 4 ∧ x.tmod 4 ≤ 3; omega)
    (facts_cons (by show (201 : Int) ≤ (vb b g z).i (.f2 (100 + 0) (.v 50) (.v 7)) ∧ (vb b g z).i (.f2 (100 + 0) (.v 50) (.v 7)) ≤ 255; rw [hx]; omega) (facts_cons (by show (0 : Int) ≤ (vb b g z).i (.f2 3 (.f2 (100 + 0) (.v 50) (.v 7)) (.num 26)) ∧ (vb b g z).i (.f2 3 (.f2 (100 + 0) (.v 50) (.v 7)) (.num 26)) ≤ 25; rw [r26]; omega)
    (facts_cons (by show (1 : Int) ≤ ((((vb b g z).s (.f1 10 (.f2 1000 (.f2 3 (.f2 (100 + 0) (.v 50) (.v 7)) (.num 26)) (.num 97)))).size : Nat) : Int) ∧ ((((vb b g z).s (.f1 10 (.f2 1000 (.f2 3 (.f2 (100 + 0) (.v 50) (.v 7)) (.num 26)) (.num 97)))).size : Nat) : Int) ≤ 1; rw [(vb_std b g z).byt, size_one]; decide) facts_nil)))
  have hn := h.n
  have hla := h.kb.la
  cases k with
  | zero =>
    have hr := (Bool.and_eq_true_iff.1 (RU1 _ h.k16 3 (by decide))).2
    unfold run11 at hr
    have e0 : (b 0).d = [] := List.eq_nil_of_length_eq_zero (h.kb.k0.1 rfl)
    have hy : (nb b (r1 0 3 1) 0).d = (b 0).d ++ [enR (((b 0).d.length : Int) + 1) 1 1 (b 2).i 0 0 0 (3 : Nat) false ⟨#[]⟩ false (nb b (r1 0 3 1) 27).s] := by rw [e0]; rfl
    refine (Tri.run (codeM _ _) (envR_ok (facts_app fg (facts_app (fIn1_ok h hl hlt) (fb4_ok h.kb)))) hr (ren_nb (by decide))).post fun e a w hq => ⟨hq.1, 0 ||| 2 ^ 3, _, nb b (r1 0 3 1), ⟨h.next (s := 3) hlt (by decide) hy ?_ rfl rfl rfl ?_, rfl⟩, hq.2⟩
    · exact h.kb.next (by decide) (by omega) rfl ⟨by omega, by omega⟩ v0_ok (show VCell false _ from v0_ok) hy rfl (by rw [h.kb.q, e0]; rfl) (by rw [e0]; rfl) (by rw [e0]; rfl) h.kb.du (fun i hi => match i, hi with
        | 0, _ => v0_ok
        | 1, _ => v0_ok
        | 2, _ => v0_ok
        | 3, _ => v0_ok
        | i + 4, h => absurd h (by omega))
    · intro i hi
      exact match i, hi with
      | 0, _ => rfl
      | 1, _ => rfl
      | 2, _ => rfl
      | 3, _ => rfl
      | i + 4, h => absurd h (by omega)
  | succ k =>
    have hr := (Bool.and_eq_true_iff.1 (RU1 _ h.k16 3 (by decide))).2
    unfold run11 at hr
    have hc := h.kb.c (by omega)
    have hpl := h.kb.pl (by omega)
    have hy : (nb b (r1 (k + 1) 3 1) 0).d = (b 0).d ++ [enR (((b 0).d.length : Int) + 1) 1 1 (b 2).i (b 3).i 0 0 (3 : Nat) (b 26).b (b 27).s false (nb b (r1 (k + 1) 3 1) 27).s] := rfl
    refine (Tri.run (codeM _ _) (envR_ok (facts_app fg (facts_app (fIn1_ok h hl hlt) (fb4_ok h.kb)))) hr (ren_nb (r := r1_131) (by decide))).post fun e a w hq => ⟨hq.1, (k + 1) ||| 2 ^ 3, _, nb b (r1 (k + 1) 3 1), ⟨h.next (s := 3) hlt (by decide) hy ?_ rfl rfl rfl ?_, rfl⟩, hq.2⟩
    · exact h.kb.next (by decide) (by omega) rfl ⟨by omega, by omega⟩ (hc 3 (by decide)) (show VCell false _ from v0_ok) hy rfl rfl rfl rfl h.kb.du (fun i hi => match i, hi with
        | 0, _ => hc 0 (by decide)
        | 1, _ => hc 1 (by decide)
        | 2, _ => hc 2 (by decide)
        | 3, _ => v0_ok
        | i + 4, h => absurd h (by omega))
    · intro i hi
      unfold pc
      rw [if_neg or_ne]
      exact match i, hi with
      | 0, _ => rfl
      | 1, _ => rfl
      | 2, _ => rfl
      | 3, _ => rfl
      | i + 4, h => absurd h (by omega)
theorem round1 (h : JW d50 k H b) (hb : Byt d50) (hl : d50.length ≤ 30) (hlt : (b 7).i < d50.length) : Tri Tryz.prog N chB (At w0 N (vb b g z) (st1 k)) fun e a w => e = .normal ∧ ∃ k' H' b', (JW d50 k' H' b' ∧ (b' 7).i = (b 7).i + 1) ∧ At w0 N (vb b' g z) (st1 k') a w := by
  obtain ⟨i, hi⟩ := Int.eq_ofNat_of_zero_le h.i0
  obtain ⟨row, hrow⟩ := list_cases (d := d50) (i := i) (by omega)
  obtain ⟨x, rfl, x0, x1⟩ := hb i row hrow
  have hy : ((vb b g z).d (.v 50))[i]? = some [DV.i x] := (congrArg (fun x : List (List DV) => x[i]?) h.f).trans hrow
  have hx : (vb b g z).i (.f2 (100 + 0) (.v 50) (.v 7)) = x := ci_row hy (show (vb b g z).i (.v 7) = i from hi) 0 (by decide) rfl
  by_cases hd : x ≤ 200
  · rcases tmod_cases4 x0 with hs | hs | hs | hs
    · exact rd1_00 h hl hlt hx x0 x1 hs x0 hd
    · exact rd1_10 h hl hlt hx x0 x1 hs x0 hd
    · exact rd1_20 h hl hlt hx x0 x1 hs x0 hd
    · exact rd1_30 h hl hlt hx x0 x1 hs x0 hd
  · rcases tmod_cases4 x0 with hs | hs | hs | hs
    · exact rd1_01 h hl hlt hx x0 x1 hs (by omega) x1
    · exact rd1_11 h hl hlt hx x0 x1 hs (by omega) x1
    · exact rd1_21 h hl hlt hx x0 x1 hs (by omega) x1
    · exact rd1_31 h hl hlt hx x0 x1 hs (by omega) x1
theorem nb_all {r : Rn} (h : r.idEx [] = true) : nb b r = b := funext fun n => nb_id h rfl
theorem Tri.pre_loop {E : Env} {T : Tab} {n : Nat} (hcode : CodeOk Tryz.prog E T n) {ρ ρ' : Vn} (he : EnvOk E ρ) {j : Nat} {ac r x y : ACd} {l : List ACd} (hcut : cutA j ac = some (l, .seq (.seq r x) y)) {s s' : Lit} {m : List (Bid × Bid)} {nm : Nms} (hend : endsAt .nrm m nm s' (runL Tryz.prog E T n (l ++ [r]) s.frame s.hp) = true) (hr : Ren ρ ρ' nm)
    {Mid : Act → World → Prop} {Post : Exit → Act → World → Prop} (hx : Tri Tryz.prog N x (At w0 N ρ' s') fun e a w => (e = .normal ∧ Mid a w) ∨ (e ≠ .normal ∧ Post e a w)) (hy : Tri Tryz.prog N y Mid Post) : Tri Tryz.prog N ac (At w0 N ρ s) Post := by
  have split : ∀ (l : List ACd) (fr : Fr) (h : Hp) (fr' : Fr) (h' : Hp), runL Tryz.prog E T n (l ++ [r]) fr h = .nrm fr' h' → ∃ fr1 h1, runL Tryz.prog E T n l fr h = .nrm fr1 h1 ∧ aev Tryz.prog E T n r fr1 h1 = .nrm fr' h' := by
    intro l
    induction l with
    | nil =>
      intro fr h fr' h' e
      refine ⟨fr, h, rfl, ?_⟩
      have e' : RC.casesOn (motive := fun _ => RC) (aev Tryz.prog E T n r fr h) .no RC.nrm (fun _ _ _ => .no) (fun _ _ => .no) = .nrm fr' h' := e
      cases hc : aev Tryz.prog E T n r fr h with
      | nrm f q => rw [hc] at e'; exact e'
      | no => rw [hc] at e'; cases e'
      | ex i f q => rw [hc] at e'; cases e'
      | ret f q => rw [hc] at e'; cases e'
    | cons c l ih =>
      intro fr h fr' h' e
      have e' : RC.casesOn (motive := fun _ => RC) (aev Tryz.prog E T n c fr h) .no (runL Tryz.prog E T n (l ++ [r])) (fun _ _ _ => .no) (fun _ _ => .no) = .nrm fr' h' := e
      cases hc : aev Tryz.prog E T n c fr h with
      | nrm f q =>
        rw [hc] at e'
        obtain ⟨f1, q1, k1, k2⟩ := ih f q fr' h' e'
        refine ⟨f1, q1, ?_, k2⟩
        show RC.casesOn (motive := fun _ => RC) (aev Tryz.prog E T n c fr h) .no (runL Tryz.prog E T n l) (fun _ _ _ => .no) (fun _ _ => .no) = _
        rw [hc]; exact k1
      | no => rw [hc] at e'; cases e'
      | ex i f q => rw [hc] at e'; cases e'
      | ret f q => rw [hc] at e'; cases e'
  cases hrun : runL Tryz.prog E T n (l ++ [r]) s.frame s.hp with
  | no => rw [hrun] at hend; cases hend
  | ex id f q => rw [hrun] at hend; cases hend
  | ret f q => rw [hrun] at hend; cases hend
  | nrm fr' h' =>
    rw [hrun] at hend
    obtain ⟨fr1, h1, k1, k2⟩ := split l _ _ _ _ hrun
    refine Tri.preH hcode he (r := .seq (.seq r x) y) (fr' := fr1) (h' := h1) ?_ hcut k1
    refine Tri.seq (Mid := Mid) ?_ hy
    refine Tri.seq (Mid := At w0 N ρ' s') ?_ hx
    intro c hcc a w hat
    obtain ⟨φ, q1, q2, q3, q4, q5⟩ := hat
    refine wp_mono (hcode N c r hcc fr1 h1 _ k2 (by simp) ρ φ a w he q1 q2 q5) ?_
    rintro e a' w' ⟨rfl, φ', p1, p2, p3, p4⟩
    exact ⟨trivial, .inl ⟨rfl, At.fits hend hr p1 p2.rel (q3.step p2) (p3.trans q4) (by omega)⟩⟩
theorem loop1 (hb : Byt d50) (hl0 : 1 ≤ d50.length) (hl : d50.length ≤ 30) : Tri Tryz.prog N (.block 0 (.loop chB)) (fun a w => ∃ j : Nat × List Wr × (Nat → MV), JW d50 j.1 j.2.1 j.2.2 ∧ At w0 N (vb j.2.2 g z) (st1 j.1) a w) fun e a w => e = .normal ∧ ∃ k H b, (JW d50 k H b ∧ (b 7).i = d50.length ∧ k ≠ 0) ∧ At w0 N (vb b g z) (st1x k) a w := by
  refine Tri.block ?_
  refine (Tri.loop (Post := fun e a w => e = .exit 0 ∧ ∃ k H b, (JW d50 k H b ∧ (b 7).i = d50.length ∧ k ≠ 0) ∧ At w0 N (vb b g z) (st1x k) a w) (fun j : Nat × List Wr × (Nat → MV) => d50.length - (j.2.2 7).i.toNat) (fun j a w => JW d50 j.1 j.2.1 j.2.2 ∧ At w0 N (vb j.2.2 g z) (st1 j.1) a w) fun j => Tri.imp fun hj => ?_).post fun e a w h => .inl ⟨.inr h.1, rfl, h.2⟩
  obtain ⟨k, H, b⟩ := j
  have hj : JW d50 k H b := hj
  have h0 := hj.i0
  have h1 := hj.i1
  have h2 := hj.n
  by_cases hlt : (b 7).i < d50.length
  · refine (round1 hj hb hl hlt).post fun e a w hq => .inl ⟨hq.1, ?_⟩
    obtain ⟨_, k', H', b', ⟨h1, h2⟩, h3⟩ := hq
    exact ⟨(k', H', b'), (by show d50.length - (b' 7).i.toNat < d50.length - (b 7).i.toNat; rw [h2]; omega), h1, h3⟩
  · have hk : k ≠ 0 := fun e => by have := hj.kb.k0.1 e; omega
    have hr := (Bool.and_eq_true_iff.1 (RUq k hj.k16 hk)).1
    unfold run1x at hr
    have hid : rx1.idEx [] = true := by decide
    refine (Tri.run (codeM _ _) (envR_ok (fOut1_ok hj hl hlt)) hr (ren_nb (by decide))).post fun e a w hq => .inr ⟨by rw [hq.1]; exact fun h => (nomatch h), hq.1, k, H, b, ⟨hj, by omega, hk⟩, ?_⟩
    have := hq.2
    rw [nb_all hid] at this
    exact this
def kcOf (s : Lit) : List AC := match s.mem with
  | (_, .cells c) :: _ => c
  | _ => []
def kc (k : Nat) : List AC := kcOf (stCo k)
theorem retK (k : Nat) : retOf chRes (stCo k).frame (stCo k).hp = .ok (.t [.a (kc k), .c (.i .i64 (.ofNat 1)), .c (.b true)]) (stCo k).hp := by kernel_rfl
def Cfin (g : Nm → Value) (z : Nat → Option Obj) (d50 : List (List DV)) (ρ : Vn) (v : AV) (h : Hp) : Prop := ∃ k H b, (k ≠ 0 ∧ JB d50.length k H [] b ∧ (b 50).d = d50) ∧ ρ = vb b g z ∧ v = .t [.a (kc k), .c (.i .i64 (.ofNat 1)), .c (.b true)] ∧ h = (stCo k).hp
theorem nab (b : Nat → MV) : (nb b rab 0).d = (b 0).d ++ [enR (((b 0).d.length : Int) + 1) 4 1 (b 2).i 0 0 0 0 false ⟨#[]⟩ false ⟨#[]⟩] ∧ (nb b rab 1).d = (b 1).d ∧ (nb b rab 2).i = ((b 0).d.length : Int) + 1 ∧ (nb b rab 3).i = (b 3).i ∧ (nb b rab 4).i = (b 4).i ∧ (nb b rab 50).d = (b 50).d := ⟨rfl, rfl, rfl, rfl, rfl, rfl⟩
theorem nabc (b : Nat → MV) : ∀ i, i < 4 → ((nb b rab (20 + 2 * i)).b, (nb b rab (21 + 2 * i)).s) = ((b (20 + 2 * i)).b, (b (21 + 2 * i)).s)
  | 0, _ => rfl
  | 1, _ => rfl
  | 2, _ => rfl
  | 3, _ => rfl
  | i + 4, h => absurd h (by omega)
theorem fC_ok (h50 : (b 50).d = d50) (hl0 : 1 ≤ d50.length) (hl : d50.length ≤ 30) : ∀ f ∈ fC, f.holds QR (vb b g z) := facts_cons ⟨(by show (1 : Int) ≤ (((b 50).d.length : Nat) : Int); rw [h50]; omega), (by show (((b 50).d.length : Nat) : Int) ≤ 30; rw [h50]; omega)⟩ facts_nil
theorem chg_tri (hb : Byt d50) (hl0 : 1 ≤ d50.length) (hl : d50.length ≤ 30) (h50 : (b 50).d = d50) : Tri Tryz.prog N chBody (At w0 N (vb b g z) sC0) fun e a w => e = .ret ∧ ∃ ρ' s' v, retOf chRes s'.frame s'.hp = .ok v s'.hp ∧ Cfin g z d50 ρ' v s'.hp ∧ At w0 N ρ' s' a w := by
  have hcut : cutA 5 chBody = some (cutL 5 chBody, .seq (.seq chRi (.block (nat_lit 0) (.loop chB))) chRe) := by rw [← chX_eq]; exact chCut
  refine Tri.pre_loop (codeC _ _) (envR_ok (fC_ok h50 hl0 hl)) hcut runS (ren_nb (by decide)) (Mid := fun a w => ∃ k H b, (JW d50 k H b ∧ (b 7).i = d50.length ∧ k ≠ 0) ∧ At w0 N (vb b g z) (st1x k) a w) ?_ ?_
  · refine ((loop1 hb hl0 hl).pre fun a w hat => ⟨(0, [], nb b rS), ?_, hat⟩).post fun e a w h => .inl h
    exact ⟨h50, (by show (((b 50).d.length : Nat) : Int) = _; rw [h50]), (by show (0 : Int) ≤ 0; omega), (by show (0 : Int) ≤ _; omega), rfl, rfl, (show (0 : Nat) < 16 by decide),
      ⟨⟨(show (0 : Nat) ≤ 4000 by decide), fun i row hr => (nomatch hr)⟩, (show (0 : Nat) ≤ 900 by decide), rfl, fun h => absurd rfl h, rfl, rfl, Nat.le_refl _, ⟨fun _ => rfl, fun _ => rfl⟩, fun h => absurd rfl h⟩, fun j x hx => (nomatch hx), ⟨_, Ch.nil, fun i hi => rfl⟩, fun x hx => (nomatch hx), fun s hs hb => by rw [Nat.zero_testBit] at hb; cases hb⟩
  · refine Tri.ex fun k => Tri.ex fun H => Tri.ex fun b' => Tri.imp fun hk => ?_
    obtain ⟨h1, h7, hk0⟩ := hk
    have hr := (Bool.and_eq_true_iff.1 (Bool.and_eq_true_iff.1 (RUq k h1.k16 hk0)).2).1
    unfold runAb at hr
    obtain ⟨e0, e1, e2, e3, e4, e50⟩ := nab b'
    obtain ⟨_, hB⟩ := h1.abort h7 hl0 hl e0 e1 e2 e3 e4 (nabc b')
    have hset : PSet (nb b' rab 0).d (b' 1).d k := by
      have := pset (k := k) hB.y hB.rw (by rw [hB.len]; have := hB.hn; omega) hB.ks
      rw [← hB.q, e1] at this
      exact this
    have fa : ∀ f ∈ fAB k, f.holds QR (vb b' g z) := facts_cons (show PSet (nb b' rab 0).d (b' 1).d ((k : Int)).toNat from hset) facts_nil
    exact (Tri.run (codeM _ _) (envR_ok (facts_app fa (fb4_ok h1.kb))) hr (ren_nb (by decide))).post fun e a w hq => ⟨hq.1, vb (nb b' rab) g z, stCo k, _, retK k, ⟨k, H, nb b' rab, ⟨hk0, hB, e50.trans h1.f⟩, rfl, rfl, rfl⟩, hq.2⟩
def lc1 : List AOp := (regA lwRC).take (nat_lit 1)
def lc2 : List AOp := (regA lwRC).drop (nat_lit 2)
theorem lwRC_eq : lwRC = .reg (lc1 ++ ⟨some (.x2, .x5), .call ⟨.x0, .x0, .x8⟩ [.t .x2 .x4, .k (.c (.b true))], none⟩ :: lc2) := by kernel_rfl
noncomputable def callL : CallF := callBy (tblM []) (aev Tryz.prog (envR []) (tblM []) (nat_lit 60))
theorem runC1 : endsR [] rPc.nms sPL (aregion Tryz.prog (envR []) callL lc1 sP0.frame sP0.hp) = true := by kernel_rfl
theorem evsC : evs sPL.frame [.t .x2 .x4, .k (.c (.b true))] = some [.c (.ds (.i .u8 .nil) (.v 50)), .c (.b true)] := by kernel_rfl
theorem RUA : ∀ k, k < 16 → k ≠ 0 → endsR (at2 tm k 2) rA.nms (stA k) (aregion Tryz.prog (envR []) callL lc2 (setDst (some (.x2, .x5)) (.t [.a (kc k), .c (.i .i64 (.ofNat 1)), .c (.b true)]) sPL.frame) (stCo k).hp) = true
  | 0, _ => fun h => absurd rfl h
  | 1, _ => fun _ => by kernel_rfl
  | 2, _ => fun _ => by kernel_rfl
  | 3, _ => fun _ => by kernel_rfl
  | 4, _ => fun _ => by kernel_rfl
  | 5, _ => fun _ => by kernel_rfl
  | 6, _ => fun _ => by kernel_rfl
  | 7, _ => fun _ => by kernel_rfl
  | 8, _ => fun _ => by kernel_rfl
  | 9, _ => fun _ => by kernel_rfl
  | 10, _ => fun _ => by kernel_rfl
  | 11, _ => fun _ => by kernel_rfl
  | 12, _ => fun _ => by kernel_rfl
  | 13, _ => fun _ => by kernel_rfl
  | 14, _ => fun _ => by kernel_rfl
  | 15, _ => fun _ => by kernel_rfl
  | k + 16, h => absurd h (by omega)
theorem call_tri (hb : Byt d50) (hl0 : 1 ≤ d50.length) (hl : d50.length ≤ 30) (h50 : (b 50).d = d50) : Tri Tryz.prog N lwRC (At w0 N (vb b g z) sP0) fun e a w => e = .normal ∧ ∃ z' k H b', (k ≠ 0 ∧ JB d50.length k H [] b' ∧ (b' 50).d = d50) ∧ At w0 N (vb b' g z') (stA k) a w := by
  rw [lwRC_eq]
  refine Tri.regcallM (call := callL) (call2 := callL) (E2 := envR []) (callM [] _) (callM [] _) (envR_ok facts_nil) runC1 (ren_nb (by decide)) evsC ?_
  intro φ tmps w us hf hr ho hu
  cases hu with
  | @cons _ v1 _ _ x1 t1 =>
    cases t1 with
    | @cons _ v2 _ _ x2 t2 =>
      cases t2
      have e50 : (nb b rPc 50).d = d50 := h50
      have y1 : SlD φ.z (.i .u8 .nil) (nb b rPc 50).d v1 := x1
      refine (law_mem (ρ := vb (nb b rPc) g φ.z) (s0 := sC0) (ac := chBody) (res := chRes) (args := [.c (.ds (.i .u8 .nil) (.v 50)), .c (.b true)]) (Fin := Cfin g φ.z d50) Tryz.func8 (by kernel_rfl) ⟨_, rfl, rfl⟩ rfl (.cons y1 (.cons x2 .nil)) w (fun b x hb => (hr.frz.at_ b x hb).1) (chg_tri hb hl0 hl e50)).mono ?_
      rintro e w' ⟨u, ρ', φ', v, h', rfl, ⟨k, H, b', ⟨hk0, h1, h2⟩, rfl, rfl, rfl⟩, hvu, hr', ho'⟩
      refine ⟨u, rfl, vb b' g φ.z, φ', _, _, envR_ok facts_nil, ?_, hvu, hr', ?_, stA k, _, _, vb b' g φ.z, RUA k h1.ks.lt hk0, ?_, fun a w hat => ⟨rfl, φ.z, k, H, b', ⟨hk0, h1, h2⟩, hat⟩⟩
      · intro i j v hv
        obtain ⟨q1, q2⟩ := hf i j v hv
        refine ⟨q1, ?_⟩
        have hm := frame_get (l := sPL.fr) hv
        have hm' : (i, j, v) ∈ [((.x0, .x0, .c (.ds (.i .u8 .nil) (.v 50))) : D16 × D16 × AV), (.x2, .x4, .c (.ds (.i .u8 .nil) (.v 50)))] := hm
        have hz : ∀ b x, φ.z b = some x → φ'.z b = some x := hr'.frz.zin
        have s50 : ∀ x, VV (vb (nb b rPc) g z) φ (.c (.ds (.i .u8 .nil) (.v 50))) x → VV (vb b' g φ.z) φ' (.c (.ds (.i .u8 .nil) (.v 50))) x := fun x hx => by
          have hx' : SlD φ.z (.i .u8 .nil) (nb b rPc 50).d x := hx
          rw [e50, ← h2] at hx'
          exact SlG.le hz (RowD.le hz _) hx'
        simp only [List.mem_cons, List.not_mem_nil, or_false, Prod.mk.injEq] at hm'
        rcases hm' with ⟨rfl, rfl, rfl⟩ | ⟨rfl, rfl, rfl⟩
        · exact s50 _ q2
        · exact s50 _ q2
      · exact ⟨fun b hb => (ho'.old b (Nat.lt_of_lt_of_le hb ho.size)).trans (ho.old b hb), Nat.le_trans ho.size ho'.size, ho'.os.trans ho.os, ho'.tape.trans ho.tape, ho'.output.trans ho.output, fun id x hi hx => Nat.le_trans ho.size (ho'.live id x hi hx)⟩
      · have hid : rA.idEx [] = true := by decide
        have := ren_nb (b := b') (g := g) (z := φ.z) (r := rA) (by decide)
        rw [nb_all hid] at this
        exact this
end
end Go.Proofs.YtnofmmceafkkoaaGreat
