/-
  RollbackEnds: the walk over the runs (printed by a program).
-/
import Derived.Test.YtnofmmceafkkoaaGreatEdR0
import Derived.Test.YtnofmmceafkkoaaGreatEdR1
import Derived.Test.YtnofmmceafkkoaaGreatEdR2
import Derived.Test.YtnofmmceafkkoaaGreatEdR3
import Derived.Test.YtnofmmceafkkoaaGreatEdP
set_option linter.unusedVariables false
set_option linter.unusedSimpArgs false
set_option maxRecDepth 100000
namespace Go.Proofs.YtnofmmceafkkoaaGreat
open Go.RowKit
theorem four {p : Nat → Bool} (a : p 0 = true) (b : p 1 = true) (c : p 2 = true) (d : p 3 = true) : ∀ s, s < 4 → p s = true
  | 0, _ => a
  | 1, _ => b
  | 2, _ => c
  | 3, _ => d
  | s + 4, h => absurd h (by omega)
theorem five {p : Nat → Bool} (a : p 0 = true) (b : p 1 = true) (c : p 2 = true) (d : p 3 = true) (e : p 4 = true) : ∀ s, s < 5 → p s = true
  | 0, _ => a
  | 1, _ => b
  | 2, _ => c
  | 3, _ => d
  | 4, _ => e
  | s + 5, h => absurd h (by omega)
theorem pick {p : Nat → Bool} {k : Nat} (l : List (PSigma fun s => p s = true)) (h : (List.range 5).all (fun s => !Nat.testBit k s || l.any fun x => decide (x.1 = s)) = true) : ∀ s, s < 5 → Nat.testBit k s = true → p s = true := by
  intro s hs hb
  have h1 := List.all_eq_true.1 h s (List.mem_range.2 hs)
  rw [hb, Bool.not_true, Bool.false_or] at h1
  obtain ⟨⟨s', hp⟩, _, e⟩ := List.any_eq_true.1 h1
  have e := of_decide_eq_true e
  dsimp only at e
  rw [← e]; exact hp
theorem RU1 : ∀ k, k < 16 → ∀ s, s < 4 → run1 k s = true
  | 0, _ => four ru1_0_0 ru1_0_1 ru1_0_2 ru1_0_3
  | 1, _ => four ru1_1_0 ru1_1_1 ru1_1_2 ru1_1_3
  | 2, _ => four ru1_2_0 ru1_2_1 ru1_2_2 ru1_2_3
  | 3, _ => four ru1_3_0 ru1_3_1 ru1_3_2 ru1_3_3
  | 4, _ => four ru1_4_0 ru1_4_1 ru1_4_2 ru1_4_3
  | 5, _ => four ru1_5_0 ru1_5_1 ru1_5_2 ru1_5_3
  | 6, _ => four ru1_6_0 ru1_6_1 ru1_6_2 ru1_6_3
  | 7, _ => four ru1_7_0 ru1_7_1 ru1_7_2 ru1_7_3
  | 8, _ => four ru1_8_0 ru1_8_1 ru1_8_2 ru1_8_3
  | 9, _ => four ru1_9_0 ru1_9_1 ru1_9_2 ru1_9_3
  | 10, _ => four ru1_10_0 ru1_10_1 ru1_10_2 ru1_10_3
  | 11, _ => four ru1_11_0 ru1_11_1 ru1_11_2 ru1_11_3
  | 12, _ => four ru1_12_0 ru1_12_1 ru1_12_2 ru1_12_3
  | 13, _ => four ru1_13_0 ru1_13_1 ru1_13_2 ru1_13_3
  | 14, _ => four ru1_14_0 ru1_14_1 ru1_14_2 ru1_14_3
  | 15, _ => four ru1_15_0 ru1_15_1 ru1_15_2 ru1_15_3
  | k + 16, h => absurd h (by omega)
theorem RU1x : ∀ k, k < 16 → (run1x k && run1r k) = true
  | 0, _ => (Bool.and_eq_true_iff.1 ru1q_0).1
  | 1, _ => (Bool.and_eq_true_iff.1 ru1q_1).1
  | 2, _ => (Bool.and_eq_true_iff.1 ru1q_2).1
  | 3, _ => (Bool.and_eq_true_iff.1 ru1q_3).1
  | 4, _ => (Bool.and_eq_true_iff.1 ru1q_4).1
  | 5, _ => (Bool.and_eq_true_iff.1 ru1q_5).1
  | 6, _ => (Bool.and_eq_true_iff.1 ru1q_6).1
  | 7, _ => (Bool.and_eq_true_iff.1 ru1q_7).1
  | 8, _ => (Bool.and_eq_true_iff.1 ru1q_8).1
  | 9, _ => (Bool.and_eq_true_iff.1 ru1q_9).1
  | 10, _ => (Bool.and_eq_true_iff.1 ru1q_10).1
  | 11, _ => (Bool.and_eq_true_iff.1 ru1q_11).1
  | 12, _ => (Bool.and_eq_true_iff.1 ru1q_12).1
  | 13, _ => (Bool.and_eq_true_iff.1 ru1q_13).1
  | 14, _ => (Bool.and_eq_true_iff.1 ru1q_14).1
  | 15, _ => (Bool.and_eq_true_iff.1 ru1q_15).1
  | k + 16, h => absurd h (by omega)
theorem RU2 : ∀ k, k < 16 → run2 k = true
  | 0, _ => (Bool.and_eq_true_iff.1 ru1q_0).2
  | 1, _ => (Bool.and_eq_true_iff.1 ru1q_1).2
  | 2, _ => (Bool.and_eq_true_iff.1 ru1q_2).2
  | 3, _ => (Bool.and_eq_true_iff.1 ru1q_3).2
  | 4, _ => (Bool.and_eq_true_iff.1 ru1q_4).2
  | 5, _ => (Bool.and_eq_true_iff.1 ru1q_5).2
  | 6, _ => (Bool.and_eq_true_iff.1 ru1q_6).2
  | 7, _ => (Bool.and_eq_true_iff.1 ru1q_7).2
  | 8, _ => (Bool.and_eq_true_iff.1 ru1q_8).2
  | 9, _ => (Bool.and_eq_true_iff.1 ru1q_9).2
  | 10, _ => (Bool.and_eq_true_iff.1 ru1q_10).2
  | 11, _ => (Bool.and_eq_true_iff.1 ru1q_11).2
  | 12, _ => (Bool.and_eq_true_iff.1 ru1q_12).2
  | 13, _ => (Bool.and_eq_true_iff.1 ru1q_13).2
  | 14, _ => (Bool.and_eq_true_iff.1 ru1q_14).2
  | 15, _ => (Bool.and_eq_true_iff.1 ru1q_15).2
  | k + 16, h => absurd h (by omega)
theorem RU7 : ∀ k, k < 5 → run7q k = true
  | 0, _ => ru7_0
  | 1, _ => ru7_1
  | 2, _ => ru7_2
  | 3, _ => ru7_3
  | 4, _ => ru7_4
  | k + 5, h => absurd h (by omega)
theorem RU3 : ∀ k, k < 32 → k ≠ 0 → ∀ s, s < 5 → run3 k s = true
  | 0, _ => fun h => absurd rfl h
  | 1, _ => fun _ => five ru3_1_0 ru3_1_1 ru3_1_2 ru3_1_3 ru3_1_4
  | 2, _ => fun _ => five ru3_2_0 ru3_2_1 ru3_2_2 ru3_2_3 ru3_2_4
  | 3, _ => fun _ => five ru3_3_0 ru3_3_1 ru3_3_2 ru3_3_3 ru3_3_4
  | 4, _ => fun _ => five ru3_4_0 ru3_4_1 ru3_4_2 ru3_4_3 ru3_4_4
  | 5, _ => fun _ => five ru3_5_0 ru3_5_1 ru3_5_2 ru3_5_3 ru3_5_4
  | 6, _ => fun _ => five ru3_6_0 ru3_6_1 ru3_6_2 ru3_6_3 ru3_6_4
  | 7, _ => fun _ => five ru3_7_0 ru3_7_1 ru3_7_2 ru3_7_3 ru3_7_4
  | 8, _ => fun _ => five ru3_8_0 ru3_8_1 ru3_8_2 ru3_8_3 ru3_8_4
  | 9, _ => fun _ => five ru3_9_0 ru3_9_1 ru3_9_2 ru3_9_3 ru3_9_4
  | 10, _ => fun _ => five ru3_10_0 ru3_10_1 ru3_10_2 ru3_10_3 ru3_10_4
  | 11, _ => fun _ => five ru3_11_0 ru3_11_1 ru3_11_2 ru3_11_3 ru3_11_4
  | 12, _ => fun _ => five ru3_12_0 ru3_12_1 ru3_12_2 ru3_12_3 ru3_12_4
  | 13, _ => fun _ => five ru3_13_0 ru3_13_1 ru3_13_2 ru3_13_3 ru3_13_4
  | 14, _ => fun _ => five ru3_14_0 ru3_14_1 ru3_14_2 ru3_14_3 ru3_14_4
  | 15, _ => fun _ => five ru3_15_0 ru3_15_1 ru3_15_2 ru3_15_3 ru3_15_4
  | 16, _ => fun _ => five ru3_16_0 ru3_16_1 ru3_16_2 ru3_16_3 ru3_16_4
  | 17, _ => fun _ => five ru3_17_0 ru3_17_1 ru3_17_2 ru3_17_3 ru3_17_4
  | 18, _ => fun _ => five ru3_18_0 ru3_18_1 ru3_18_2 ru3_18_3 ru3_18_4
  | 19, _ => fun _ => five ru3_19_0 ru3_19_1 ru3_19_2 ru3_19_3 ru3_19_4
  | 20, _ => fun _ => five ru3_20_0 ru3_20_1 ru3_20_2 ru3_20_3 ru3_20_4
  | 21, _ => fun _ => five ru3_21_0 ru3_21_1 ru3_21_2 ru3_21_3 ru3_21_4
  | 22, _ => fun _ => five ru3_22_0 ru3_22_1 ru3_22_2 ru3_22_3 ru3_22_4
  | 23, _ => fun _ => five ru3_23_0 ru3_23_1 ru3_23_2 ru3_23_3 ru3_23_4
  | 24, _ => fun _ => five ru3_24_0 ru3_24_1 ru3_24_2 ru3_24_3 ru3_24_4
  | 25, _ => fun _ => five ru3_25_0 ru3_25_1 ru3_25_2 ru3_25_3 ru3_25_4
  | 26, _ => fun _ => five ru3_26_0 ru3_26_1 ru3_26_2 ru3_26_3 ru3_26_4
  | 27, _ => fun _ => five ru3_27_0 ru3_27_1 ru3_27_2 ru3_27_3 ru3_27_4
  | 28, _ => fun _ => five ru3_28_0 ru3_28_1 ru3_28_2 ru3_28_3 ru3_28_4
  | 29, _ => fun _ => five ru3_29_0 ru3_29_1 ru3_29_2 ru3_29_3 ru3_29_4
  | 30, _ => fun _ => five ru3_30_0 ru3_30_1 ru3_30_2 ru3_30_3 ru3_30_4
  | 31, _ => fun _ => five ru3_31_0 ru3_31_1 ru3_31_2 ru3_31_3 ru3_31_4
  | k + 32, h => absurd h (by omega)
theorem RU3q : ∀ k, k < 32 → k ≠ 0 → (run3x k && runAb k) = true
  | 0, _ => fun h => absurd rfl h
  | 1, _ => fun _ => ru3q_1
  | 2, _ => fun _ => ru3q_2
  | 3, _ => fun _ => ru3q_3
  | 4, _ => fun _ => ru3q_4
  | 5, _ => fun _ => ru3q_5
  | 6, _ => fun _ => ru3q_6
  | 7, _ => fun _ => ru3q_7
  | 8, _ => fun _ => ru3q_8
  | 9, _ => fun _ => ru3q_9
  | 10, _ => fun _ => ru3q_10
  | 11, _ => fun _ => ru3q_11
  | 12, _ => fun _ => ru3q_12
  | 13, _ => fun _ => ru3q_13
  | 14, _ => fun _ => ru3q_14
  | 15, _ => fun _ => ru3q_15
  | 16, _ => fun _ => ru3q_16
  | 17, _ => fun _ => ru3q_17
  | 18, _ => fun _ => ru3q_18
  | 19, _ => fun _ => ru3q_19
  | 20, _ => fun _ => ru3q_20
  | 21, _ => fun _ => ru3q_21
  | 22, _ => fun _ => ru3q_22
  | 23, _ => fun _ => ru3q_23
  | 24, _ => fun _ => ru3q_24
  | 25, _ => fun _ => ru3q_25
  | 26, _ => fun _ => ru3q_26
  | 27, _ => fun _ => ru3q_27
  | 28, _ => fun _ => ru3q_28
  | 29, _ => fun _ => ru3q_29
  | 30, _ => fun _ => ru3q_30
  | 31, _ => fun _ => ru3q_31
  | k + 32, h => absurd h (by omega)
theorem RU5 : ∀ k, k < 32 → ∀ s, s < 5 → Nat.testBit k s = true → run5 k s = true
  | 0, _ => pick [] rfl
  | 1, _ => pick [⟨0, ru5_1_0⟩] rfl
  | 2, _ => pick [⟨1, ru5_2_1⟩] rfl
  | 3, _ => pick [⟨0, ru5_3_0⟩, ⟨1, ru5_3_1⟩] rfl
  | 4, _ => pick [⟨2, ru5_4_2⟩] rfl
  | 5, _ => pick [⟨0, ru5_5_0⟩, ⟨2, ru5_5_2⟩] rfl
  | 6, _ => pick [⟨1, ru5_6_1⟩, ⟨2, ru5_6_2⟩] rfl
  | 7, _ => pick [⟨0, ru5_7_0⟩, ⟨1, ru5_7_1⟩, ⟨2, ru5_7_2⟩] rfl
  | 8, _ => pick [⟨3, ru5_8_3⟩] rfl
  | 9, _ => pick [⟨0, ru5_9_0⟩, ⟨3, ru5_9_3⟩] rfl
  | 10, _ => pick [⟨1, ru5_10_1⟩, ⟨3, ru5_10_3⟩] rfl
  | 11, _ => pick [⟨0, ru5_11_0⟩, ⟨1, ru5_11_1⟩, ⟨3, ru5_11_3⟩] rfl
  | 12, _ => pick [⟨2, ru5_12_2⟩, ⟨3, ru5_12_3⟩] rfl
  | 13, _ => pick [⟨0, ru5_13_0⟩, ⟨2, ru5_13_2⟩, ⟨3, ru5_13_3⟩] rfl
  | 14, _ => pick [⟨1, ru5_14_1⟩, ⟨2, ru5_14_2⟩, ⟨3, ru5_14_3⟩] rfl
  | 15, _ => pick [⟨0, ru5_15_0⟩, ⟨1, ru5_15_1⟩, ⟨2, ru5_15_2⟩, ⟨3, ru5_15_3⟩] rfl
  | 16, _ => pick [⟨4, ru5_16_4⟩] rfl
  | 17, _ => pick [⟨0, ru5_17_0⟩, ⟨4, ru5_17_4⟩] rfl
  | 18, _ => pick [⟨1, ru5_18_1⟩, ⟨4, ru5_18_4⟩] rfl
  | 19, _ => pick [⟨0, ru5_19_0⟩, ⟨1, ru5_19_1⟩, ⟨4, ru5_19_4⟩] rfl
  | 20, _ => pick [⟨2, ru5_20_2⟩, ⟨4, ru5_20_4⟩] rfl
  | 21, _ => pick [⟨0, ru5_21_0⟩, ⟨2, ru5_21_2⟩, ⟨4, ru5_21_4⟩] rfl
  | 22, _ => pick [⟨1, ru5_22_1⟩, ⟨2, ru5_22_2⟩, ⟨4, ru5_22_4⟩] rfl
  | 23, _ => pick [⟨0, ru5_23_0⟩, ⟨1, ru5_23_1⟩, ⟨2, ru5_23_2⟩, ⟨4, ru5_23_4⟩] rfl
  | 24, _ => pick [⟨3, ru5_24_3⟩, ⟨4, ru5_24_4⟩] rfl
  | 25, _ => pick [⟨0, ru5_25_0⟩, ⟨3, ru5_25_3⟩, ⟨4, ru5_25_4⟩] rfl
  | 26, _ => pick [⟨1, ru5_26_1⟩, ⟨3, ru5_26_3⟩, ⟨4, ru5_26_4⟩] rfl
  | 27, _ => pick [⟨0, ru5_27_0⟩, ⟨1, ru5_27_1⟩, ⟨3, ru5_27_3⟩, ⟨4, ru5_27_4⟩] rfl
  | 28, _ => pick [⟨2, ru5_28_2⟩, ⟨3, ru5_28_3⟩, ⟨4, ru5_28_4⟩] rfl
  | 29, _ => pick [⟨0, ru5_29_0⟩, ⟨2, ru5_29_2⟩, ⟨3, ru5_29_3⟩, ⟨4, ru5_29_4⟩] rfl
  | 30, _ => pick [⟨1, ru5_30_1⟩, ⟨2, ru5_30_2⟩, ⟨3, ru5_30_3⟩, ⟨4, ru5_30_4⟩] rfl
  | 31, _ => pick [⟨0, ru5_31_0⟩, ⟨1, ru5_31_1⟩, ⟨2, ru5_31_2⟩, ⟨3, ru5_31_3⟩, ⟨4, ru5_31_4⟩] rfl
  | k + 32, h => absurd h (by omega)
theorem cnt_ok : ∀ k, k < 16 → cnt k < 5 ∧ (cnt k = 0 → k = 0)
  | 0, _ => by decide
  | 1, _ => by decide
  | 2, _ => by decide
  | 3, _ => by decide
  | 4, _ => by decide
  | 5, _ => by decide
  | 6, _ => by decide
  | 7, _ => by decide
  | 8, _ => by decide
  | 9, _ => by decide
  | 10, _ => by decide
  | 11, _ => by decide
  | 12, _ => by decide
  | 13, _ => by decide
  | 14, _ => by decide
  | 15, _ => by decide
  | k + 16, h => absurd h (by omega)
section
variable {w0 : World} {N : Nat} {g : Nm → Value} {z : Nat → Option Obj} {b : Nat → MV} {k p n n0 m : Nat} {d50 d51 : List (List DV)} {w : Nat → Cel} {H R : List Wr}
theorem fIn1_ok (h : I1 d50 d51 k b) (hl : d50.length ≤ 20) (hlt : (b 7).i < d50.length) : ∀ f ∈ fIn1, f.holds QR (vb b g z) := by
  have h0 := h.i0
  have hn := h.ln
  have hf : (((b 50).d.length : Nat) : Int) = d50.length := by rw [h.f]
  exact facts_cons ⟨(by show (0 : Int) ≤ (b 7).i; omega), (by show (b 7).i ≤ 20; omega)⟩ (facts_cons ⟨(by show (0 : Int) ≤ (b 8).i; omega), (by show (b 8).i ≤ 20; omega)⟩ (facts_cons ⟨(by show (0 : Int) ≤ (((b 50).d.length : Nat) : Int); omega), (by show (((b 50).d.length : Nat) : Int) ≤ 20; omega)⟩
    (facts_cons ⟨(by show (-20 : Int) ≤ (b 7).i - (b 8).i; omega), (by show (b 7).i - (b 8).i ≤ -1; omega)⟩ (facts_cons ⟨(by show (-20 : Int) ≤ (b 7).i - (((b 50).d.length : Nat) : Int); omega), (by show (b 7).i - (((b 50).d.length : Nat) : Int) ≤ -1; omega)⟩ facts_nil))))
theorem fOut1_ok (h : I1 d50 d51 k b) (hl : d50.length ≤ 20) (hge : ¬ (b 7).i < d50.length) : ∀ f ∈ fOut1, f.holds QR (vb b g z) := by
  have h0 := h.i0
  have h1 := h.i1
  have hn := h.ln
  have hf : (((b 50).d.length : Nat) : Int) = d50.length := by rw [h.f]
  exact facts_cons ⟨(by show (0 : Int) ≤ (b 7).i; omega), (by show (b 7).i ≤ 20; omega)⟩ (facts_cons ⟨(by show (0 : Int) ≤ (b 8).i; omega), (by show (b 8).i ≤ 20; omega)⟩ (facts_cons ⟨(by show (0 : Int) ≤ (((b 50).d.length : Nat) : Int); omega), (by show (((b 50).d.length : Nat) : Int) ≤ 20; omega)⟩
    (facts_cons ⟨(by show (0 : Int) ≤ (b 7).i - (b 8).i; omega), (by show (b 7).i - (b 8).i ≤ 0; omega)⟩ facts_nil)))
theorem I1.next {s : Nat} {b' : Nat → MV} (h : I1 d50 d51 k b) (hl : d50.length ≤ 20) (hlt : (b 7).i < d50.length) (hs : s < 4) (hlen : (b' 0).d.length = (b 0).d.length + 1) (hk : KI 4 (k ||| 2 ^ s) ((b 0).d.length + 1) b') (h50 : (b' 50).d = (b 50).d) (h51 : (b' 51).d = (b 51).d) (h8 : (b' 8).i = (b 8).i) (h7 : (b' 7).i = (b 7).i + 1) : I1 d50 d51 (k ||| 2 ^ s) b' := by
  have h0 := h.i0
  have hn := h.n
  exact ⟨by rw [h50, h.f], by rw [h51, h.s], by rw [h8, h.ln], by omega, by omega, by rw [hlen]; omega, or_pow_lt (n := 4) h.k16 hs, by rw [hlen]; exact hk⟩
theorem I1.step {s : Nat} {b' : Nat → MV} {zb : Bool} {ad : ByteArray} {bf : Cel} {pp : Int} (h : I1 d50 d51 k b) (hl : d50.length ≤ 20) (hlt : (b 7).i < d50.length) (hs : s < 4) (hv : VCell zb ad) (hvb : VCell bf.1 bf.2) (hpp : 0 ≤ pp ∧ pp ≤ (b 0).d.length)
    (hy : (b' 0).d = (b 0).d ++ [enR (((b 0).d.length : Int) + 1) 1 1 (b 2).i pp 0 0 s bf.1 bf.2 zb ad]) (hq : (b' 1).d = (b 1).d ++ [[DV.i (((b 0).d.length : Int) + 1)]]) (h2 : (b' 2).i = ((b 0).d.length : Int) + 1) (h3 : (b' 3).i = ((b 0).d.length : Int) + 1) (h4 : (b' 4).i = (b 4).i)
    (h50 : (b' 50).d = (b 50).d) (h51 : (b' 51).d = (b 51).d) (h8 : (b' 8).i = (b 8).i) (h7 : (b' 7).i = (b 7).i + 1) (hc : ∀ i, i < 4 → VCell (b' (20 + 2 * i)).b (b' (21 + 2 * i)).s) : I1 d50 d51 (k ||| 2 ^ s) b' := by
  have hn := h.n
  have h0 := h.i0
  have hla := h.kb.la
  exact h.next hl hlt hs (by rw [hy, List.length_append]; rfl) (h.kb.next (by omega) (by omega) rfl ⟨hpp.1, hpp.2⟩ hvb hv hy rfl hq h2 h3 (h4.trans h.kb.du) hc) h50 h51 h8 h7
theorem fg1_ok {lo hi x : Int} (hx : (vb b g z).i (.f2 (100 + 0) (.v 50) (.v 7)) = x) (x0 : 0 ≤ x) {s : Nat} (hs : x.tmod 4 = s) (y0 : lo ≤ x) (y1 : x ≤ hi) : ∀ f ∈ [Fc.rng (.f2 3 (.f2 (100 + 0) (.v 50) (.v 7)) (.num 4)) s s, .rng (.f2 (100 + 0) (.v 50) (.v 7)) lo hi, .rng (.f2 3 (.f2 (100 + 0) (.v 50) (.v 7)) (.num 26)) 0 25, .rng (.f1 6 (.f1 10 (.f2 1000 (.f2 3 (.f2 (100 + 0) (.v 50) (.v 7)) (.num 26)) (.num 97)))) 1 1], f.holds QR (vb b g z) := by
  have r26 : (vb b g z).i (.f2 3 (.f2 (100 + 0) (.v 50) (.v 7)) (.num 26)) = x.tmod 26 := by rw [(vb_std b g z).rem, hx]; rfl
  have m26 := tmod26 x0
  exact facts_cons (by show (s : Int) ≤ (vb b g z).i (.f2 3 (.f2 (100 + 0) (.v 50) (.v 7)) (.num 4)) ∧ (vb b g z).i (.f2 3 (.f2 (100 + 0) (.v 50) (.v 7)) (.num 4)) ≤ s; rw [(vb_std b g z).rem, hx]; show (s : Int) ≤ x.tmod 4 ∧ x.tmod 4 ≤ s; omega)
    (facts_cons (by show lo ≤ (vb b g z).i (.f2 (100 + 0) (.v 50) (.v 7)) ∧ (vb b g z).i (.f2 (100 + 0) (.v 50) (.v 7)) ≤ hi; rw [hx]; exact ⟨y0, y1⟩) (facts_cons (by show (0 : Int) ≤ (vb b g z).i (.f2 3 (.f2 (100 + 0) (.v 50) (.v 7)) (.num 26)) ∧ (vb b g z).i (.f2 3 (.f2 (100 + 0) (.v 50) (.v 7)) (.num 26)) ≤ 25; rw [r26]; omega)
    (facts_cons (by show (1 : Int) ≤ ((((vb b g z).s (.f1 10 (.f2 1000 (.f2 3 (.f2 (100 + 0) (.v 50) (.v 7)) (.num 26)) (.num 97)))).size : Nat) : Int) ∧ ((((vb b g z).s (.f1 10 (.f2 1000 (.f2 3 (.f2 (100 + 0) (.v 50) (.v 7)) (.num 26)) (.num 97)))).size : Nat) : Int) ≤ 1; rw [(vb_std b g z).byt, size_one]; decide) facts_nil)))
theorem rd1_00 (h : I1 d50 d51 k b) (hl : d50.length ≤ 20) (hlt : (b 7).i < d50.length) {x : Int} (hx : (vb b g z).i (.f2 (100 + 0) (.v 50) (.v 7)) = x) (x0 : 0 ≤ x) (x1 : x ≤ 255) (hs : x.tmod 4 = 0) (y0 : 0 ≤ x) (y1 : x ≤ 200) :
    Tri Tryz.prog N chB (At w0 N (vb b g z) (st1 k)) fun e a w => e = .normal ∧ ∃ k' b', (I1 d50 d51 k' b' ∧ (b' 7).i = (b 7).i + 1) ∧ At w0 N (vb b' g z) (st1 k') a w := by
  have hf := facts_app (show ∀ f ∈ fg10 0, f.holds QR (vb b g z) from fg1_ok (s := 0) (lo := 0) (hi := 200) hx x0 hs y0 y1) (facts_app (fIn1_ok h hl hlt) (fb4_ok h.kb))
  have hr := (Bool.and_eq_true_iff.1 (RU1 _ h.k16 0 (by decide))).1
  unfold run10 at hr
  cases k with
  | zero =>
    have e0 : (b 0).d = [] := List.eq_nil_of_length_eq_zero (h.kb.k0.1 rfl)
    exact (Tri.run (codeM _ _) (envR_ok hf) hr (ren_nb (by decide))).post fun e a w hq => ⟨hq.1, _, nb b (r1 0 0 0), ⟨h.step (s := 0) (bf := (false, ⟨#[]⟩)) (pp := 0) (zb := true) (ad := (nb b (r1 0 0 0) 21).s) hl hlt (by decide) (v1_ok _) v0_ok (by omega) (by rw [e0]; rfl) (by rw [h.kb.q, e0]; rfl) (by rw [e0]; rfl) (by rw [e0]; rfl) rfl rfl rfl rfl rfl (fun i hi => match i, hi with
      | 0, _ => (v1_ok _)
      | 1, _ => v0_ok
      | 2, _ => v0_ok
      | 3, _ => v0_ok
      | i + 4, h => absurd h (by omega)), rfl⟩, hq.2⟩
  | succ k =>
    have hc := h.kb.c (by omega)
    have hpl := h.kb.pl (by omega)
    exact (Tri.run (codeM _ _) (envR_ok hf) hr (ren_nb (r := r1_10 0) (by decide))).post fun e a w hq => ⟨hq.1, _, nb b (r1 (k + 1) 0 0), ⟨h.step (s := 0) (bf := pcl b 0) (pp := (b 3).i) (zb := true) (ad := (nb b (r1 (k + 1) 0 0) 21).s) hl hlt (by decide) (v1_ok _) (hc 0 (by decide)) (by omega) rfl rfl rfl rfl rfl rfl rfl rfl rfl (fun i hi => match i, hi with
      | 0, _ => (v1_ok _)
      | 1, _ => hc 1 (by decide)
      | 2, _ => hc 2 (by decide)
      | 3, _ => hc 3 (by decide)
      | i + 4, h => absurd h (by omega)), rfl⟩, hq.2⟩
theorem rd1_01 (h : I1 d50 d51 k b) (hl : d50.length ≤ 20) (hlt : (b 7).i < d50.length) {x : Int} (hx : (vb b g z).i (.f2 (100 + 0) (.v 50) (.v 7)) = x) (x0 : 0 ≤ x) (x1 : x ≤ 255) (hs : x.tmod 4 = 0) (y0 : 201 ≤ x) (y1 : x ≤ 255) :
    Tri Tryz.prog N chB (At w0 N (vb b g z) (st1 k)) fun e a w => e = .normal ∧ ∃ k' b', (I1 d50 d51 k' b' ∧ (b' 7).i = (b 7).i + 1) ∧ At w0 N (vb b' g z) (st1 k') a w := by
  have hf := facts_app (show ∀ f ∈ fg11 0, f.holds QR (vb b g z) from fg1_ok (s := 0) (lo := 201) (hi := 255) hx x0 hs y0 y1) (facts_app (fIn1_ok h hl hlt) (fb4_ok h.kb))
  have hr := (Bool.and_eq_true_iff.1 (RU1 _ h.k16 0 (by decide))).2
  unfold run11 at hr
  cases k with
  | zero =>
    have e0 : (b 0).d = [] := List.eq_nil_of_length_eq_zero (h.kb.k0.1 rfl)
    exact (Tri.run (codeM _ _) (envR_ok hf) hr (ren_nb (by decide))).post fun e a w hq => ⟨hq.1, _, nb b (r1 0 0 1), ⟨h.step (s := 0) (bf := (false, ⟨#[]⟩)) (pp := 0) (zb := false) (ad := (nb b (r1 0 0 1) 21).s) hl hlt (by decide) v0_ok v0_ok (by omega) (by rw [e0]; rfl) (by rw [h.kb.q, e0]; rfl) (by rw [e0]; rfl) (by rw [e0]; rfl) rfl rfl rfl rfl rfl (fun i hi => match i, hi with
      | 0, _ => v0_ok
      | 1, _ => v0_ok
      | 2, _ => v0_ok
      | 3, _ => v0_ok
      | i + 4, h => absurd h (by omega)), rfl⟩, hq.2⟩
  | succ k =>
    have hc := h.kb.c (by omega)
    have hpl := h.kb.pl (by omega)
    exact (Tri.run (codeM _ _) (envR_ok hf) hr (ren_nb (r := r1_11 0) (by decide))).post fun e a w hq => ⟨hq.1, _, nb b (r1 (k + 1) 0 1), ⟨h.step (s := 0) (bf := pcl b 0) (pp := (b 3).i) (zb := false) (ad := (nb b (r1 (k + 1) 0 1) 21).s) hl hlt (by decide) v0_ok (hc 0 (by decide)) (by omega) rfl rfl rfl rfl rfl rfl rfl rfl rfl (fun i hi => match i, hi with
      | 0, _ => v0_ok
      | 1, _ => hc 1 (by decide)
      | 2, _ => hc 2 (by decide)
      | 3, _ => hc 3 (by decide)
      | i + 4, h => absurd h (by omega)), rfl⟩, hq.2⟩
theorem rd1_10 (h : I1 d50 d51 k b) (hl : d50.length ≤ 20) (hlt : (b 7).i < d50.length) {x : Int} (hx : (vb b g z).i (.f2 (100 + 0) (.v 50) (.v 7)) = x) (x0 : 0 ≤ x) (x1 : x ≤ 255) (hs : x.tmod 4 = 1) (y0 : 0 ≤ x) (y1 : x ≤ 200) :
    Tri Tryz.prog N chB (At w0 N (vb b g z) (st1 k)) fun e a w => e = .normal ∧ ∃ k' b', (I1 d50 d51 k' b' ∧ (b' 7).i = (b 7).i + 1) ∧ At w0 N (vb b' g z) (st1 k') a w := by
  have hf := facts_app (show ∀ f ∈ fg10 1, f.holds QR (vb b g z) from fg1_ok (s := 1) (lo := 0) (hi := 200) hx x0 hs y0 y1) (facts_app (fIn1_ok h hl hlt) (fb4_ok h.kb))
  have hr := (Bool.and_eq_true_iff.1 (RU1 _ h.k16 1 (by decide))).1
  unfold run10 at hr
  cases k with
  | zero =>
    have e0 : (b 0).d = [] := List.eq_nil_of_length_eq_zero (h.kb.k0.1 rfl)
    exact (Tri.run (codeM _ _) (envR_ok hf) hr (ren_nb (by decide))).post fun e a w hq => ⟨hq.1, _, nb b (r1 0 1 0), ⟨h.step (s := 1) (bf := (false, ⟨#[]⟩)) (pp := 0) (zb := true) (ad := (nb b (r1 0 1 0) 23).s) hl hlt (by decide) (v1_ok _) v0_ok (by omega) (by rw [e0]; rfl) (by rw [h.kb.q, e0]; rfl) (by rw [e0]; rfl) (by rw [e0]; rfl) rfl rfl rfl rfl rfl (fun i hi => match i, hi with
      | 0, _ => v0_ok
      | 1, _ => (v1_ok _)
      | 2, _ => v0_ok
      | 3, _ => v0_ok
      | i + 4, h => absurd h (by omega)), rfl⟩, hq.2⟩
  | succ k =>
    have hc := h.kb.c (by omega)
    have hpl := h.kb.pl (by omega)
    exact (Tri.run (codeM _ _) (envR_ok hf) hr (ren_nb (r := r1_10 1) (by decide))).post fun e a w hq => ⟨hq.1, _, nb b (r1 (k + 1) 1 0), ⟨h.step (s := 1) (bf := pcl b 1) (pp := (b 3).i) (zb := true) (ad := (nb b (r1 (k + 1) 1 0) 23).s) hl hlt (by decide) (v1_ok _) (hc 1 (by decide)) (by omega) rfl rfl rfl rfl rfl rfl rfl rfl rfl (fun i hi => match i, hi with
      | 0, _ => hc 0 (by decide)
      | 1, _ => (v1_ok _)
      | 2, _ => hc 2 (by decide)
      | 3, _ => hc 3 (by decide)
      | i + 4, h => absurd h (by omega)), rfl⟩, hq.2⟩
theorem rd1_11 (h : I1 d50 d51 k b) (hl : d50.length ≤ 20) (hlt : (b 7).i < d50.length) {x : Int} (hx : (vb b g z).i (.f2 (100 + 0) (.v 50) (.v 7)) = x) (x0 : 0 ≤ x) (x1 : x ≤ 255) (hs : x.tmod 4 = 1) (y0 : 201 ≤ x) (y1 : x ≤ 255) :
    Tri Tryz.prog N chB (At w0 N (vb b g z) (st1 k)) fun e a w => e = .normal ∧ ∃ k' b', (I1 d50 d51 k' b' ∧ (b' 7).i = (b 7).i + 1) ∧ At w0 N (vb b' g z) (st1 k') a w := by
  have hf := facts_app (show ∀ f ∈ fg11 1, f.holds QR (vb b g z) from fg1_ok (s := 1) (lo := 201) (hi := 255) hx x0 hs y0 y1) (facts_app (fIn1_ok h hl hlt) (fb4_ok h.kb))
  have hr := (Bool.and_eq_true_iff.1 (RU1 _ h.k16 1 (by decide))).2
  unfold run11 at hr
  cases k with
  | zero =>
    have e0 : (b 0).d = [] := List.eq_nil_of_length_eq_zero (h.kb.k0.1 rfl)
    exact (Tri.run (codeM _ _) (envR_ok hf) hr (ren_nb (by decide))).post fun e a w hq => ⟨hq.1, _, nb b (r1 0 1 1), ⟨h.step (s := 1) (bf := (false, ⟨#[]⟩)) (pp := 0) (zb := false) (ad := (nb b (r1 0 1 1) 23).s) hl hlt (by decide) v0_ok v0_ok (by omega) (by rw [e0]; rfl) (by rw [h.kb.q, e0]; rfl) (by rw [e0]; rfl) (by rw [e0]; rfl) rfl rfl rfl rfl rfl (fun i hi => match i, hi with
      | 0, _ => v0_ok
      | 1, _ => v0_ok
      | 2, _ => v0_ok
      | 3, _ => v0_ok
      | i + 4, h => absurd h (by omega)), rfl⟩, hq.2⟩
  | succ k =>
    have hc := h.kb.c (by omega)
    have hpl := h.kb.pl (by omega)
    exact (Tri.run (codeM _ _) (envR_ok hf) hr (ren_nb (r := r1_11 1) (by decide))).post fun e a w hq => ⟨hq.1, _, nb b (r1 (k + 1) 1 1), ⟨h.step (s := 1) (bf := pcl b 1) (pp := (b 3).i) (zb := false) (ad := (nb b (r1 (k + 1) 1 1) 23).s) hl hlt (by decide) v0_ok (hc 1 (by decide)) (by omega) rfl rfl rfl rfl rfl rfl rfl rfl rfl (fun i hi => match i, hi with
      | 0, _ => hc 0 (by decide)
      | 1, _ => v0_ok
      | 2, _ => hc 2 (by decide)
      | 3, _ => hc 3 (by decide)
      | i + 4, h => absurd h (by omega)), rfl⟩, hq.2⟩
theorem rd1_20 (h : I1 d50 d51 k b) (hl : d50.length ≤ 20) (hlt : (b 7).i < d50.length) {x : Int} (hx : (vb b g z).i (.f2 (100 + 0) (.v 50) (.v 7)) = x) (x0 : 0 ≤ x) (x1 : x ≤ 255) (hs : x.tmod 4 = 2) (y0 : 0 ≤ x) (y1 : x ≤ 200) :
    Tri Tryz.prog N chB (At w0 N (vb b g z) (st1 k)) fun e a w => e = .normal ∧ ∃ k' b', (I1 d50 d51 k' b' ∧ (b' 7).i = (b 7).i + 1) ∧ At w0 N (vb b' g z) (st1 k') a w := by
  have hf := facts_app (show ∀ f ∈ fg10 2, f.holds QR (vb b g z) from fg1_ok (s := 2) (lo := 0) (hi := 200) hx x0 hs y0 y1) (facts_app (fIn1_ok h hl hlt) (fb4_ok h.kb))
  have hr := (Bool.and_eq_true_iff.1 (RU1 _ h.k16 2 (by decide))).1
  unfold run10 at hr
  cases k with
  | zero =>
    have e0 : (b 0).d = [] := List.eq_nil_of_length_eq_zero (h.kb.k0.1 rfl)
    exact (Tri.run (codeM _ _) (envR_ok hf) hr (ren_nb (by decide))).post fun e a w hq => ⟨hq.1, _, nb b (r1 0 2 0), ⟨h.step (s := 2) (bf := (false, ⟨#[]⟩)) (pp := 0) (zb := true) (ad := (nb b (r1 0 2 0) 25).s) hl hlt (by decide) (v1_ok _) v0_ok (by omega) (by rw [e0]; rfl) (by rw [h.kb.q, e0]; rfl) (by rw [e0]; rfl) (by rw [e0]; rfl) rfl rfl rfl rfl rfl (fun i hi => match i, hi with
      | 0, _ => v0_ok
      | 1, _ => v0_ok
      | 2, _ => (v1_ok _)
      | 3, _ => v0_ok
      | i + 4, h => absurd h (by omega)), rfl⟩, hq.2⟩
  | succ k =>
    have hc := h.kb.c (by omega)
    have hpl := h.kb.pl (by omega)
    exact (Tri.run (codeM _ _) (envR_ok hf) hr (ren_nb (r := r1_10 2) (by decide))).post fun e a w hq => ⟨hq.1, _, nb b (r1 (k + 1) 2 0), ⟨h.step (s := 2) (bf := pcl b 2) (pp := (b 3).i) (zb := true) (ad := (nb b (r1 (k + 1) 2 0) 25).s) hl hlt (by decide) (v1_ok _) (hc 2 (by decide)) (by omega) rfl rfl rfl rfl rfl rfl rfl rfl rfl (fun i hi => match i, hi with
      | 0, _ => hc 0 (by decide)
      | 1, _ => hc 1 (by decide)
      | 2, _ => (v1_ok _)
      | 3, _ => hc 3 (by decide)
      | i + 4, h => absurd h (by omega)), rfl⟩, hq.2⟩
theorem rd1_21 (h : I1 d50 d51 k b) (hl : d50.length ≤ 20) (hlt : (b 7).i < d50.length) {x : Int} (hx : (vb b g z).i (.f2 (100 + 0) (.v 50) (.v 7)) = x) (x0 : 0 ≤ x) (x1 : x ≤ 255) (hs : x.tmod 4 = 2) (y0 : 201 ≤ x) (y1 : x ≤ 255) :
    Tri Tryz.prog N chB (At w0 N (vb b g z) (st1 k)) fun e a w => e = .normal ∧ ∃ k' b', (I1 d50 d51 k' b' ∧ (b' 7).i = (b 7).i + 1) ∧ At w0 N (vb b' g z) (st1 k') a w := by
  have hf := facts_app (show ∀ f ∈ fg11 2, f.holds QR (vb b g z) from fg1_ok (s := 2) (lo := 201) (hi := 255) hx x0 hs y0 y1) (facts_app (fIn1_ok h hl hlt) (fb4_ok h.kb))
  have hr := (Bool.and_eq_true_iff.1 (RU1 _ h.k16 2 (by decide))).2
  unfold run11 at hr
  cases k with
  | zero =>
    have e0 : (b 0).d = [] := List.eq_nil_of_length_eq_zero (h.kb.k0.1 rfl)
    exact (Tri.run (codeM _ _) (envR_ok hf) hr (ren_nb (by decide))).post fun e a w hq => ⟨hq.1, _, nb b (r1 0 2 1), ⟨h.step (s := 2) (bf := (false, ⟨#[]⟩)) (pp := 0) (zb := false) (ad := (nb b (r1 0 2 1) 25).s) hl hlt (by decide) v0_ok v0_ok (by omega) (by rw [e0]; rfl) (by rw [h.kb.q, e0]; rfl) (by rw [e0]; rfl) (by rw [e0]; rfl) rfl rfl rfl rfl rfl (fun i hi => match i, hi with
      | 0, _ => v0_ok
      | 1, _ => v0_ok
      | 2, _ => v0_ok
      | 3, _ => v0_ok
      | i + 4, h => absurd h (by omega)), rfl⟩, hq.2⟩
  | succ k =>
    have hc := h.kb.c (by omega)
    have hpl := h.kb.pl (by omega)
    exact (Tri.run (codeM _ _) (envR_ok hf) hr (ren_nb (r := r1_11 2) (by decide))).post fun e a w hq => ⟨hq.1, _, nb b (r1 (k + 1) 2 1), ⟨h.step (s := 2) (bf := pcl b 2) (pp := (b 3).i) (zb := false) (ad := (nb b (r1 (k + 1) 2 1) 25).s) hl hlt (by decide) v0_ok (hc 2 (by decide)) (by omega) rfl rfl rfl rfl rfl rfl rfl rfl rfl (fun i hi => match i, hi with
      | 0, _ => hc 0 (by decide)
      | 1, _ => hc 1 (by decide)
      | 2, _ => v0_ok
      | 3, _ => hc 3 (by decide)
      | i + 4, h => absurd h (by omega)), rfl⟩, hq.2⟩
theorem rd1_30 (h : I1 d50 d51 k b) (hl : d50.length ≤ 20) (hlt : (b 7).i < d50.length) {x : Int} (hx : (vb b g z).i (.f2 (100 + 0) (.v 50) (.v 7)) = x) (x0 : 0 ≤ x) (x1 : x ≤ 255) (hs : x.tmod 4 = 3) (y0 : 0 ≤ x) (y1 : x ≤ 200) :
    Tri Tryz.prog N chB (At w0 N (vb b g z) (st1 k)) fun e a w => e = .normal ∧ ∃ k' b', (I1 d50 d51 k' b' ∧ (b' 7).i = (b 7).i + 1) ∧ At w0 N (vb b' g z) (st1 k') a w := by
  have hf := facts_app (show ∀ f ∈ fg10 3, f.holds QR (vb b g z) from fg1_ok (s := 3) (lo := 0) (hi := 200) hx x0 hs y0 y1) (facts_app (fIn1_ok h hl hlt) (fb4_ok h.kb))
  have hr := (Bool.and_eq_true_iff.1 (RU1 _ h.k16 3 (by decide))).1
  unfold run10 at hr
  cases k with
  | zero =>
    have e0 : (b 0).d = [] := List.eq_nil_of_length_eq_zero (h.kb.k0.1 rfl)
    exact (Tri.run (codeM _ _) (envR_ok hf) hr (ren_nb (by decide))).post fun e a w hq => ⟨hq.1, _, nb b (r1 0 3 0), ⟨h.step (s := 3) (bf := (false, ⟨#[]⟩)) (pp := 0) (zb := true) (ad := (nb b (r1 0 3 0) 27).s) hl hlt (by decide) (v1_ok _) v0_ok (by omega) (by rw [e0]; rfl) (by rw [h.kb.q, e0]; rfl) (by rw [e0]; rfl) (by rw [e0]; rfl) rfl rfl rfl rfl rfl (fun i hi => match i, hi with
      | 0, _ => v0_ok
      | 1, _ => v0_ok
      | 2, _ => v0_ok
      | 3, _ => (v1_ok _)
      | i + 4, h => absurd h (by omega)), rfl⟩, hq.2⟩
  | succ k =>
    have hc := h.kb.c (by omega)
    have hpl := h.kb.pl (by omega)
    exact (Tri.run (codeM _ _) (envR_ok hf) hr (ren_nb (r := r1_10 3) (by decide))).post fun e a w hq => ⟨hq.1, _, nb b (r1 (k + 1) 3 0), ⟨h.step (s := 3) (bf := pcl b 3) (pp := (b 3).i) (zb := true) (ad := (nb b (r1 (k + 1) 3 0) 27).s) hl hlt (by decide) (v1_ok _) (hc 3 (by decide)) (by omega) rfl rfl rfl rfl rfl rfl rfl rfl rfl (fun i hi => match i, hi with
      | 0, _ => hc 0 (by decide)
      | 1, _ => hc 1 (by decide)
      | 2, _ => hc 2 (by decide)
      | 3, _ => (v1_ok _)
      | i + 4, h => absurd h (by omega)), rfl⟩, hq.2⟩
theorem rd1_31 (h : I1 d50 d51 k b) (hl : d50.length ≤ 20) (hlt : (b 7).i < d50.length) {x : Int} (hx : (vb b g z).i (.f2 (100 + 0) (.v 50) (.v 7)) = x) (x0 : 0 ≤ x) (x1 : x ≤ 255) (hs : x.tmod 4 = 3) (y0 : 201 ≤ x) (y1 : x ≤ 255) :
    Tri Tryz.prog N chB (At w0 N (vb b g z) (st1 k)) fun e a w => e = .normal ∧ ∃ k' b', (I1 d50 d51 k' b' ∧ (b' 7).i = (b 7).i + 1) ∧ At w0 N (vb b' g z) (st1 k') a w := by
  have hf := facts_app (show ∀ f ∈ fg11 3, f.holds QR (vb b g z) from fg1_ok (s := 3) (lo := 201) (hi := 255) hx x0 hs y0 y1) (facts_app (fIn1_ok h hl hlt) (fb4_ok h.kb))
  have hr := (Bool.and_eq_true_iff.1 (RU1 _ h.k16 3 (by decide))).2
  unfold run11 at hr
  cases k with
  | zero =>
    have e0 : (b 0).d = [] := List.eq_nil_of_length_eq_zero (h.kb.k0.1 rfl)
    exact (Tri.run (codeM _ _) (envR_ok hf) hr (ren_nb (by decide))).post fun e a w hq => ⟨hq.1, _, nb b (r1 0 3 1), ⟨h.step (s := 3) (bf := (false, ⟨#[]⟩)) (pp := 0) (zb := false) (ad := (nb b (r1 0 3 1) 27).s) hl hlt (by decide) v0_ok v0_ok (by omega) (by rw [e0]; rfl) (by rw [h.kb.q, e0]; rfl) (by rw [e0]; rfl) (by rw [e0]; rfl) rfl rfl rfl rfl rfl (fun i hi => match i, hi with
      | 0, _ => v0_ok
      | 1, _ => v0_ok
      | 2, _ => v0_ok
      | 3, _ => v0_ok
      | i + 4, h => absurd h (by omega)), rfl⟩, hq.2⟩
  | succ k =>
    have hc := h.kb.c (by omega)
    have hpl := h.kb.pl (by omega)
    exact (Tri.run (codeM _ _) (envR_ok hf) hr (ren_nb (r := r1_11 3) (by decide))).post fun e a w hq => ⟨hq.1, _, nb b (r1 (k + 1) 3 1), ⟨h.step (s := 3) (bf := pcl b 3) (pp := (b 3).i) (zb := false) (ad := (nb b (r1 (k + 1) 3 1) 27).s) hl hlt (by decide) v0_ok (hc 3 (by decide)) (by omega) rfl rfl rfl rfl rfl rfl rfl rfl rfl (fun i hi => match i, hi with
      | 0, _ => hc 0 (by decide)
      | 1, _ => hc 1 (by decide)
      | 2, _ => hc 2 (by decide)
      | 3, _ => v0_ok
      | i + 4, h => absurd h (by omega)), rfl⟩, hq.2⟩
theorem round1 (h : I1 d50 d51 k b) (hb : Byt d50) (hl : d50.length ≤ 20) (hlt : (b 7).i < d50.length) : Tri Tryz.prog N chB (At w0 N (vb b g z) (st1 k)) fun e a w => e = .normal ∧ ∃ k' b', (I1 d50 d51 k' b' ∧ (b' 7).i = (b 7).i + 1) ∧ At w0 N (vb b' g z) (st1 k') a w := by
  obtain ⟨i, hi⟩ := Int.eq_ofNat_of_zero_le h.i0
  obtain ⟨row, hrow⟩ := list_cases (d := d50) (i := i) (by omega)
  obtain ⟨x, rfl, x0, x1⟩ := hb i row hrow
  have hy : ((vb b g z).d (.v 50))[i]? = some [DV.i x] := (congrArg (fun x : List (List DV) => x[i]?) h.f).trans hrow
  have hx : (vb b g z).i (.f2 (100 + 0) (.v 50) (.v 7)) = x := ci_row hy (show (vb b g z).i (.v 7) = i from hi) 0 (by decide) rfl
  by_cases hd : x ≤ 200
  · rcases tmod_cases4 x0 with hs | hs | hs | hs
    · exact rd1_00 h hl hlt hx x0 x1 hs x0 hd
    · exact rd1_10 h hl hlt hx x0 x1 hs x0 hd
    · exact rd1_20 h hl hlt hx x0 x1 hs x0 hd
    · exact rd1_30 h hl hlt hx x0 x1 hs x0 hd
  · rcases tmod_cases4 x0 with hs | hs | hs | hs
    · exact rd1_01 h hl hlt hx x0 x1 hs (by omega) x1
    · exact rd1_11 h hl hlt hx x0 x1 hs (by omega) x1
    · exact rd1_21 h hl hlt hx x0 x1 hs (by omega) x1
    · exact rd1_31 h hl hlt hx x0 x1 hs (by omega) x1
theorem rx1_id : ∀ k, (rx1 k).idEx [] = true ∧ (rx1 k).ok = true
  | 0 => by decide
  | _ + 1 => (by decide : rx1_1.idEx [] = true ∧ rx1_1.ok = true)
theorem rcr_id : ∀ k, (rcr k).idEx [] = true ∧ (rcr k).ok = true
  | 0 => by decide
  | _ + 1 => (by decide : rcr_1.idEx [] = true ∧ rcr_1.ok = true)
theorem rA_id : ∀ k, (rA k).idEx [] = true ∧ (rA k).ok = true
  | 0 => by decide
  | _ + 1 => (by decide : rA_1.idEx [] = true ∧ rA_1.ok = true)
theorem rBx_id : ∀ k, (rBx k).idEx [] = true ∧ (rBx k).ok = true
  | 0 => by decide
  | _ + 1 => (by decide : rBx_1.idEx [] = true ∧ rBx_1.ok = true)
theorem nb_all {r : Rn} (h : r.idEx [] = true) : nb b r = b := funext fun n => nb_id h rfl
theorem Tri.pre_loop {E : Env} {T : Tab} {n : Nat} (hcode : CodeOk Tryz.prog E T n) {ρ ρ' : Vn} (he : EnvOk E ρ) {j : Nat} {ac r x y : ACd} {l : List ACd} (hcut : cutA j ac = some (l, .seq (.seq r x) y)) {s s' : Lit} {m : List (Bid × Bid)} {nm : Nms} (hend : endsAt .nrm m nm s' (runL Tryz.prog E T n (l ++ [r]) s.frame s.hp) = true) (hr : Ren ρ ρ' nm)
    {Mid : Act → World → Prop} {Post : Exit → Act → World → Prop} (hx : Tri Tryz.prog N x (At w0 N ρ' s') fun e a w => (e = .normal ∧ Mid a w) ∨ (e ≠ .normal ∧ Post e a w)) (hy : Tri Tryz.prog N y Mid Post) : Tri Tryz.prog N ac (At w0 N ρ s) Post := by
  have split : ∀ (l : List ACd) (fr : Fr) (h : Hp) (fr' : Fr) (h' : Hp), runL Tryz.prog E T n (l ++ [r]) fr h = .nrm fr' h' → ∃ fr1 h1, runL Tryz.prog E T n l fr h = .nrm fr1 h1 ∧ aev Tryz.prog E T n r fr1 h1 = .nrm fr' h' := by
    intro l
    induction l with
    | nil =>
      intro fr h fr' h' e
      refine ⟨fr, h, rfl, ?_⟩
      have e' : RC.casesOn (motive := fun _ => RC) (aev Tryz.prog E T n r fr h) .no RC.nrm (fun _ _ _ => .no) (fun _ _ => .no) = .nrm fr' h' := e
      cases hc : aev Tryz.prog E T n r fr h with
      | nrm f q => rw [hc] at e'; exact e'
      | no => rw [hc] at e'; cases e'
      | ex i f q => rw [hc] at e'; cases e'
      | ret f q => rw [hc] at e'; cases e'
    | cons c l ih =>
      intro fr h fr' h' e
      have e' : RC.casesOn (motive := fun _ => RC) (aev Tryz.prog E T n c fr h) .no (runL Tryz.prog E T n (l ++ [r])) (fun _ _ _ => .no) (fun _ _ => .no) = .nrm fr' h' := e
      cases hc : aev Tryz.prog E T n c fr h with
      | nrm f q =>
        rw [hc] at e'
        obtain ⟨f1, q1, k1, k2⟩ := ih f q fr' h' e'
        refine ⟨f1, q1, ?_, k2⟩
        show RC.casesOn (motive := fun _ => RC) (aev Tryz.prog E T n c fr h) .no (runL Tryz.prog E T n l) (fun _ _ _ => .no) (fun _ _ => .no) = _
        rw [hc]; exact k1
      | no => rw [hc] at e'; cases e'
      | ex i f q => rw [hc] at e'; cases e'
      | ret f q => rw [hc] at e'; cases e'
  cases hrun : runL Tryz.prog E T n (l ++ [r]) s.frame s.hp with
  | no => rw [hrun] at hend; cases hend
  | ex id f q => rw [hrun] at hend; cases hend
  | ret f q => rw [hrun] at hend; cases hend
  | nrm fr' h' =>
    rw [hrun] at hend
    obtain ⟨fr1, h1, k1, k2⟩ := split l _ _ _ _ hrun
    refine Tri.preH hcode he (r := .seq (.seq r x) y) (fr' := fr1) (h' := h1) ?_ hcut k1
    refine Tri.seq (Mid := Mid) ?_ hy
    refine Tri.seq (Mid := At w0 N ρ' s') ?_ hx
    intro c hcc a w hat
    obtain ⟨φ, q1, q2, q3, q4, q5⟩ := hat
    refine wp_mono (hcode N c r hcc fr1 h1 _ k2 (by simp) ρ φ a w he q1 q2 q5) ?_
    rintro e a' w' ⟨rfl, φ', p1, p2, p3, p4⟩
    exact ⟨trivial, .inl ⟨rfl, At.fits hend hr p1 p2.rel (q3.step p2) (p3.trans q4) (by omega)⟩⟩
theorem loop1 (hb : Byt d50) (hl : d50.length ≤ 20) : Tri Tryz.prog N (.block 0 (.loop chB)) (fun a w => ∃ j : Nat × (Nat → MV), I1 d50 d51 j.1 j.2 ∧ At w0 N (vb j.2 g z) (st1 j.1) a w) fun e a w => e = .normal ∧ ∃ k b, (I1 d50 d51 k b ∧ (b 7).i = d50.length) ∧ At w0 N (vb b g z) (st1x k) a w := by
  refine Tri.block ?_
  refine (Tri.loop (Post := fun e a w => e = .exit 0 ∧ ∃ k b, (I1 d50 d51 k b ∧ (b 7).i = d50.length) ∧ At w0 N (vb b g z) (st1x k) a w) (fun j : Nat × (Nat → MV) => d50.length - (j.2 7).i.toNat) (fun j a w => I1 d50 d51 j.1 j.2 ∧ At w0 N (vb j.2 g z) (st1 j.1) a w) fun j => Tri.imp fun hj => ?_).post fun e a w h => .inl ⟨.inr h.1, rfl, h.2⟩
  obtain ⟨k, b⟩ := j
  have hj : I1 d50 d51 k b := hj
  have h0 := hj.i0
  by_cases hlt : (b 7).i < d50.length
  · refine (round1 hj hb hl hlt).post fun e a w hq => .inl ⟨hq.1, ?_⟩
    obtain ⟨_, k', b', ⟨h1, h2⟩, h3⟩ := hq
    exact ⟨(k', b'), (by show d50.length - (b' 7).i.toNat < d50.length - (b 7).i.toNat; rw [h2]; omega), h1, h3⟩
  · have hr := (Bool.and_eq_true_iff.1 (RU1x k hj.k16)).1
    unfold run1x at hr
    have hid : (rx1 k).idEx [] = true := (rx1_id k).1
    have hok : (rx1 k).ok = true := (rx1_id k).2
    refine (Tri.run (codeM _ _) (envR_ok (fOut1_ok hj hl hlt)) hr (ren_nb hok)).post fun e a w hq => .inr ⟨by rw [hq.1]; exact fun h => (nomatch h), hq.1, k, b, ⟨hj, by have := hj.i1; omega⟩, ?_⟩
    have := hq.2
    rw [nb_all hid] at this
    exact this
def kcOf (s : Lit) : List AC := match s.mem with
  | (_, .cells c) :: _ => c
  | _ => []
def kc (k : Nat) : List AC := kcOf (stCr k)
theorem retK : ∀ k, k < 16 → retOf chRes (stCr k).frame (stCr k).hp = .ok (.t [.a (kc k), .c (.i .i64 (.ofNat 1)), .c (.b true)]) (stCr k).hp
  | 0, _ => by kernel_rfl
  | 1, _ => by kernel_rfl
  | 2, _ => by kernel_rfl
  | 3, _ => by kernel_rfl
  | 4, _ => by kernel_rfl
  | 5, _ => by kernel_rfl
  | 6, _ => by kernel_rfl
  | 7, _ => by kernel_rfl
  | 8, _ => by kernel_rfl
  | 9, _ => by kernel_rfl
  | 10, _ => by kernel_rfl
  | 11, _ => by kernel_rfl
  | 12, _ => by kernel_rfl
  | 13, _ => by kernel_rfl
  | 14, _ => by kernel_rfl
  | 15, _ => by kernel_rfl
  | k + 16, h => absurd h (by omega)
def Cfin (g : Nm → Value) (z : Nat → Option Obj) (d50 d51 : List (List DV)) (ρ : Vn) (v : AV) (h : Hp) : Prop := ∃ k b, I1 d50 d51 k b ∧ (b 7).i = d50.length ∧ ρ = vb b g z ∧ v = .t [.a (kc k), .c (.i .i64 (.ofNat 1)), .c (.b true)] ∧ h = (stCr k).hp
theorem chg_tri (hb : Byt d50) (hl : d50.length ≤ 20) (h50 : (b 50).d = d50) (h51 : (b 51).d = d51) : Tri Tryz.prog N chBody (At w0 N (vb b g z) sC0) fun e a w => e = .ret ∧ ∃ ρ' s' v, retOf chRes s'.frame s'.hp = .ok v s'.hp ∧ Cfin g z d50 d51 ρ' v s'.hp ∧ At w0 N ρ' s' a w := by
  have f0 : ∀ f ∈ fC0, f.holds QR (vb b g z) := facts_cons ⟨Int.natCast_nonneg _, (by show (((b 50).d.length : Nat) : Int) ≤ 20; rw [h50]; omega)⟩ facts_nil
  have hcut : cutA 5 chBody = some (cutL 5 chBody, .seq (.seq chRi (.block (nat_lit 0) (.loop chB))) chRe) := by rw [← chX_eq]; exact chCut
  refine Tri.pre_loop (codeC _ _) (envR_ok f0) hcut runS (ren_nb (by decide)) (Mid := fun a w => ∃ k b, (I1 d50 d51 k b ∧ (b 7).i = d50.length) ∧ At w0 N (vb b g z) (st1x k) a w) ?_ ?_
  · refine ((loop1 (d51 := d51) hb hl).pre fun a w hat => ⟨(0, nb b rS), ?_, hat⟩).post fun e a w h => .inl h
    exact ⟨h50, h51, (by show (((b 50).d.length : Nat) : Int) = _; rw [h50]), (by show (0 : Int) ≤ 0; omega), (by show (0 : Int) ≤ _; omega), rfl, (show (0 : Nat) < 16 by decide),
      ⟨⟨(show (0 : Nat) ≤ 4000 by decide), fun i row hr => (nomatch hr)⟩, (show (0 : Nat) ≤ 900 by decide), rfl, fun h => absurd rfl h, rfl, rfl, Nat.le_refl _, ⟨fun _ => rfl, fun _ => rfl⟩, fun h => absurd rfl h⟩⟩
  · refine Tri.ex fun k => Tri.ex fun b' => Tri.imp fun hk => ?_
    have hr := (Bool.and_eq_true_iff.1 (RU1x k hk.1.k16)).2
    unfold run1r at hr
    have hid : (rcr k).idEx [] = true := (rcr_id k).1
    have hok : (rcr k).ok = true := (rcr_id k).2
    refine (Tri.run (codeM _ _) (envR_ok facts_nil) hr (ren_nb hok)).post fun e a w hq => ⟨hq.1, vb b' g z, stCr k, _, retK k hk.1.k16, ⟨k, b', hk.1, hk.2, rfl, rfl, rfl⟩, ?_⟩
    have := hq.2
    rw [nb_all hid] at this
    exact this
def lc1 : List AOp := (regA lwRC).take (nat_lit 1)
def lc2 : List AOp := (regA lwRC).drop (nat_lit 2)
theorem lwRC_eq : lwRC = .reg (lc1 ++ ⟨some (.x2, .xe), .call ⟨.x0, .x0, .x8⟩ [.t .x2 .xd, .k (.c (.b false))], none⟩ :: lc2) := by kernel_rfl
noncomputable def callL : CallF := callBy (tblM []) (aev Tryz.prog (envR []) (tblM []) (nat_lit 60))
theorem runC1 : endsR [] rPc.nms sPL (aregion Tryz.prog (envR []) callL lc1 sP0.frame sP0.hp) = true := by kernel_rfl
theorem evsC : evs sPL.frame [.t .x2 .xd, .k (.c (.b false))] = some [.c (.ds (.i .u8 .nil) (.v 50)), .c (.b false)] := by kernel_rfl
theorem RUA : ∀ k, k < 16 → endsR (at2 tm k 2) (rA k).nms (stA k) (aregion Tryz.prog (envR []) callL lc2 (setDst (some (.x2, .xe)) (.t [.a (kc k), .c (.i .i64 (.ofNat 1)), .c (.b true)]) sPL.frame) (stCr k).hp) = true
  | 0, _ => by kernel_rfl
  | 1, _ => by kernel_rfl
  | 2, _ => by kernel_rfl
  | 3, _ => by kernel_rfl
  | 4, _ => by kernel_rfl
  | 5, _ => by kernel_rfl
  | 6, _ => by kernel_rfl
  | 7, _ => by kernel_rfl
  | 8, _ => by kernel_rfl
  | 9, _ => by kernel_rfl
  | 10, _ => by kernel_rfl
  | 11, _ => by kernel_rfl
  | 12, _ => by kernel_rfl
  | 13, _ => by kernel_rfl
  | 14, _ => by kernel_rfl
  | 15, _ => by kernel_rfl
  | k + 16, h => absurd h (by omega)
theorem call_tri (hb : Byt d50) (hl : d50.length ≤ 20) (h50 : (b 50).d = d50) (h51 : (b 51).d = d51) : Tri Tryz.prog N lwRC (At w0 N (vb b g z) sP0) fun e a w => e = .normal ∧ ∃ z' k b', (I1 d50 d51 k b' ∧ (b' 7).i = d50.length) ∧ At w0 N (vb b' g z') (stA k) a w := by
  rw [lwRC_eq]
  refine Tri.regcallM (call := callL) (call2 := callL) (E2 := envR []) (callM [] _) (callM [] _) (envR_ok facts_nil) runC1 (ren_nb (by decide)) evsC ?_
  intro φ tmps w us hf hr ho hu
  cases hu with
  | @cons _ v1 _ _ x1 t1 =>
    cases t1 with
    | @cons _ v2 _ _ x2 t2 =>
      cases t2
      have e50 : (nb b rPc 50).d = d50 := h50
      have e51 : (nb b rPc 51).d = d51 := h51
      have y1 : SlD φ.z (.i .u8 .nil) (nb b rPc 50).d v1 := x1
      refine (law_mem (ρ := vb (nb b rPc) g φ.z) (s0 := sC0) (ac := chBody) (res := chRes) (args := [.c (.ds (.i .u8 .nil) (.v 50)), .c (.b false)]) (Fin := Cfin g φ.z d50 d51) Tryz.func8 (by kernel_rfl) ⟨_, rfl, rfl⟩ rfl (.cons y1 (.cons x2 .nil)) w (fun b x hb => (hr.frz.at_ b x hb).1) (chg_tri hb hl e50 e51)).mono ?_
      rintro e w' ⟨u, ρ', φ', v, h', rfl, ⟨k, b', h1, h2, rfl, rfl, rfl⟩, hvu, hr', ho'⟩
      refine ⟨u, rfl, vb b' g φ.z, φ', _, _, envR_ok facts_nil, ?_, hvu, hr', ?_, stA k, _, _, vb b' g φ.z, RUA k h1.k16, ?_, fun a w hat => ⟨rfl, φ.z, k, b', ⟨h1, h2⟩, hat⟩⟩
      · intro i j v hv
        obtain ⟨q1, q2⟩ := hf i j v hv
        refine ⟨q1, ?_⟩
        have hm := frame_get (l := sPL.fr) hv
        have hm' : (i, j, v) ∈ [((.x0, .x0, .c (.ds (.i .u8 .nil) (.v 50))) : D16 × D16 × AV), (.x0, .x1, .c (.ds (.i .u8 .nil) (.v 51))), (.x0, .x4, .c (.b false)), (.x2, .xd, .c (.ds (.i .u8 .nil) (.v 50)))] := hm
        have hz : ∀ b x, φ.z b = some x → φ'.z b = some x := hr'.frz.zin
        have s50 : ∀ x, VV (vb (nb b rPc) g z) φ (.c (.ds (.i .u8 .nil) (.v 50))) x → VV (vb b' g φ.z) φ' (.c (.ds (.i .u8 .nil) (.v 50))) x := fun x hx => by
          have hx' : SlD φ.z (.i .u8 .nil) (nb b rPc 50).d x := hx
          rw [e50, ← h1.f] at hx'
          exact SlG.le hz (RowD.le hz _) hx'
        have s51 : ∀ x, VV (vb (nb b rPc) g z) φ (.c (.ds (.i .u8 .nil) (.v 51))) x → VV (vb b' g φ.z) φ' (.c (.ds (.i .u8 .nil) (.v 51))) x := fun x hx => by
          have hx' : SlD φ.z (.i .u8 .nil) (nb b rPc 51).d x := hx
          rw [e51, ← h1.s] at hx'
          exact SlG.le hz (RowD.le hz _) hx'
        simp only [List.mem_cons, List.not_mem_nil, or_false, Prod.mk.injEq] at hm'
        rcases hm' with ⟨rfl, rfl, rfl⟩ | ⟨rfl, rfl, rfl⟩ | ⟨rfl, rfl, rfl⟩ | ⟨rfl, rfl, rfl⟩
        · exact s50 _ q2
        · exact s51 _ q2
        · exact q2
        · exact s50 _ q2
      · exact ⟨fun b hb => (ho'.old b (Nat.lt_of_lt_of_le hb ho.size)).trans (ho.old b hb), Nat.le_trans ho.size ho'.size, ho'.os.trans ho.os, ho'.tape.trans ho.tape, ho'.output.trans ho.output, fun id x hi hx => Nat.le_trans ho.size (ho'.live id x hi hx)⟩
      · have hid : (rA k).idEx [] = true := (rA_id k).1
        have hok : (rA k).ok = true := (rA_id k).2
        have := ren_nb (b := b') (g := g) (z := φ.z) hok
        rw [nb_all hid] at this
        exact this
theorem asc0 : Asc ([] : List (List DV)) 0 := ion_asc (m := 0) (n := 0) (Int.le_refl _) (by decide)
theorem fL2_ok (h51 : (b 51).d = d51) (hl : d51.length ≤ 30) : ∀ f ∈ fL2, f.holds QR (vb b g z) := facts_cons ⟨Int.natCast_nonneg _, (by show (((b 51).d.length : Nat) : Int) ≤ 30; rw [h51]; omega)⟩ facts_nil
theorem com_y (b : Nat → MV) : (nb b r2_1 0).d = (b 0).d ++ [abR (b 0).d.length 3 1 (b 2).i] := rfl
theorem start (h : I1 d50 d51 k b) (h7 : (b 7).i = d50.length) (hl : d50.length ≤ 20) : (∀ f ∈ fCm k, f.holds QR (vb b g z)) ∧ (r2 k).ok = true ∧ ∃ w n0, JS d51 w (cnt k) n0 (nb b (r2 k)) := by
  have hn := h.n
  have hla := h.kb.la
  obtain ⟨q1, q2⟩ := cnt_ok k h.k16
  cases k with
  | zero =>
    have e0 := h.kb.k0.1 rfl
    exact ⟨facts_nil, by decide, fun _ => (false, ⟨#[]⟩), 0, h.s, h.kb.y, e0, by decide, rfl, rfl, h.kb.du, fun e => absurd rfl e, fun e => absurd rfl e, fun _ => rfl, q1, fun e => absurd rfl e, fun e => absurd rfl e, fun i hi => match i, hi with
      | 0, _ => rfl
      | 1, _ => rfl
      | 2, _ => rfl
      | 3, _ => rfl
      | i + 4, h => absurd h (by omega), rfl, fun _ _ => rfl, rfl, (by show (((b 51).d.length : Nat) : Int) = _; rw [h.s])⟩
  | succ k =>
    have e0 : (b 0).d.length ≠ 0 := fun e => absurd (h.kb.k0.2 e) (by omega)
    have hc := h.kb.c (by omega)
    have hpl := h.kb.pl (by omega)
    have hy : JV ((b 0).d ++ [abR (b 0).d.length 3 1 (b 2).i]) := h.kb.y.push (by omega) (ab_ok (.inl rfl) (.inl rfl) (by omega) (by omega))
    refine ⟨facts_cons (show JV (nb b r2_1 0).d from hy) facts_nil, (by decide : r2_1.ok = true), fun i => if i < 4 then pcl b i else (false, ⟨#[]⟩), (b 0).d.length + 1, h.s, hy, ?_, by omega, rfl, rfl, rfl, fun _ => ?_, fun _ => ?_, fun e => absurd (q2 e) (by omega), q1, fun _ i hi => match i, hi with
      | 0, _ => hc 0 (by decide)
      | 1, _ => hc 1 (by decide)
      | 2, _ => hc 2 (by decide)
      | 3, _ => hc 3 (by decide)
      | i + 4, h => absurd h (by omega), fun _ i hi => match i, hi with
      | 0, _ => rfl
      | 1, _ => rfl
      | 2, _ => rfl
      | 3, _ => rfl
      | i + 4, h => absurd h (by omega), fun i hi => match i, hi with
      | 0, _ => rfl
      | 1, _ => rfl
      | 2, _ => rfl
      | 3, _ => rfl
      | i + 4, h => absurd h (by omega), rfl, fun e => absurd (q2 e) (by omega), rfl, (by show (((b 51).d.length : Nat) : Int) = _; rw [h.s])⟩
    · show ((b 0).d ++ [abR (b 0).d.length 3 1 (b 2).i]).length = _
      rw [List.length_append]; rfl
    · show 1 ≤ (b 3).i
      omega
    · show (b 3).i < (((b 0).d.length + 1 : Nat) : Int)
      omega
theorem fB_ok (h : JS d51 w m n0 b) : ∀ f ∈ fB m, f.holds QR (vb b g z) := by
  have hl := h.n
  have h21 := h.n21
  have hd := h.du
  have hla := h.la
  have hq : (((b 1).d.length : Nat) : Int) = 0 := by rw [h.q]; rfl
  have asc : Asc (b 1).d (b 2).i := by rw [h.q, hla]; exact asc0
  cases m with
  | zero =>
    have e0 := h.z0 rfl
    exact facts_cons ⟨(by show (0 : Int) ≤ (b 2).i; omega), (by show (b 2).i ≤ 0; omega)⟩ (facts_cons ⟨(by show (0 : Int) ≤ (((b 1).d.length : Nat) : Int); omega), (by show (((b 1).d.length : Nat) : Int) ≤ 0; omega)⟩ (facts_cons (show Asc (b 1).d (b 2).i from asc) (facts_cons ⟨(by show (0 : Int) ≤ (((b 0).d.length : Nat) : Int); omega), (by show (((b 0).d.length : Nat) : Int) ≤ 0; omega)⟩ (facts_cons ⟨(by show (0 : Int) ≤ (b 4).i; omega), (by show (b 4).i ≤ 0; omega)⟩ (facts_cons (show JV (b 0).d from h.y) facts_nil)))))
  | succ m =>
    have p0 := h.p0 (by omega)
    have p1 := h.p1 (by omega)
    have hc := h.cv (by omega)
    exact facts_cons ⟨(by show (0 : Int) ≤ (b 2).i; omega), (by show (b 2).i ≤ 0; omega)⟩ (facts_cons ⟨(by show (0 : Int) ≤ (((b 1).d.length : Nat) : Int); omega), (by show (((b 1).d.length : Nat) : Int) ≤ 0; omega)⟩ (facts_cons (show Asc (b 1).d (b 2).i from asc) (facts_cons ⟨(by show (2 : Int) ≤ (((b 0).d.length : Nat) : Int); omega), (by show (((b 0).d.length : Nat) : Int) ≤ 900; omega)⟩ (facts_cons ⟨(by show (1 : Int) ≤ (b 4).i; omega), (by show (b 4).i ≤ 900; omega)⟩
      (facts_cons ⟨(by show (0 : Int) ≤ (b 4).i - (((b 0).d.length : Nat) : Int); omega), (by show (b 4).i - (((b 0).d.length : Nat) : Int) ≤ 0; omega)⟩ (facts_cons ⟨(by show (1 : Int) ≤ (b 3).i; omega), (by show (b 3).i ≤ 900; omega)⟩ (facts_cons ⟨(by show (-900 : Int) ≤ (b 3).i - (((b 0).d.length : Nat) : Int); omega), (by show (b 3).i - (((b 0).d.length : Nat) : Int) ≤ -1; omega)⟩ (facts_cons (show JV (b 0).d from h.y) (facts_cons (hc 0 (by decide)) (facts_cons (hc 1 (by decide)) (facts_cons (hc 2 (by decide)) (facts_cons (hc 3 (by decide)) facts_nil))))))))))))
theorem fIn3_ok (h51 : (b 51).d = d51) (hn : (b 8).i = d51.length) (h0 : 0 ≤ (b 7).i) (hl : d51.length ≤ 30) (hlt : (b 7).i < d51.length) : ∀ f ∈ fIn3, f.holds QR (vb b g z) := by
  have hf : (((b 51).d.length : Nat) : Int) = d51.length := by rw [h51]
  exact facts_cons ⟨(by show (0 : Int) ≤ (b 7).i; omega), (by show (b 7).i ≤ 30; omega)⟩ (facts_cons ⟨(by show (0 : Int) ≤ (b 8).i; omega), (by show (b 8).i ≤ 30; omega)⟩ (facts_cons ⟨(by show (0 : Int) ≤ (((b 51).d.length : Nat) : Int); omega), (by show (((b 51).d.length : Nat) : Int) ≤ 30; omega)⟩
    (facts_cons ⟨(by show (-30 : Int) ≤ (b 7).i - (b 8).i; omega), (by show (b 7).i - (b 8).i ≤ -1; omega)⟩ (facts_cons ⟨(by show (-30 : Int) ≤ (b 7).i - (((b 51).d.length : Nat) : Int); omega), (by show (b 7).i - (((b 51).d.length : Nat) : Int) ≤ -1; omega)⟩ facts_nil))))
theorem fOut3_ok (h : JW d51 w n0 k H b) (hl : d51.length ≤ 30) (hge : ¬ (b 7).i < d51.length) : ∀ f ∈ fOut3, f.holds QR (vb b g z) := by
  have h0 := h.ix
  have h1 := h.hl
  have hn := h.ln
  have hf : (((b 51).d.length : Nat) : Int) = d51.length := by rw [h.s]
  exact facts_cons ⟨(by show (0 : Int) ≤ (b 7).i; omega), (by show (b 7).i ≤ 30; omega)⟩ (facts_cons ⟨(by show (0 : Int) ≤ (b 8).i; omega), (by show (b 8).i ≤ 30; omega)⟩ (facts_cons ⟨(by show (0 : Int) ≤ (((b 51).d.length : Nat) : Int); omega), (by show (((b 51).d.length : Nat) : Int) ≤ 30; omega)⟩
    (facts_cons ⟨(by show (0 : Int) ≤ (b 7).i - (b 8).i; omega), (by show (b 7).i - (b 8).i ≤ 0; omega)⟩ facts_nil)))
theorem fK_ok (h : JW d51 w n0 k H b) (hl : d51.length ≤ 30) : ∀ f ∈ fK, f.holds QR (vb b g z) := by
  have h1 := h.h1
  have hhl := h.hl
  have hlen := h.len
  have hla := h.la
  have hpl := h.pl
  have h21 := h.n21
  have hd := h.du
  have hq : (((b 1).d.length : Nat) : Int) = H.length := by rw [h.q, ion_len]
  have asc : Asc (b 1).d (b 2).i := by rw [h.q, hla, hlen]; exact ion_asc (Int.le_refl _) (by omega)
  have hc := h.cv
  exact facts_cons ⟨(by show (1 : Int) ≤ (((b 0).d.length : Nat) : Int); omega), (by show (((b 0).d.length : Nat) : Int) ≤ 900; omega)⟩ (facts_cons ⟨(by show (1 : Int) ≤ (b 2).i; omega), (by show (b 2).i ≤ 900; omega)⟩ (facts_cons ⟨(by show (1 : Int) ≤ (b 3).i; omega), (by show (b 3).i ≤ 900; omega)⟩ (facts_cons ⟨(by show (0 : Int) ≤ (b 4).i; omega), (by show (b 4).i ≤ 900; omega)⟩
    (facts_cons ⟨(by show (0 : Int) ≤ (((b 1).d.length : Nat) : Int); omega), (by show (((b 1).d.length : Nat) : Int) ≤ 900; omega)⟩ (facts_cons ⟨(by show (0 : Int) ≤ (b 2).i - (((b 0).d.length : Nat) : Int); omega), (by show (b 2).i - (((b 0).d.length : Nat) : Int) ≤ 0; omega)⟩ (facts_cons ⟨(by show (0 : Int) ≤ (b 3).i - (((b 0).d.length : Nat) : Int); omega), (by show (b 3).i - (((b 0).d.length : Nat) : Int) ≤ 0; omega)⟩
    (facts_cons ⟨(by show (-900 : Int) ≤ (b 4).i - (((b 0).d.length : Nat) : Int); omega), (by show (b 4).i - (((b 0).d.length : Nat) : Int) ≤ -1; omega)⟩ (facts_cons ⟨(by show (-900 : Int) ≤ (((b 1).d.length : Nat) : Int) - (((b 0).d.length : Nat) : Int); omega), (by show (((b 1).d.length : Nat) : Int) - (((b 0).d.length : Nat) : Int) ≤ 0; omega)⟩
    (facts_cons (show JV (b 0).d from h.y) (facts_cons (show Asc (b 1).d (b 2).i from asc) (facts_cons (hc 0 (by decide)) (facts_cons (hc 1 (by decide)) (facts_cons (hc 2 (by decide)) (facts_cons (hc 3 (by decide)) (facts_cons (hc 4 (by decide)) facts_nil)))))))))))))))
theorem ks_ne (h : KSet k H) (h1 : 1 ≤ H.length) : k ≠ 0 := fun e => by
  cases H with
  | nil => simp at h1
  | cons y t =>
    have := (h.sl y List.mem_cons_self).2
    rw [e, Nat.zero_testBit] at this; cases this
def dB (x : Int) : ByteArray := strOfNums [x.tmod 20 + 65]
theorem fg7_ok {x : Int} (hx : (vb b g z).i (.f2 (100 + 0) (.v 51) (.v 7)) = x) (x0 : 0 ≤ x) (x1 : x ≤ 255) {s : Nat} (hs : x.tmod 5 = s) : ∀ f ∈ fg7 s, f.holds QR (vb b g z) := by
  have r20 : (vb b g z).i (.f2 3 (.f2 (100 + 0) (.v 51) (.v 7)) (.num 20)) = x.tmod 20 := by rw [(vb_std b g z).rem, hx]; rfl
  have m20 := tmod20 x0
  exact facts_cons (by show (s : Int) ≤ (vb b g z).i (.f2 3 (.f2 (100 + 0) (.v 51) (.v 7)) (.num 5)) ∧ (vb b g z).i (.f2 3 (.f2 (100 + 0) (.v 51) (.v 7)) (.num 5)) ≤ s; rw [(vb_std b g z).rem, hx]; show (s : Int) ≤ x.tmod 5 ∧ x.tmod 5 ≤ s; omega)
    (facts_cons (by show (0 : Int) ≤ (vb b g z).i (.f2 (100 + 0) (.v 51) (.v 7)) ∧ (vb b g z).i (.f2 (100 + 0) (.v 51) (.v 7)) ≤ 255; rw [hx]; omega) (facts_cons (by show (0 : Int) ≤ (vb b g z).i (.f2 3 (.f2 (100 + 0) (.v 51) (.v 7)) (.num 20)) ∧ (vb b g z).i (.f2 3 (.f2 (100 + 0) (.v 51) (.v 7)) (.num 20)) ≤ 19; rw [r20]; omega)
    (facts_cons (by show (1 : Int) ≤ ((((vb b g z).s (.f1 10 (.f2 1000 (.f2 3 (.f2 (100 + 0) (.v 51) (.v 7)) (.num 20)) (.num 65)))).size : Nat) : Int) ∧ ((((vb b g z).s (.f1 10 (.f2 1000 (.f2 3 (.f2 (100 + 0) (.v 51) (.v 7)) (.num 20)) (.num 65)))).size : Nat) : Int) ≤ 1; rw [(vb_std b g z).byt, size_one]; decide) facts_nil)))
theorem rd7_0 (h : JS d51 w m n0 b) (hl : d51.length ≤ 30) (hlt : (b 7).i < d51.length) {x : Int} (hx : (vb b g z).i (.f2 (100 + 0) (.v 51) (.v 7)) = x) (x0 : 0 ≤ x) (x1 : x ≤ 255) (hs : x.tmod 5 = 0) :
    Tri Tryz.prog N lwB3 (At w0 N (vb b g z) (stB m)) fun e a w' => e = .normal ∧ ∃ k' H' b', (JW d51 w n0 k' H' b' ∧ H'.length = 1) ∧ At w0 N (vb b' g z) (st3 k') a w' := by
  have hf := facts_app (fg7_ok (s := 0) hx x0 x1 hs) (facts_app (fIn3_ok h.s h.ln (by rw [h.ix]; decide) hl hlt) (fB_ok h))
  have hr := RU7 m h.z5
  unfold run7q at hr
  have hr := (Bool.and_eq_true_iff.1 (Bool.and_eq_true_iff.1 (Bool.and_eq_true_iff.1 hr).1).1).1
  unfold run7 at hr
  cases m with
  | zero =>
    have n00 := h.z0 rfl
    have e0 : (b 0).d = [] := List.eq_nil_of_length_eq_zero (by rw [h.n, n00])
    have hw := h.wz rfl
    exact (Tri.run (codeM _ _) (envR_ok hf) hr (ren_nb (r := r7_0 0) (by decide))).post fun e a w' hq => ⟨hq.1, _, _, nb b (r7 0 0), ⟨h.next (s := 0) (c0 := fun _ => (false, ⟨#[]⟩)) (pp := 0) (ad := (nb b (r7 0 0) 21).s) hlt (by decide) (show VCell true _ from v1_ok _) (fun i _ => (hw i).symm) (fun _ _ => v0_ok) (by omega) (by rw [e0]; rfl) (by rw [e0]; rfl) (by rw [e0]; rfl) (by rw [e0]; rfl) rfl rfl rfl rfl (fun i hi => match i, hi with
      | 0, _ => rfl
      | 1, _ => rfl
      | 2, _ => rfl
      | 3, _ => rfl
      | i + 4, h => absurd h (by omega)) (fun i hi => match i, hi with
      | 0, _ => rfl
      | 1, _ => rfl
      | 2, _ => rfl
      | 3, _ => rfl
      | 4, _ => rfl
      | i + 5, h => absurd h (by omega)), rfl⟩, hq.2⟩
  | succ m =>
    have p0 := h.p0 (by omega)
    have p1 := h.p1 (by omega)
    have hc := h.cv (by omega)
    have hce := h.ce (by omega)
    exact (Tri.run (codeM _ _) (envR_ok hf) hr (ren_nb (r := r7_1 0) (by decide))).post fun e a w' hq => ⟨hq.1, _, _, nb b (r7 (m + 1) 0), ⟨h.next (s := 0) (c0 := fun i => if i < 4 then pcl b i else (false, ⟨#[]⟩)) (pp := (b 3).i) (ad := (nb b (r7 (m + 1) 0) 21).s) hlt (by decide) (show VCell true _ from v1_ok _) (fun i hi => match i, hi with
      | 0, _ => hce 0 (by decide)
      | 1, _ => hce 1 (by decide)
      | 2, _ => hce 2 (by decide)
      | 3, _ => hce 3 (by decide)
      | 4, _ => h.w4.symm
      | i + 5, h => absurd h (by omega)) (fun i hi => match i, hi with
      | 0, _ => hc 0 (by decide)
      | 1, _ => hc 1 (by decide)
      | 2, _ => hc 2 (by decide)
      | 3, _ => hc 3 (by decide)
      | 4, _ => v0_ok
      | i + 5, h => absurd h (by omega)) (by omega) rfl (by show [] ++ [_] = [_]; rfl) rfl rfl rfl rfl rfl rfl (fun i hi => match i, hi with
      | 0, _ => rfl
      | 1, _ => rfl
      | 2, _ => rfl
      | 3, _ => rfl
      | i + 4, h => absurd h (by omega)) (fun i hi => match i, hi with
      | 0, _ => rfl
      | 1, _ => rfl
      | 2, _ => rfl
      | 3, _ => rfl
      | 4, _ => rfl
      | i + 5, h => absurd h (by omega)), rfl⟩, hq.2⟩
theorem rd3_0 (h : JW d51 w n0 k H b) (hl : d51.length ≤ 30) (hlt : (b 7).i < d51.length) {x : Int} (hx : (vb b g z).i (.f2 (100 + 0) (.v 51) (.v 7)) = x) (x0 : 0 ≤ x) (x1 : x ≤ 255) (hs : x.tmod 5 = 0) :
    Tri Tryz.prog N lwB3 (At w0 N (vb b g z) (st3 k)) fun e a w' => e = .normal ∧ ∃ k' H' b', (JW d51 w n0 k' H' b' ∧ H'.length = H.length + 1) ∧ At w0 N (vb b' g z) (st3 k') a w' := by
  have hf := facts_app (fg7_ok (s := 0) hx x0 x1 hs) (facts_app (fIn3_ok h.s h.ln (by rw [h.ix]; omega) hl hlt) (fK_ok h hl))
  have hr := RU3 k h.ks.lt (ks_ne h.ks h.h1) 0 (by decide)
  unfold run3 at hr
  exact (Tri.run (codeM _ _) (envR_ok hf) hr (ren_nb (r := r3 0) (by decide))).post fun e a w' hq => ⟨hq.1, _, _, nb b (r3 0), ⟨h.next (s := 0) (ad := (nb b (r3 0) 21).s) hl hlt (by decide) (show VCell true _ from v1_ok _) rfl rfl rfl rfl rfl rfl rfl rfl (fun i hi => match i, hi with
      | 0, _ => rfl
      | 1, _ => rfl
      | 2, _ => rfl
      | 3, _ => rfl
      | i + 4, h => absurd h (by omega)) (fun i hi => match i, hi with
      | 0, _ => rfl
      | 1, _ => rfl
      | 2, _ => rfl
      | 3, _ => rfl
      | 4, _ => rfl
      | i + 5, h => absurd h (by omega)), by simp⟩, hq.2⟩
theorem rd7_1 (h : JS d51 w m n0 b) (hl : d51.length ≤ 30) (hlt : (b 7).i < d51.length) {x : Int} (hx : (vb b g z).i (.f2 (100 + 0) (.v 51) (.v 7)) = x) (x0 : 0 ≤ x) (x1 : x ≤ 255) (hs : x.tmod 5 = 1) :
    Tri Tryz.prog N lwB3 (At w0 N (vb b g z) (stB m)) fun e a w' => e = .normal ∧ ∃ k' H' b', (JW d51 w n0 k' H' b' ∧ H'.length = 1) ∧ At w0 N (vb b' g z) (st3 k') a w' := by
  have hf := facts_app (fg7_ok (s := 1) hx x0 x1 hs) (facts_app (fIn3_ok h.s h.ln (by rw [h.ix]; decide) hl hlt) (fB_ok h))
  have hr := RU7 m h.z5
  unfold run7q at hr
  have hr := (Bool.and_eq_true_iff.1 (Bool.and_eq_true_iff.1 (Bool.and_eq_true_iff.1 hr).1).1).2
  unfold run7 at hr
  cases m with
  | zero =>
    have n00 := h.z0 rfl
    have e0 : (b 0).d = [] := List.eq_nil_of_length_eq_zero (by rw [h.n, n00])
    have hw := h.wz rfl
    exact (Tri.run (codeM _ _) (envR_ok hf) hr (ren_nb (r := r7_0 1) (by decide))).post fun e a w' hq => ⟨hq.1, _, _, nb b (r7 0 1), ⟨h.next (s := 1) (c0 := fun _ => (false, ⟨#[]⟩)) (pp := 0) (ad := (nb b (r7 0 1) 23).s) hlt (by decide) (show VCell true _ from v1_ok _) (fun i _ => (hw i).symm) (fun _ _ => v0_ok) (by omega) (by rw [e0]; rfl) (by rw [e0]; rfl) (by rw [e0]; rfl) (by rw [e0]; rfl) rfl rfl rfl rfl (fun i hi => match i, hi with
      | 0, _ => rfl
      | 1, _ => rfl
      | 2, _ => rfl
      | 3, _ => rfl
      | i + 4, h => absurd h (by omega)) (fun i hi => match i, hi with
      | 0, _ => rfl
      | 1, _ => rfl
      | 2, _ => rfl
      | 3, _ => rfl
      | 4, _ => rfl
      | i + 5, h => absurd h (by omega)), rfl⟩, hq.2⟩
  | succ m =>
    have p0 := h.p0 (by omega)
    have p1 := h.p1 (by omega)
    have hc := h.cv (by omega)
    have hce := h.ce (by omega)
    exact (Tri.run (codeM _ _) (envR_ok hf) hr (ren_nb (r := r7_1 1) (by decide))).post fun e a w' hq => ⟨hq.1, _, _, nb b (r7 (m + 1) 1), ⟨h.next (s := 1) (c0 := fun i => if i < 4 then pcl b i else (false, ⟨#[]⟩)) (pp := (b 3).i) (ad := (nb b (r7 (m + 1) 1) 23).s) hlt (by decide) (show VCell true _ from v1_ok _) (fun i hi => match i, hi with
      | 0, _ => hce 0 (by decide)
      | 1, _ => hce 1 (by decide)
      | 2, _ => hce 2 (by decide)
      | 3, _ => hce 3 (by decide)
      | 4, _ => h.w4.symm
      | i + 5, h => absurd h (by omega)) (fun i hi => match i, hi with
      | 0, _ => hc 0 (by decide)
      | 1, _ => hc 1 (by decide)
      | 2, _ => hc 2 (by decide)
      | 3, _ => hc 3 (by decide)
      | 4, _ => v0_ok
      | i + 5, h => absurd h (by omega)) (by omega) rfl (by show [] ++ [_] = [_]; rfl) rfl rfl rfl rfl rfl rfl (fun i hi => match i, hi with
      | 0, _ => rfl
      | 1, _ => rfl
      | 2, _ => rfl
      | 3, _ => rfl
      | i + 4, h => absurd h (by omega)) (fun i hi => match i, hi with
      | 0, _ => rfl
      | 1, _ => rfl
      | 2, _ => rfl
      | 3, _ => rfl
      | 4, _ => rfl
      | i + 5, h => absurd h (by omega)), rfl⟩, hq.2⟩
theorem rd3_1 (h : JW d51 w n0 k H b) (hl : d51.length ≤ 30) (hlt : (b 7).i < d51.length) {x : Int} (hx : (vb b g z).i (.f2 (100 + 0) (.v 51) (.v 7)) = x) (x0 : 0 ≤ x) (x1 : x ≤ 255) (hs : x.tmod 5 = 1) :
    Tri Tryz.prog N lwB3 (At w0 N (vb b g z) (st3 k)) fun e a w' => e = .normal ∧ ∃ k' H' b', (JW d51 w n0 k' H' b' ∧ H'.length = H.length + 1) ∧ At w0 N (vb b' g z) (st3 k') a w' := by
  have hf := facts_app (fg7_ok (s := 1) hx x0 x1 hs) (facts_app (fIn3_ok h.s h.ln (by rw [h.ix]; omega) hl hlt) (fK_ok h hl))
  have hr := RU3 k h.ks.lt (ks_ne h.ks h.h1) 1 (by decide)
  unfold run3 at hr
  exact (Tri.run (codeM _ _) (envR_ok hf) hr (ren_nb (r := r3 1) (by decide))).post fun e a w' hq => ⟨hq.1, _, _, nb b (r3 1), ⟨h.next (s := 1) (ad := (nb b (r3 1) 23).s) hl hlt (by decide) (show VCell true _ from v1_ok _) rfl rfl rfl rfl rfl rfl rfl rfl (fun i hi => match i, hi with
      | 0, _ => rfl
      | 1, _ => rfl
      | 2, _ => rfl
      | 3, _ => rfl
      | i + 4, h => absurd h (by omega)) (fun i hi => match i, hi with
      | 0, _ => rfl
      | 1, _ => rfl
      | 2, _ => rfl
      | 3, _ => rfl
      | 4, _ => rfl
      | i + 5, h => absurd h (by omega)), by simp⟩, hq.2⟩
theorem rd7_2 (h : JS d51 w m n0 b) (hl : d51.length ≤ 30) (hlt : (b 7).i < d51.length) {x : Int} (hx : (vb b g z).i (.f2 (100 + 0) (.v 51) (.v 7)) = x) (x0 : 0 ≤ x) (x1 : x ≤ 255) (hs : x.tmod 5 = 2) :
    Tri Tryz.prog N lwB3 (At w0 N (vb b g z) (stB m)) fun e a w' => e = .normal ∧ ∃ k' H' b', (JW d51 w n0 k' H' b' ∧ H'.length = 1) ∧ At w0 N (vb b' g z) (st3 k') a w' := by
  have hf := facts_app (fg7_ok (s := 2) hx x0 x1 hs) (facts_app (fIn3_ok h.s h.ln (by rw [h.ix]; decide) hl hlt) (fB_ok h))
  have hr := RU7 m h.z5
  unfold run7q at hr
  have hr := (Bool.and_eq_true_iff.1 (Bool.and_eq_true_iff.1 (Bool.and_eq_true_iff.1 hr).1).2).1
  unfold run7 at hr
  cases m with
  | zero =>
    have n00 := h.z0 rfl
    have e0 : (b 0).d = [] := List.eq_nil_of_length_eq_zero (by rw [h.n, n00])
    have hw := h.wz rfl
    exact (Tri.run (codeM _ _) (envR_ok hf) hr (ren_nb (r := r7_0 2) (by decide))).post fun e a w' hq => ⟨hq.1, _, _, nb b (r7 0 2), ⟨h.next (s := 2) (c0 := fun _ => (false, ⟨#[]⟩)) (pp := 0) (ad := (nb b (r7 0 2) 25).s) hlt (by decide) (show VCell true _ from v1_ok _) (fun i _ => (hw i).symm) (fun _ _ => v0_ok) (by omega) (by rw [e0]; rfl) (by rw [e0]; rfl) (by rw [e0]; rfl) (by rw [e0]; rfl) rfl rfl rfl rfl (fun i hi => match i, hi with
      | 0, _ => rfl
      | 1, _ => rfl
      | 2, _ => rfl
      | 3, _ => rfl
      | i + 4, h => absurd h (by omega)) (fun i hi => match i, hi with
      | 0, _ => rfl
      | 1, _ => rfl
      | 2, _ => rfl
      | 3, _ => rfl
      | 4, _ => rfl
      | i + 5, h => absurd h (by omega)), rfl⟩, hq.2⟩
  | succ m =>
    have p0 := h.p0 (by omega)
    have p1 := h.p1 (by omega)
    have hc := h.cv (by omega)
    have hce := h.ce (by omega)
    exact (Tri.run (codeM _ _) (envR_ok hf) hr (ren_nb (r := r7_1 2) (by decide))).post fun e a w' hq => ⟨hq.1, _, _, nb b (r7 (m + 1) 2), ⟨h.next (s := 2) (c0 := fun i => if i < 4 then pcl b i else (false, ⟨#[]⟩)) (pp := (b 3).i) (ad := (nb b (r7 (m + 1) 2) 25).s) hlt (by decide) (show VCell true _ from v1_ok _) (fun i hi => match i, hi with
      | 0, _ => hce 0 (by decide)
      | 1, _ => hce 1 (by decide)
      | 2, _ => hce 2 (by decide)
      | 3, _ => hce 3 (by decide)
      | 4, _ => h.w4.symm
      | i + 5, h => absurd h (by omega)) (fun i hi => match i, hi with
      | 0, _ => hc 0 (by decide)
      | 1, _ => hc 1 (by decide)
      | 2, _ => hc 2 (by decide)
      | 3, _ => hc 3 (by decide)
      | 4, _ => v0_ok
      | i + 5, h => absurd h (by omega)) (by omega) rfl (by show [] ++ [_] = [_]; rfl) rfl rfl rfl rfl rfl rfl (fun i hi => match i, hi with
      | 0, _ => rfl
      | 1, _ => rfl
      | 2, _ => rfl
      | 3, _ => rfl
      | i + 4, h => absurd h (by omega)) (fun i hi => match i, hi with
      | 0, _ => rfl
      | 1, _ => rfl
      | 2, _ => rfl
      | 3, _ => rfl
      | 4, _ => rfl
      | i + 5, h => absurd h (by omega)), rfl⟩, hq.2⟩
theorem rd3_2 (h : JW d51 w n0 k H b) (hl : d51.length ≤ 30) (hlt : (b 7).i < d51.length) {x : Int} (hx : (vb b g z).i (.f2 (100 + 0) (.v 51) (.v 7)) = x) (x0 : 0 ≤ x) (x1 : x ≤ 255) (hs : x.tmod 5 = 2) :
    Tri Tryz.prog N lwB3 (At w0 N (vb b g z) (st3 k)) fun e a w' => e = .normal ∧ ∃ k' H' b', (JW d51 w n0 k' H' b' ∧ H'.length = H.length + 1) ∧ At w0 N (vb b' g z) (st3 k') a w' := by
  have hf := facts_app (fg7_ok (s := 2) hx x0 x1 hs) (facts_app (fIn3_ok h.s h.ln (by rw [h.ix]; omega) hl hlt) (fK_ok h hl))
  have hr := RU3 k h.ks.lt (ks_ne h.ks h.h1) 2 (by decide)
  unfold run3 at hr
  exact (Tri.run (codeM _ _) (envR_ok hf) hr (ren_nb (r := r3 2) (by decide))).post fun e a w' hq => ⟨hq.1, _, _, nb b (r3 2), ⟨h.next (s := 2) (ad := (nb b (r3 2) 25).s) hl hlt (by decide) (show VCell true _ from v1_ok _) rfl rfl rfl rfl rfl rfl rfl rfl (fun i hi => match i, hi with
      | 0, _ => rfl
      | 1, _ => rfl
      | 2, _ => rfl
      | 3, _ => rfl
      | i + 4, h => absurd h (by omega)) (fun i hi => match i, hi with
      | 0, _ => rfl
      | 1, _ => rfl
      | 2, _ => rfl
      | 3, _ => rfl
      | 4, _ => rfl
      | i + 5, h => absurd h (by omega)), by simp⟩, hq.2⟩
theorem rd7_3 (h : JS d51 w m n0 b) (hl : d51.length ≤ 30) (hlt : (b 7).i < d51.length) {x : Int} (hx : (vb b g z).i (.f2 (100 + 0) (.v 51) (.v 7)) = x) (x0 : 0 ≤ x) (x1 : x ≤ 255) (hs : x.tmod 5 = 3) :
    Tri Tryz.prog N lwB3 (At w0 N (vb b g z) (stB m)) fun e a w' => e = .normal ∧ ∃ k' H' b', (JW d51 w n0 k' H' b' ∧ H'.length = 1) ∧ At w0 N (vb b' g z) (st3 k') a w' := by
  have hf := facts_app (fg7_ok (s := 3) hx x0 x1 hs) (facts_app (fIn3_ok h.s h.ln (by rw [h.ix]; decide) hl hlt) (fB_ok h))
  have hr := RU7 m h.z5
  unfold run7q at hr
  have hr := (Bool.and_eq_true_iff.1 (Bool.and_eq_true_iff.1 (Bool.and_eq_true_iff.1 hr).1).2).2
  unfold run7 at hr
  cases m with
  | zero =>
    have n00 := h.z0 rfl
    have e0 : (b 0).d = [] := List.eq_nil_of_length_eq_zero (by rw [h.n, n00])
    have hw := h.wz rfl
    exact (Tri.run (codeM _ _) (envR_ok hf) hr (ren_nb (r := r7_0 3) (by decide))).post fun e a w' hq => ⟨hq.1, _, _, nb b (r7 0 3), ⟨h.next (s := 3) (c0 := fun _ => (false, ⟨#[]⟩)) (pp := 0) (ad := (nb b (r7 0 3) 27).s) hlt (by decide) (show VCell true _ from v1_ok _) (fun i _ => (hw i).symm) (fun _ _ => v0_ok) (by omega) (by rw [e0]; rfl) (by rw [e0]; rfl) (by rw [e0]; rfl) (by rw [e0]; rfl) rfl rfl rfl rfl (fun i hi => match i, hi with
      | 0, _ => rfl
      | 1, _ => rfl
      | 2, _ => rfl
      | 3, _ => rfl
      | i + 4, h => absurd h (by omega)) (fun i hi => match i, hi with
      | 0, _ => rfl
      | 1, _ => rfl
      | 2, _ => rfl
      | 3, _ => rfl
      | 4, _ => rfl
      | i + 5, h => absurd h (by omega)), rfl⟩, hq.2⟩
  | succ m =>
    have p0 := h.p0 (by omega)
    have p1 := h.p1 (by omega)
    have hc := h.cv (by omega)
    have hce := h.ce (by omega)
    exact (Tri.run (codeM _ _) (envR_ok hf) hr (ren_nb (r := r7_1 3) (by decide))).post fun e a w' hq => ⟨hq.1, _, _, nb b (r7 (m + 1) 3), ⟨h.next (s := 3) (c0 := fun i => if i < 4 then pcl b i else (false, ⟨#[]⟩)) (pp := (b 3).i) (ad := (nb b (r7 (m + 1) 3) 27).s) hlt (by decide) (show VCell true _ from v1_ok _) (fun i hi => match i, hi with
      | 0, _ => hce 0 (by decide)
      | 1, _ => hce 1 (by decide)
      | 2, _ => hce 2 (by decide)
      | 3, _ => hce 3 (by decide)
      | 4, _ => h.w4.symm
      | i + 5, h => absurd h (by omega)) (fun i hi => match i, hi with
      | 0, _ => hc 0 (by decide)
      | 1, _ => hc 1 (by decide)
      | 2, _ => hc 2 (by decide)
      | 3, _ => hc 3 (by decide)
      | 4, _ => v0_ok
      | i + 5, h => absurd h (by omega)) (by omega) rfl (by show [] ++ [_] = [_]; rfl) rfl rfl rfl rfl rfl rfl (fun i hi => match i, hi with
      | 0, _ => rfl
      | 1, _ => rfl
      | 2, _ => rfl
      | 3, _ => rfl
      | i + 4, h => absurd h (by omega)) (fun i hi => match i, hi with
      | 0, _ => rfl
      | 1, _ => rfl
      | 2, _ => rfl
      | 3, _ => rfl
      | 4, _ => rfl
      | i + 5, h => absurd h (by omega)), rfl⟩, hq.2⟩
theorem rd3_3 (h : JW d51 w n0 k H b) (hl : d51.length ≤ 30) (hlt : (b 7).i < d51.length) {x : Int} (hx : (vb b g z).i (.f2 (100 + 0) (.v 51) (.v 7)) = x) (x0 : 0 ≤ x) (x1 : x ≤ 255) (hs : x.tmod 5 = 3) :
    Tri Tryz.prog N lwB3 (At w0 N (vb b g z) (st3 k)) fun e a w' => e = .normal ∧ ∃ k' H' b', (JW d51 w n0 k' H' b' ∧ H'.length = H.length + 1) ∧ At w0 N (vb b' g z) (st3 k') a w' := by
  have hf := facts_app (fg7_ok (s := 3) hx x0 x1 hs) (facts_app (fIn3_ok h.s h.ln (by rw [h.ix]; omega) hl hlt) (fK_ok h hl))
  have hr := RU3 k h.ks.lt (ks_ne h.ks h.h1) 3 (by decide)
  unfold run3 at hr
  exact (Tri.run (codeM _ _) (envR_ok hf) hr (ren_nb (r := r3 3) (by decide))).post fun e a w' hq => ⟨hq.1, _, _, nb b (r3 3), ⟨h.next (s := 3) (ad := (nb b (r3 3) 27).s) hl hlt (by decide) (show VCell true _ from v1_ok _) rfl rfl rfl rfl rfl rfl rfl rfl (fun i hi => match i, hi with
      | 0, _ => rfl
      | 1, _ => rfl
      | 2, _ => rfl
      | 3, _ => rfl
      | i + 4, h => absurd h (by omega)) (fun i hi => match i, hi with
      | 0, _ => rfl
      | 1, _ => rfl
      | 2, _ => rfl
      | 3, _ => rfl
      | 4, _ => rfl
      | i + 5, h => absurd h (by omega)), by simp⟩, hq.2⟩
theorem rd7_4 (h : JS d51 w m n0 b) (hl : d51.length ≤ 30) (hlt : (b 7).i < d51.length) {x : Int} (hx : (vb b g z).i (.f2 (100 + 0) (.v 51) (.v 7)) = x) (x0 : 0 ≤ x) (x1 : x ≤ 255) (hs : x.tmod 5 = 4) :
    Tri Tryz.prog N lwB3 (At w0 N (vb b g z) (stB m)) fun e a w' => e = .normal ∧ ∃ k' H' b', (JW d51 w n0 k' H' b' ∧ H'.length = 1) ∧ At w0 N (vb b' g z) (st3 k') a w' := by
  have hf := facts_app (fg7_ok (s := 4) hx x0 x1 hs) (facts_app (fIn3_ok h.s h.ln (by rw [h.ix]; decide) hl hlt) (fB_ok h))
  have hr := RU7 m h.z5
  unfold run7q at hr
  have hr := (Bool.and_eq_true_iff.1 (Bool.and_eq_true_iff.1 hr).2).1
  unfold run7 at hr
  cases m with
  | zero =>
    have n00 := h.z0 rfl
    have e0 : (b 0).d = [] := List.eq_nil_of_length_eq_zero (by rw [h.n, n00])
    have hw := h.wz rfl
    exact (Tri.run (codeM _ _) (envR_ok hf) hr (ren_nb (r := r7_0 4) (by decide))).post fun e a w' hq => ⟨hq.1, _, _, nb b (r7 0 4), ⟨h.next (s := 4) (c0 := fun _ => (false, ⟨#[]⟩)) (pp := 0) (ad := (nb b (r7 0 4) 29).s) hlt (by decide) (show VCell true _ from v1_ok _) (fun i _ => (hw i).symm) (fun _ _ => v0_ok) (by omega) (by rw [e0]; rfl) (by rw [e0]; rfl) (by rw [e0]; rfl) (by rw [e0]; rfl) rfl rfl rfl rfl (fun i hi => match i, hi with
      | 0, _ => rfl
      | 1, _ => rfl
      | 2, _ => rfl
      | 3, _ => rfl
      | i + 4, h => absurd h (by omega)) (fun i hi => match i, hi with
      | 0, _ => rfl
      | 1, _ => rfl
      | 2, _ => rfl
      | 3, _ => rfl
      | 4, _ => rfl
      | i + 5, h => absurd h (by omega)), rfl⟩, hq.2⟩
  | succ m =>
    have p0 := h.p0 (by omega)
    have p1 := h.p1 (by omega)
    have hc := h.cv (by omega)
    have hce := h.ce (by omega)
    exact (Tri.run (codeM _ _) (envR_ok hf) hr (ren_nb (r := r7_1 4) (by decide))).post fun e a w' hq => ⟨hq.1, _, _, nb b (r7 (m + 1) 4), ⟨h.next (s := 4) (c0 := fun i => if i < 4 then pcl b i else (false, ⟨#[]⟩)) (pp := (b 3).i) (ad := (nb b (r7 (m + 1) 4) 29).s) hlt (by decide) (show VCell true _ from v1_ok _) (fun i hi => match i, hi with
      | 0, _ => hce 0 (by decide)
      | 1, _ => hce 1 (by decide)
      | 2, _ => hce 2 (by decide)
      | 3, _ => hce 3 (by decide)
      | 4, _ => h.w4.symm
      | i + 5, h => absurd h (by omega)) (fun i hi => match i, hi with
      | 0, _ => hc 0 (by decide)
      | 1, _ => hc 1 (by decide)
      | 2, _ => hc 2 (by decide)
      | 3, _ => hc 3 (by decide)
      | 4, _ => v0_ok
      | i + 5, h => absurd h (by omega)) (by omega) rfl (by show [] ++ [_] = [_]; rfl) rfl rfl rfl rfl rfl rfl (fun i hi => match i, hi with
      | 0, _ => rfl
      | 1, _ => rfl
      | 2, _ => rfl
      | 3, _ => rfl
      | i + 4, h => absurd h (by omega)) (fun i hi => match i, hi with
      | 0, _ => rfl
      | 1, _ => rfl
      | 2, _ => rfl
      | 3, _ => rfl
      | 4, _ => rfl
      | i + 5, h => absurd h (by omega)), rfl⟩, hq.2⟩
theorem rd3_4 (h : JW d51 w n0 k H b) (hl : d51.length ≤ 30) (hlt : (b 7).i < d51.length) {x : Int} (hx : (vb b g z).i (.f2 (100 + 0) (.v 51) (.v 7)) = x) (x0 : 0 ≤ x) (x1 : x ≤ 255) (hs : x.tmod 5 = 4) :
    Tri Tryz.prog N lwB3 (At w0 N (vb b g z) (st3 k)) fun e a w' => e = .normal ∧ ∃ k' H' b', (JW d51 w n0 k' H' b' ∧ H'.length = H.length + 1) ∧ At w0 N (vb b' g z) (st3 k') a w' := by
  have hf := facts_app (fg7_ok (s := 4) hx x0 x1 hs) (facts_app (fIn3_ok h.s h.ln (by rw [h.ix]; omega) hl hlt) (fK_ok h hl))
  have hr := RU3 k h.ks.lt (ks_ne h.ks h.h1) 4 (by decide)
  unfold run3 at hr
  exact (Tri.run (codeM _ _) (envR_ok hf) hr (ren_nb (r := r3 4) (by decide))).post fun e a w' hq => ⟨hq.1, _, _, nb b (r3 4), ⟨h.next (s := 4) (ad := (nb b (r3 4) 29).s) hl hlt (by decide) (show VCell true _ from v1_ok _) rfl rfl rfl rfl rfl rfl rfl rfl (fun i hi => match i, hi with
      | 0, _ => rfl
      | 1, _ => rfl
      | 2, _ => rfl
      | 3, _ => rfl
      | i + 4, h => absurd h (by omega)) (fun i hi => match i, hi with
      | 0, _ => rfl
      | 1, _ => rfl
      | 2, _ => rfl
      | 3, _ => rfl
      | 4, _ => rfl
      | i + 5, h => absurd h (by omega)), by simp⟩, hq.2⟩
abbrev WJ := (Nat → MV) ⊕ (Nat × List Wr × (Nat → MV))
def WAt (d51 : List (List DV)) (w : Nat → Cel) (m n0 : Nat) (w0 : World) (N : Nat) (g : Nm → Value) (z : Nat → Option Obj) (j : WJ) (a : Act) (w' : World) : Prop := match j with
  | .inl b => JS d51 w m n0 b ∧ At w0 N (vb b g z) (stB m) a w'
  | .inr (k, H, b) => JW d51 w n0 k H b ∧ At w0 N (vb b g z) (st3 k) a w'
def WMu (d51 : List (List DV)) (j : WJ) : Nat := match j with
  | .inl _ => d51.length
  | .inr (_, H, _) => d51.length - H.length
def WEnd (d51 : List (List DV)) (w : Nat → Cel) (m n0 : Nat) (w0 : World) (N : Nat) (g : Nm → Value) (z : Nat → Option Obj) (j : WJ) (a : Act) (w' : World) : Prop := match j with
  | .inl b => (JS d51 w m n0 b ∧ d51.length = 0) ∧ At w0 N (vb b g z) (stBx m) a w'
  | .inr (k, H, b) => (JW d51 w n0 k H b ∧ H.length = d51.length) ∧ At w0 N (vb b g z) (st3x k) a w'
theorem byte_of (hb : Byt d51) (h51 : (b 51).d = d51) (h0 : 0 ≤ (b 7).i) (hlt : (b 7).i < d51.length) : ∃ x : Int, (vb b g z).i (.f2 (100 + 0) (.v 51) (.v 7)) = x ∧ 0 ≤ x ∧ x ≤ 255 := by
  obtain ⟨i, hi⟩ := Int.eq_ofNat_of_zero_le h0
  obtain ⟨row, hrow⟩ := list_cases (d := d51) (i := i) (by omega)
  obtain ⟨x, rfl, x0, x1⟩ := hb i row hrow
  have hy : ((vb b g z).d (.v 51))[i]? = some [DV.i x] := (congrArg (fun x : List (List DV) => x[i]?) h51).trans hrow
  exact ⟨x, ci_row hy (show (vb b g z).i (.v 7) = i from hi) 0 (by decide) rfl, x0, x1⟩
theorem round7 (h : JS d51 w m n0 b) (hb : Byt d51) (hl : d51.length ≤ 30) (hlt : (b 7).i < d51.length) : Tri Tryz.prog N lwB3 (At w0 N (vb b g z) (stB m)) fun e a w' => e = .normal ∧ ∃ k' H' b', (JW d51 w n0 k' H' b' ∧ H'.length = 1) ∧ At w0 N (vb b' g z) (st3 k') a w' := by
  obtain ⟨x, hx, x0, x1⟩ := byte_of (g := g) (z := z) hb h.s (by rw [h.ix]; decide) hlt
  rcases tmod_cases5 x0 with hs | hs | hs | hs | hs
  · exact rd7_0 h hl hlt hx x0 x1 hs
  · exact rd7_1 h hl hlt hx x0 x1 hs
  · exact rd7_2 h hl hlt hx x0 x1 hs
  · exact rd7_3 h hl hlt hx x0 x1 hs
  · exact rd7_4 h hl hlt hx x0 x1 hs
theorem round3 (h : JW d51 w n0 k H b) (hb : Byt d51) (hl : d51.length ≤ 30) (hlt : (b 7).i < d51.length) : Tri Tryz.prog N lwB3 (At w0 N (vb b g z) (st3 k)) fun e a w' => e = .normal ∧ ∃ k' H' b', (JW d51 w n0 k' H' b' ∧ H'.length = H.length + 1) ∧ At w0 N (vb b' g z) (st3 k') a w' := by
  obtain ⟨x, hx, x0, x1⟩ := byte_of (g := g) (z := z) hb h.s (by rw [h.ix]; omega) hlt
  rcases tmod_cases5 x0 with hs | hs | hs | hs | hs
  · exact rd3_0 h hl hlt hx x0 x1 hs
  · exact rd3_1 h hl hlt hx x0 x1 hs
  · exact rd3_2 h hl hlt hx x0 x1 hs
  · exact rd3_3 h hl hlt hx x0 x1 hs
  · exact rd3_4 h hl hlt hx x0 x1 hs
theorem fOx_ok (h : JS d51 w m n0 b) (h0 : d51.length = 0) : ∀ f ∈ fOx, f.holds QR (vb b g z) := by
  have hn := h.ln
  have hi := h.ix
  have hf : (((b 51).d.length : Nat) : Int) = d51.length := by rw [h.s]
  exact facts_cons ⟨(by show (0 : Int) ≤ (((b 51).d.length : Nat) : Int); omega), (by show (((b 51).d.length : Nat) : Int) ≤ 0; omega)⟩ (facts_cons ⟨(by show (0 : Int) ≤ (b 8).i; omega), (by show (b 8).i ≤ 0; omega)⟩ (facts_cons ⟨(by show (0 : Int) ≤ (b 7).i; omega), (by show (b 7).i ≤ 0; omega)⟩
    (facts_cons ⟨(by show (0 : Int) ≤ (b 7).i - (b 8).i; omega), (by show (b 7).i - (b 8).i ≤ 0; omega)⟩ facts_nil)))
theorem loop3 (hb : Byt d51) (hl : d51.length ≤ 30) : Tri Tryz.prog N (.block 0 (.loop lwB3)) (fun a w' => ∃ j, WAt d51 w m n0 w0 N g z j a w') fun e a w' => e = .normal ∧ ∃ j, WEnd d51 w m n0 w0 N g z j a w' := by
  refine Tri.block ?_
  refine (Tri.loop (Post := fun e a w' => e = .exit 0 ∧ ∃ j, WEnd d51 w m n0 w0 N g z j a w') (WMu d51) (WAt d51 w m n0 w0 N g z) fun j => ?_).post fun e a w h => .inl ⟨.inr h.1, rfl, h.2⟩
  rcases j with b | ⟨k, H, b⟩
  · refine Tri.imp fun hj => ?_
    have h0 := hj.ix
    by_cases hlt : (b 7).i < d51.length
    · refine (round7 hj hb hl hlt).post fun e a w' hq => .inl ⟨hq.1, ?_⟩
      obtain ⟨_, k', H', b', ⟨h1, h2⟩, h3⟩ := hq
      exact ⟨.inr (k', H', b'), (by show d51.length - H'.length < d51.length; omega), h1, h3⟩
    · have hz : d51.length = 0 := by omega
      have hr := RU7 m hj.z5
      unfold run7q at hr
      have hr := (Bool.and_eq_true_iff.1 (Bool.and_eq_true_iff.1 (Bool.and_eq_true_iff.1 hr).2).2).1
      unfold run7x at hr
      obtain ⟨hid, hok⟩ := rBx_id m
      refine (Tri.run (codeM _ _) (envR_ok (fOx_ok hj hz)) hr (ren_nb hok)).post fun e a w hq => .inr ⟨by rw [hq.1]; exact fun h => (nomatch h), hq.1, .inl b, ⟨hj, hz⟩, ?_⟩
      have := hq.2
      rw [nb_all hid] at this
      exact this
  · refine Tri.imp fun hj => ?_
    have h0 := hj.ix
    have h1 := hj.hl
    by_cases hlt : (b 7).i < d51.length
    · refine (round3 hj hb hl hlt).post fun e a w' hq => .inl ⟨hq.1, ?_⟩
      obtain ⟨_, k', H', b', ⟨h1, h2⟩, h3⟩ := hq
      exact ⟨.inr (k', H', b'), (by show d51.length - H'.length < d51.length - H.length; omega), h1, h3⟩
    · have hr := (Bool.and_eq_true_iff.1 (RU3q k hj.ks.lt (ks_ne hj.ks hj.h1))).1
      unfold run3x at hr
      have hid : rx3.idEx [] = true := by decide
      refine (Tri.run (codeM _ _) (envR_ok (fOut3_ok hj hl hlt)) hr (ren_nb (by decide))).post fun e a w hq => .inr ⟨by rw [hq.1]; exact fun h => (nomatch h), hq.1, .inr (k, H, b), ⟨hj, by omega⟩, ?_⟩
      have := hq.2
      rw [nb_all hid] at this
      exact this
end
end Go.Proofs.YtnofmmceafkkoaaGreat
