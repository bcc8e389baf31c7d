/-
  A verified evaluator: a string that is not known, of which only bounds on its length are: terms over it, their lengths, and what is decided by them. Functions of the program's that take such strings.
-/
import Derived.Test.YtmbbciidknchiaaGreatNat1
set_option linter.unusedVariables false
namespace Go.Proofs.YtmbbciidknchiaaGreat
open Go.RowKit
/-- the names mean what their terms say -/
structure Std (ρ : Vn) : Prop where
  lit : ∀ l, ρ.s (.lit l) = ⟨(l.map UInt8.ofNat).toArray⟩
  num : ∀ n, ρ.i (.num n) = n
  cat : ∀ a b, ρ.s (.f2 0 a b) = ⟨(ρ.s a).data ++ (ρ.s b).data⟩
  zeros : ∀ a, ρ.s (.f1 1 a) = ⟨(Lib.repeatL [0] (ρ.i a).toNat).toArray⟩
  len : ∀ a, ρ.i (.f1 2 a) = (ρ.s a).size
  sub : ∀ c a, ρ.i (.f2 3 (.num c) a) = c - ρ.i a
  sum : ∀ a, ρ.i (.f1 4 a) = (crcF (ρ.s a).data.toList : Nat)
  put : ∀ k a b, 1 ≤ k → k ≤ 8 → ρ.s (.f2 (10 + k) a b) = ⟨((ρ.s a).data.toList ++ putL (ρ.i b) k).toArray⟩
/-- such a meaning, out of that of the variables -/
def stdV (bs : Nat → ByteArray) (bi : Nat → Int) : Nm → ByteArray × Int
  | .v n => (bs n, bi n)
  | .lit l => (⟨(l.map UInt8.ofNat).toArray⟩, 0)
  | .num n => (⟨#[]⟩, n)
  | .f1 f a => if f = 1 then (⟨(Lib.repeatL [0] (stdV bs bi a).2.toNat).toArray⟩, 0) else if f = 2 then (⟨#[]⟩, (stdV bs bi a).1.size) else (⟨#[]⟩, (crcF (stdV bs bi a).1.data.toList : Nat))
  | .f2 f a b => if f = 0 then (⟨(stdV bs bi a).1.data ++ (stdV bs bi b).1.data⟩, 0) else if f = 3 then (⟨#[]⟩, (stdV bs bi a).2 - (stdV bs bi b).2) else (⟨((stdV bs bi a).1.data.toList ++ putL (stdV bs bi b).2 (f - 10)).toArray⟩, 0)
def stdVn (bs : Nat → ByteArray) (bi : Nat → Int) : Vn := ⟨fun t => (stdV bs bi t).2, fun t => (stdV bs bi t).1⟩
theorem stdVn_ok (bs : Nat → ByteArray) (bi : Nat → Int) : Std (stdVn bs bi) where
  lit := fun l => rfl
  num := fun n => rfl
  cat := fun a b => rfl
  zeros := fun a => rfl
  len := fun a => rfl
  sub := fun c a => rfl
  sum := fun a => rfl
  put := fun k a b h1 h2 => by
    show (stdV bs bi (.f2 (10 + k) a b)).1 = _
    have e1 : ¬ (10 + k = 0) := by omega
    have e2 : ¬ (10 + k = 3) := by omega
    simp only [stdV, if_neg e1, if_neg e2, Nat.add_sub_cancel_left]
    rfl
/-- a linear form in the unknown length: constant and factor -/
abbrev LF := Int × Int
def addL (x y : LF) : LF := (x.1 + y.1, x.2 + y.2)
/-- lengths of strings, and numbers, as linear forms in the length of variable d -/
def lin (d : Nat) : Nm → Option LF × Option LF
  | .v n => (bif Nat.beq n d then some (0, 1) else none, none)
  | .lit l => (some (Int.ofNat l.length, 0), none)
  | .num n => (none, some (n, 0))
  | .f1 f a => bif Nat.beq f 2 then (none, (lin d a).1) else bif Nat.beq f 1 then (match (lin d a).2 with | some (c, k) => bif decide (0 ≤ c) && decide (0 ≤ c + 12 * k) then some (c, k) else none | none => none, none) else (none, none)
  | .f2 f a b => bif Nat.beq f 0 then (match (lin d a).1, (lin d b).1 with | some x, some y => some (addL x y) | _, _ => none, none)
    else bif Nat.beq f 3 then (none, match (lin d a).2, (lin d b).2, a with | some x, some y, .num c => some (c - y.1, - y.2) | _, _, _ => none)
    else bif Nat.ble 11 f && Nat.ble f 18 then (match (lin d a).1 with | some x => some (addL x (Int.ofNat (f - 10), 0)) | none => none, none) else (none, none)
/-- what linear forms are worth -/
def LF.val (x : LF) (L : Nat) : Int := x.1 + x.2 * L
theorem size_eq (y : ByteArray) : y.size = y.data.toList.length := by simp
theorem lin_ok {ρ : Vn} (h : Std ρ) {d : Nat} (hL : (ρ.s (.v d)).size ≤ 12) : ∀ t : Nm, (∀ x, (lin d t).1 = some x → ((ρ.s t).size : Int) = x.val (ρ.s (.v d)).size) ∧ (∀ x, (lin d t).2 = some x → ρ.i t = x.val (ρ.s (.v d)).size)
  | .v n => by
    refine ⟨fun x e => ?_, fun x e => (by cases e)⟩
    simp only [lin] at e
    cases hb : Nat.beq n d with
    | false => rw [hb] at e; cases e
    | true =>
      rw [hb] at e; cases e
      have := Nat.eq_of_beq_eq_true hb
      subst this
      simp [LF.val]
  | .lit l => by
    refine ⟨fun x e => ?_, fun x e => (by cases e)⟩
    cases e
    rw [h.lit, size_eq]
    simp [LF.val]
  | .num n => by
    refine ⟨fun x e => (by cases e), fun x e => ?_⟩
    cases e
    rw [h.num]
    simp [LF.val]
  | .f1 f a => by
    obtain ⟨ih1, ih2⟩ := lin_ok h hL a
    simp only [lin]
    cases h2 : Nat.beq f 2 with
    | true =>
      have := Nat.eq_of_beq_eq_true h2
      subst this
      refine ⟨fun x e => (by cases e), fun x e => ?_⟩
      rw [h.len]
      exact ih1 x e
    | false =>
      cases h1 : Nat.beq f 1 with
      | false => exact ⟨fun x e => (by cases e), fun x e => (by cases e)⟩
      | true =>
        have := Nat.eq_of_beq_eq_true h1
        subst this
        refine ⟨fun x e => ?_, fun x e => (by cases e)⟩
        simp only [cond_false, cond_true] at e
        split at e
        · rename_i c k hck
          cases hb : (decide (0 ≤ c) && decide (0 ≤ c + 12 * k)) with
          | false => rw [hb] at e; cases e
          | true =>
            rw [hb] at e
            cases e
            rw [Bool.and_eq_true, decide_eq_true_eq, decide_eq_true_eq] at hb
            have hv := ih2 (c, k) hck
            have hpos : 0 ≤ ρ.i a := by
              rw [hv]
              show 0 ≤ c + k * ((ρ.s (.v d)).size : Int)
              generalize (ρ.s (.v d)).size = L at hL
              rcases Int.le_total 0 k with hk | hk
              · have := Int.mul_nonneg hk (Int.natCast_nonneg L); omega
              · have h3 : k * 12 ≤ k * (L : Int) := Int.mul_le_mul_of_nonpos_left hk (by omega)
                omega
            rw [h.zeros, ← hv, size_eq]
            simp [Lib.repeatL_length]
            omega
        · cases e
  | .f2 f a b => by
    obtain ⟨ia1, ia2⟩ := lin_ok h hL a
    obtain ⟨ib1, ib2⟩ := lin_ok h hL b
    simp only [lin]
    cases h0 : Nat.beq f 0 with
    | true =>
      have := Nat.eq_of_beq_eq_true h0
      subst this
      refine ⟨fun x e => ?_, fun x e => (by cases e)⟩
      simp only [cond_true] at e
      split at e
      · rename_i x1 y1 hx hy
        cases e
        have e1 := ia1 x1 hx
        have e2 := ib1 y1 hy
        rw [h.cat, size_eq]
        simp only [Array.toList_append, List.length_append]
        rw [← size_eq, ← size_eq]
        simp only [LF.val, addL] at *
        rw [Int.add_mul]
        push_cast
        omega
      · cases e
    | false =>
      cases h3 : Nat.beq f 3 with
      | true =>
        have := Nat.eq_of_beq_eq_true h3
        subst this
        refine ⟨fun x e => (by cases e), fun x e => ?_⟩
        simp only [cond_true, cond_false] at e
        split at e
        · rename_i x1 y1 c hx hy
          cases e
          have e2 := ib2 y1 hx
          rw [h.sub, e2]
          simp only [LF.val]
          rw [Int.neg_mul]
          omega
        · cases e
      | false =>
        cases hb : (Nat.ble 11 f && Nat.ble f 18) with
        | false => exact ⟨fun x e => (by cases e), fun x e => (by cases e)⟩
        | true =>
          rw [Bool.and_eq_true] at hb
          have b1 := Nat.le_of_ble_eq_true hb.1
          have b2 := Nat.le_of_ble_eq_true hb.2
          refine ⟨fun x e => ?_, fun x e => (by cases e)⟩
          simp only [cond_true, cond_false] at e
          split at e
          · rename_i x1 hx
            cases e
            have e1 := ia1 x1 hx
            obtain ⟨k, rfl⟩ : ∃ k, f = 10 + k := ⟨f - 10, by omega⟩
            rw [h.put k a b (by omega) (by omega), size_eq]
            simp only [List.toList_toArray, List.length_append, putL_length]
            rw [← size_eq]
            simp only [LF.val, addL] at *
            rw [Nat.add_sub_cancel_left, Int.add_zero]
            push_cast
            simp only [Int.ofNat_eq_natCast]
            omega
          · cases e
end Go.Proofs.YtmbbciidknchiaaGreat
