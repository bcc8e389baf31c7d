/-
  ChangeRows: the plain law: a row of changes of one cell, each from what the one before has left, joins to one change.
-/
import Derived.Test.YtlbhoepfcedkdaaRowJ
import Derived.Test.YtlbhoepfcedkdaaBackF
import Derived.Test.YtlbhoepfcedkdaaHg
namespace Go.Proofs.Ytlbhoepfcedkdaa
open Go.RowKit
/-- The change of a cell of page 2. -/
def chgOf (slot : Nat) (x y : Bool × ByteArray) : Chg := ⟨2, slot, x.1, x.2, y.1, y.2⟩
/-- The row of changes through these states. -/
def rowC (slot : Nat) (s : Nat → Bool × ByteArray) (k : Nat) : List Chg := (List.range k).map fun i => chgOf slot (s i) (s (i + 1))
def flat (xs : List Chg) : List Value := xs.flatMap Chg.lst
theorem rowC_length (slot : Nat) (s : Nat → Bool × ByteArray) (k : Nat) : (rowC slot s k).length = k := by simp [rowC]
theorem rowC_get (slot : Nat) (s : Nat → Bool × ByteArray) (k i : Nat) (h : i < k) : (rowC slot s k)[i]? = some (chgOf slot (s i) (s (i + 1))) := by simp [rowC, h]
theorem rowC_of {slot : Nat} {s : Nat → Bool × ByteArray} {k i : Nat} {c : Chg} (h : (rowC slot s k)[i]? = some c) : i < k ∧ c = chgOf slot (s i) (s (i + 1)) := by
  have hi : i < k := by have := (List.getElem?_eq_some_iff.1 h).1; simpa [rowC_length] using this
  rw [rowC_get slot s k i hi] at h
  exact ⟨hi, (Option.some.inj h).symm⟩
theorem flat_length : ∀ xs : List Chg, (flat xs).length = xs.length * 6
  | [] => rfl
  | x :: xs => by
    have := flat_length xs
    simp only [flat, List.flatMap_cons, List.length_append, List.length_cons] at this ⊢
    rw [this]
    simp only [Chg.lst, List.length_cons, List.length_nil]
    omega
theorem flat_get : ∀ (xs : List Chg) (i : Nat) (c : Chg), xs[i]? = some c → ∀ j v, c.lst[j]? = some v → (flat xs)[i * 6 + j]? = some v
  | x :: xs, 0, c, hc, j, v, hv => by
    simp at hc; subst hc
    have hj : j < x.lst.length := (List.getElem?_eq_some_iff.1 hv).1
    simp only [flat, List.flatMap_cons, Nat.zero_mul, Nat.zero_add]
    rw [List.getElem?_append_left hj]; exact hv
  | x :: xs, i + 1, c, hc, j, v, hv => by
    have := flat_get xs i c (by simpa using hc) j v hv
    have hl : x.lst.length = 6 := rfl
    simp only [flat, List.flatMap_cons] at this ⊢
    rw [List.getElem?_append_right (by omega), hl, show (i + 1) * 6 + j - 6 = i * 6 + j by omega]
    exact this
theorem rowAt_of {w : World} {g : Nat} {T : TypeId} {xs : List Chg} {junk : List Value} (h : PBox w g T (flat xs ++ junk)) : RowAt w g 0 xs := fun i c hi j v hj => by
  have h1 := flat_get xs i c hi j v hj
  have h2 : (flat xs ++ junk)[i * 6 + j]? = some v := by rw [List.getElem?_append_left (List.getElem?_eq_some_iff.1 h1).1]; exact h1
  have := h.cell h2
  simpa using this
theorem RowAt.take {w : World} {g off : Nat} {xs : List Chg} (h : RowAt w g off xs) (k : Nat) : RowAt w g off (xs.take k) := fun i c hi j v hj => by
  refine h i c ?_ j v hj
  rw [List.getElem?_take] at hi
  split at hi
  · exact hi
  · cases hi
theorem RowAt.drop {w : World} {g off : Nat} {xs : List Chg} (h : RowAt w g off xs) (k : Nat) : RowAt w g (off + k * 6) (xs.drop k) := fun i c hi j v hj => by
  rw [List.getElem?_drop] at hi
  have := h (k + i) c hi j v hj
  rw [show off + k * 6 + i * 6 + j = off + (k + i) * 6 + j by omega]
  exact this
/-- A state more. -/
def upd (s : Nat → Bool × ByteArray) (k : Nat) (x : Bool × ByteArray) : Nat → Bool × ByteArray := fun i => if i ≤ k then s i else x
theorem rowC_upd (slot : Nat) (s : Nat → Bool × ByteArray) (k : Nat) (x : Bool × ByteArray) : rowC slot (upd s k x) (k + 1) = rowC slot s k ++ [chgOf slot (s k) x] := by
  unfold rowC
  rw [List.range_succ, List.map_append]
  congr 1
  · apply List.map_congr_left
    intro i hi
    have : i < k := by simpa using hi
    have h1 : i ≤ k := by omega
    have h2 : i + 1 ≤ k := by omega
    simp [upd, h1, h2]
  · have h3 : ¬ k + 1 ≤ k := by omega
    simp [upd, h3]
theorem flat_upd (slot : Nat) (s : Nat → Bool × ByteArray) (k : Nat) (x : Bool × ByteArray) : flat (rowC slot (upd s k x) (k + 1)) = flat (rowC slot s k) ++ [.int .i64 2, .int .i64 slot, .bool (s k).1, .string (s k).2, .bool x.1, .string x.2] := by
  rw [rowC_upd]
  unfold flat
  rw [List.flatMap_append]
  rfl
section
variable {slot : Nat} {s : Nat → Bool × ByteArray}
theorem chgOf_ok (hs : slot < 16) (ok : ∀ i, cellOkB (s i).1 (s i).2 = true) (i j : Nat) : (chgOf slot (s i) (s j)).ok = true :=
  Chg.ok_of (p := 2) (by omega) hs (ok i) (ok j)
theorem join_row (hs : slot < 16) (ok : ∀ i, cellOkB (s i).1 (s i).2 = true) (i j k : Nat) : joinF (chgOf slot (s i) (s j)) (chgOf slot (s j) (s k)) = (chgOf slot (s i) (s k), 0) := by
  rw [joinF_is (chgOf_ok hs ok i j) (chgOf_ok hs ok j k) rfl rfl rfl]; rfl
/-- The page with this state. -/
def pgOf (lsn : Int) (l : List (Bool × ByteArray)) (slot : Nat) (x : Bool × ByteArray) : Pg := ⟨2, lsn, l.set slot x⟩
theorem apply_row {lsn : Int} {l : List (Bool × ByteArray)} (hl : l.length = 16) (hs : slot < 16) (ok : ∀ i, cellOkB (s i).1 (s i).2 = true) (i j : Nat) : applyF (pgOf lsn l slot (s i)) (chgOf slot (s i) (s j)) = (pgOf lsn l slot (s j), 0) := by
  have hc : (pgOf lsn l slot (s i)).cell (chgOf slot (s i) (s j)).slot.toNat = ((chgOf slot (s i) (s j)).bb, (chgOf slot (s i) (s j)).bd) := cell_set_same 2 lsn l slot (s i) (by omega)
  rw [applyF_ok (chgOf_ok hs ok i j) rfl hc]
  simp [pgOf, chgOf]
/-- What 'joined' makes of a part of the row. -/
theorem joined_part {w : World} {g n cap : Nat} {N : Nat} {off : Nat} (hs : slot < 16) (ok : ∀ i, cellOkB (s i).1 (s i).2 = true) (i : Nat) (xs : List Chg) (hx : ∀ k, k < n → xs[k]? = some (chgOf slot (s (i + k)) (s (i + k + 1)))) (hlen : xs.length = n) (hr : RowAt w g off xs) (hn0 : 1 ≤ n) (hcap : n ≤ cap) (hmax : cap ≤ maxLen) (hN : N = i + n) :
    Calls Try.prog 25 #[.slice (some ⟨g, off, none⟩) n cap] w fun e w' => e = .returned (.tuple #[.agg (chgOf slot (s i) (s N)).arr, .bool true]) ∧ Ext w w' := by
  subst hN
  have h := joined_any w g off n cap xs (fun k => chgOf slot (s i) (s (i + k + 1))) hr hlen hn0 hcap hmax (hx 0 (by omega)) (fun k x hk => by
    have hlt : k + 1 < n := by have := (List.getElem?_eq_some_iff.1 hk).1; omega
    rw [hx (k + 1) hlt] at hk
    cases hk
    exact join_row hs ok _ _ _)
  have e : i + (n - 1) + 1 = i + n := by omega
  simp only [e] at h
  exact h
end
end Go.Proofs.Ytlbhoepfcedkdaa
