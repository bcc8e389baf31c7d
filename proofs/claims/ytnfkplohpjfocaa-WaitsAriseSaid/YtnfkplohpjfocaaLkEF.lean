/-
  Which tables of locks are valid: plain.
-/
import Derived.Test.YtnfkplohpjfocaaLkD
set_option linter.unusedVariables false
set_option linter.unusedSimpArgs false
namespace Go.Proofs.Ytnfkplohpjfocaa
open Go.RowKit
def heldAt (hs : List G) (i : Nat) : Bool := match hs[i]? with
  | some g => validG g && (match i with | 0 => true | k + 1 => match hs[k]? with | some y => decide (ordI y g < 0) && !conflictB y g | none => true)
  | none => true
def waitAt (hs ws : List G) (i : Nat) : Bool := match ws[i]? with
  | some g => validG g && decide (modeF hs g < g.mode) && !((ws.take i).any fun x => x.tx == g.tx)
  | none => true
def heldOk (hs : List G) : Bool := (List.range hs.length).all (heldAt hs)
def waitOk (hs ws : List G) : Bool := (List.range ws.length).all (waitAt hs ws)
def validT (hs ws : List G) : Bool := decide (hs.length + ws.length ≤ 1024) && heldOk hs && waitOk hs ws
theorem heldOk_of {hs : List G} (h : ∀ j, j < hs.length → heldAt hs j = true) : heldOk hs = true := by
  unfold heldOk; rw [List.all_eq_true]; intro j hj; exact h j (by simpa using hj)
theorem heldOk_no {hs : List G} {i : Nat} (hi : i < hs.length) (h : heldAt hs i = false) : heldOk hs = false := by
  unfold heldOk; rw [List.all_eq_false]; exact ⟨i, by simpa using hi, by simp [h]⟩
theorem waitOk_of {hs ws : List G} (h : ∀ j, j < ws.length → waitAt hs ws j = true) : waitOk hs ws = true := by
  unfold waitOk; rw [List.all_eq_true]; intro j hj; exact h j (by simpa using hj)
theorem waitOk_no {hs ws : List G} {i : Nat} (hi : i < ws.length) (h : waitAt hs ws i = false) : waitOk hs ws = false := by
  unfold waitOk; rw [List.all_eq_false]; exact ⟨i, by simpa using hi, by simp [h]⟩
theorem sorted_of {hs : List G} (h : ∀ (i : Nat) (x y : G), hs[i]? = some x → hs[i + 1]? = some y → ltG x y) : sortedG hs := by
  unfold sortedG
  rw [List.pairwise_iff_getElem]
  intro i j hi hj hij
  obtain ⟨d, rfl⟩ : ∃ d, j = i + 1 + d := ⟨j - i - 1, by omega⟩
  induction d with
  | zero => exact h i _ _ (List.getElem?_eq_getElem hi) (List.getElem?_eq_getElem hj)
  | succ d ih =>
    have h1 := ih (by omega) (by omega)
    have h2 := h (i + 1 + d) _ _ (List.getElem?_eq_getElem (by omega)) (List.getElem?_eq_getElem (show i + 1 + d + 1 < hs.length by omega))
    exact ltG_trans h1 h2
theorem heldAt_sorted {hs : List G} (h : ∀ j, j < hs.length → heldAt hs j = true) : sortedG hs := by
  refine sorted_of fun i x y hx hy => ?_
  have := h (i + 1) (List.getElem?_eq_some_iff.1 hy).1
  unfold heldAt at this
  rw [hy] at this
  simp only [hx, Bool.and_eq_true, decide_eq_true_eq] at this
  exact ordI_lt.1 this.2.1
theorem heldOk_all {hs : List G} (h : heldOk hs = true) : ∀ j, j < hs.length → heldAt hs j = true := by
  unfold heldOk at h; rw [List.all_eq_true] at h; intro j hj; exact h j (by simpa using hj)
theorem validT_sorted {hs ws : List G} (h : validT hs ws = true) : sortedG hs := by
  unfold validT at h
  simp only [Bool.and_eq_true] at h
  exact heldAt_sorted (heldOk_all h.1.2)
theorem validT_len {hs ws : List G} (h : validT hs ws = true) : hs.length + ws.length ≤ 1024 := by
  unfold validT at h
  simp only [Bool.and_eq_true, decide_eq_true_eq] at h
  exact h.1.1
theorem validT_no1 {hs ws : List G} (h : ¬ hs.length + ws.length ≤ 1024) : validT hs ws = false := by simp [validT, h]
theorem validT_no2 {hs ws : List G} (h : heldOk hs = false) : validT hs ws = false := by simp [validT, h]
theorem validT_no3 {hs ws : List G} (h : waitOk hs ws = false) : validT hs ws = false := by simp [validT, h]
theorem validT_yes {hs ws : List G} (h1 : hs.length + ws.length ≤ 1024) (h2 : heldOk hs = true) (h3 : waitOk hs ws = true) : validT hs ws = true := by simp [validT, h1, h2, h3]
section
variable {hs ws : List G} {i : Nat} {x y : G}
theorem heldAt_bad1 (hx : hs[i]? = some x) (h : validG x = false) : heldAt hs i = false := by unfold heldAt; rw [hx]; simp [h]
theorem heldAt_zero (hx : hs[0]? = some x) (h : validG x = true) : heldAt hs 0 = true := by unfold heldAt; rw [hx]; simp [h]
theorem heldAt_bad2 (hx : hs[i + 1]? = some x) (hy : hs[i]? = some y) (h : 0 ≤ ordI y x) : heldAt hs (i + 1) = false := by
  unfold heldAt; rw [hx]
  have : ¬ ordI y x < 0 := by omega
  simp [hy, this]
theorem heldAt_bad3 (hx : hs[i + 1]? = some x) (hy : hs[i]? = some y) (h : conflictB y x = true) : heldAt hs (i + 1) = false := by unfold heldAt; rw [hx]; simp [hy, h]
theorem heldAt_good (hx : hs[i + 1]? = some x) (hy : hs[i]? = some y) (h0 : validG x = true) (h1 : ordI y x < 0) (h : conflictB y x = false) : heldAt hs (i + 1) = true := by unfold heldAt; rw [hx]; simp [hy, h, h0, h1]
theorem waitAt_bad1 (hx : ws[i]? = some x) (h : validG x = false) : waitAt hs ws i = false := by unfold waitAt; rw [hx]; simp [h]
theorem waitAt_bad2 (hx : ws[i]? = some x) (h : x.mode ≤ modeF hs x) : waitAt hs ws i = false := by
  unfold waitAt; rw [hx]
  have : ¬ modeF hs x < x.mode := by omega
  simp [this]
theorem waitAt_bad3 (hx : ws[i]? = some x) (h : ((ws.take i).any fun z => z.tx == x.tx) = true) : waitAt hs ws i = false := by unfold waitAt; rw [hx]; simp only [h]; simp
theorem waitAt_good (hx : ws[i]? = some x) (h0 : validG x = true) (h1 : modeF hs x < x.mode) (h : ((ws.take i).any fun z => z.tx == x.tx) = false) : waitAt hs ws i = true := by unfold waitAt; rw [hx]; simp only [h, h0, h1]; simp
theorem all_next {p : Nat → Bool} {k : Nat} (h : ∀ j, j < k → p j = true) (hk : p k = true) : ∀ j, j < k + 1 → p j = true := fun j hj => by
  by_cases e : j = k
  · subst e; exact hk
  · exact h j (by omega)
end

theorem Ext.pbox {w w' : World} (k : Ext w w') {b : Nat} {T : TypeId} {cs : List Value} (h : PBox w b T cs) : PBox w' b T cs := h.same (k.block b h.lt)
end Go.Proofs.Ytnfkplohpjfocaa
