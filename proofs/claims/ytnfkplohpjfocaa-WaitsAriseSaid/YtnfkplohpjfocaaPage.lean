/-
  Pages as rows of cells: plain lemmas; no function of the program is named here.
-/
import Derived.Test.YtnfkplohpjfocaaBase
set_option linter.unusedVariables false
set_option linter.unusedSimpArgs false
namespace Go.Proofs.Ytnfkplohpjfocaa
open Go.RowKit

/-- The cells of pages, one after the other. -/
def cellVals (l : List (Bool × ByteArray)) : List Value := l.flatMap fun x => [.bool x.1, .string x.2]
/-- A page as a row of 2 + 2 * 16 cells. -/
def pgLst (id lsn : Int) (l : List (Bool × ByteArray)) : List Value := Value.int .i64 id :: Value.int .i64 lsn :: cellVals l
abbrev pgArr (id lsn : Int) (l : List (Bool × ByteArray)) : Array Value := (pgLst id lsn l).toArray

theorem cellVals_length (l : List (Bool × ByteArray)) : (cellVals l).length = 2 * l.length := by
  induction l with
  | nil => rfl
  | cons x l ih => simp only [cellVals, List.flatMap_cons, List.length_append, List.length_cons, List.length_nil] at *; omega
theorem cellVals_get (l : List (Bool × ByteArray)) (i : Nat) (b : Bool) (s : ByteArray) (h : l[i]? = some (b, s)) : (cellVals l)[2 * i]? = some (.bool b) ∧ (cellVals l)[2 * i + 1]? = some (.string s) := by
  induction l generalizing i with
  | nil => simp at h
  | cons x l ih =>
    cases i with
    | zero => simp at h; subst h; exact ⟨rfl, rfl⟩
    | succ i =>
      have := ih i (by simpa using h)
      have e : 2 * (i + 1) = 2 * i + 1 + 1 := by omega
      have c : cellVals (x :: l) = .bool x.1 :: .string x.2 :: cellVals l := rfl
      rw [c, e]
      exact ⟨by simpa using this.1, by simpa using this.2⟩
theorem cellVals_set (l : List (Bool × ByteArray)) (i : Nat) (b : Bool) (s : ByteArray) : ((cellVals l).set (2 * i) (.bool b)).set (2 * i + 1) (.string s) = cellVals (l.set i (b, s)) := by
  induction l generalizing i with
  | nil => rfl
  | cons x l ih =>
    have c : cellVals (x :: l) = .bool x.1 :: .string x.2 :: cellVals l := rfl
    cases i with
    | zero => rfl
    | succ i =>
      have e : 2 * (i + 1) = 2 * i + 1 + 1 := by omega
      rw [c, e]
      have := ih i
      simp only [List.set_cons_succ]
      rw [this]
      rfl
theorem pgArr_size (id lsn : Int) (l : List (Bool × ByteArray)) : (pgArr id lsn l).size = 2 + 2 * l.length := by
  unfold pgArr pgLst; simp [cellVals_length]; omega
theorem pgArr_get0 (id lsn : Int) (l : List (Bool × ByteArray)) : (pgArr id lsn l)[0]? = some (.int .i64 id) := rfl
theorem pgArr_get1 (id lsn : Int) (l : List (Bool × ByteArray)) : (pgArr id lsn l)[1]? = some (.int .i64 lsn) := rfl
theorem pgArr_get (id lsn : Int) (l : List (Bool × ByteArray)) (i : Nat) (b : Bool) (s : ByteArray) (h : l[i]? = some (b, s)) :
    (pgArr id lsn l)[2 + i * 2]? = some (.bool b) ∧ (pgArr id lsn l)[2 + i * 2 + 1]? = some (.string s) := by
  have := cellVals_get l i b s h
  unfold pgArr pgLst
  rw [List.getElem?_toArray, List.getElem?_toArray, show 2 + i * 2 + 1 = (2 * i + 1) + 1 + 1 by omega, show 2 + i * 2 = (2 * i) + 1 + 1 by omega]
  exact this
theorem pgArr_set (id lsn : Int) (l : List (Bool × ByteArray)) (i : Nat) (b : Bool) (s : ByteArray) :
    ((pgArr id lsn l).setIfInBounds (2 + i * 2) (.bool b)).setIfInBounds (2 + i * 2 + 1) (.string s) = pgArr id lsn (l.set i (b, s)) := by
  unfold pgArr pgLst
  rw [← cellVals_set l i b s, show 2 + i * 2 + 1 = (2 * i + 1) + 1 + 1 by omega, show 2 + i * 2 = (2 * i) + 1 + 1 by omega]
  simp
theorem pgArr_set0 (id lsn x : Int) (l : List (Bool × ByteArray)) : (pgArr id lsn l).setIfInBounds 0 (.int .i64 x) = pgArr x lsn l := by unfold pgArr pgLst; simp
theorem pgArr_set1 (id lsn x : Int) (l : List (Bool × ByteArray)) : (pgArr id lsn l).setIfInBounds 1 (.int .i64 x) = pgArr id x l := by unfold pgArr pgLst; simp
theorem pgArr_one (id lsn : Int) (l : List (Bool × ByteArray)) : (pgArr id lsn l).all (·.oneCell') = true := by
  have h : ∀ l, (cellVals l).all (·.oneCell') = true := by
    intro l
    induction l with
    | nil => rfl
    | cons x l ih => have c : cellVals (x :: l) = .bool x.1 :: .string x.2 :: cellVals l := rfl; rw [c]; simpa [Value.oneCell'] using ih
  unfold pgArr pgLst
  rw [List.all_toArray]
  simpa [Value.oneCell'] using h l
theorem list_get_of_lt {α : Type} (l : List α) (i n : Nat) (h : l.length = n) (hi : i < n) : ∃ x, l[i]? = some x := ⟨l[i]'(by omega), List.getElem?_eq_getElem (by omega)⟩
theorem pgLst_length (id lsn : Int) (l : List (Bool × ByteArray)) : (pgLst id lsn l).length = 2 + 2 * l.length := by
  unfold pgLst; simp [cellVals_length]; omega
theorem pgLst_get (id lsn : Int) (l : List (Bool × ByteArray)) (i : Nat) (b : Bool) (s : ByteArray) (h : l[i]? = some (b, s)) :
    (pgLst id lsn l)[2 + i * 2]? = some (.bool b) ∧ (pgLst id lsn l)[2 + i * 2 + 1]? = some (.string s) := by
  have := pgArr_get id lsn l i b s h
  simpa only [List.getElem?_toArray] using this
theorem pgLst_set (id lsn : Int) (l : List (Bool × ByteArray)) (i : Nat) (b : Bool) (s : ByteArray) :
    ((pgLst id lsn l).set (2 + i * 2) (.bool b)).set (2 + i * 2 + 1) (.string s) = pgLst id lsn (l.set i (b, s)) := by
  unfold pgLst
  rw [← cellVals_set l i b s, show 2 + i * 2 + 1 = (2 * i + 1) + 1 + 1 by omega, show 2 + i * 2 = (2 * i) + 1 + 1 by omega]
  simp
theorem pgLst_one (id lsn : Int) (l : List (Bool × ByteArray)) : (pgLst id lsn l).all (·.oneCell') = true := by
  have := pgArr_one id lsn l
  rwa [List.all_toArray] at this
/-- Two stores into neighbouring cells of a row. -/
theorem heap_set2 (w : World) (g i j : Nat) (cs : Array Value) (t : TypeId) (u v : Value) (hg : w.heap[g]? = some (.cells cs t (0, 0))) :
    ((w.setCell ⟨g, i, none⟩ u).setCell ⟨g, j, none⟩ v).heap[g]? = some (.cells ((cs.setIfInBounds i u).setIfInBounds j v) t (0, 0)) := by
  rw [heap_setCell_same _ g j _ t v (heap_setCell_same w g i cs t u hg)]
/-- All cells of a page are valid. -/
def okCells (l : List (Bool × ByteArray)) : Prop := ∀ x ∈ l, x.2.size ≤ 12 ∧ (x.1 = false → x.2 = ⟨#[]⟩)
theorem okCells_set {l : List (Bool × ByteArray)} (h : okCells l) (i : Nat) (b : Bool) (s : ByteArray) (hs : s.size ≤ 12) (hb : b = false → s = ⟨#[]⟩) : okCells (l.set i (b, s)) := by
  intro x hx
  rcases List.mem_or_eq_of_mem_set hx with hx | rfl
  · exact h x hx
  · exact ⟨hs, hb⟩
/-- The cells of a new page. -/
def blankCells : List (Bool × ByteArray) := List.replicate 16 (false, ⟨#[]⟩)
theorem blankCells_ok : okCells blankCells := by
  intro x hx
  have := List.eq_of_mem_replicate hx
  subst this
  exact ⟨by decide, fun _ => rfl⟩
end Go.Proofs.Ytnfkplohpjfocaa
