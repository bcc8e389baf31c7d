/-
  The changes from one page to another: plain, and what a caller knows of a row that a call has made.
-/
import Derived.Test.YtlbhoepfcedkdaaRight
import Derived.Test.YtlbhoepfcedkdaaRowF
namespace Go.Proofs.Ytlbhoepfcedkdaa
open Go.RowKit
/-- A call's own blocks become the caller's. -/
theorem St.call {cc : Option Nat} {q q' : CodeRow} {w0 w w' : World} {l lr : List (Nat × TypeId × List Value)} (h : St cc q w0 w l) (k : St none q' w w' lr) : St cc q w0 w' (lr ++ l) := by
  have h1 := h.ext k.isExt
  refine ⟨h1.fr, h1.codes, Bx_iff.2 ⟨?_, ?_⟩⟩
  · intro x hx
    rcases List.mem_append.1 hx with hx | hx
    · have := (Bx_iff.1 k.own).1 x hx
      exact ⟨Nat.le_trans h.size this.1, this.2⟩
    · exact (Bx_iff.1 h1.own).1 x hx
  · rw [List.pairwise_append]
    refine ⟨(Bx_iff.1 k.own).2, (Bx_iff.1 h1.own).2, fun x hx y hy => ?_⟩
    have h2 := ((Bx_iff.1 k.own).1 x hx).1
    have h3 := ((Bx_iff.1 h.own).1 y hy).2.lt
    omega
/-- One change, where two pages differ. -/
def diffAt (a b : Pg) (i : Nat) : Chg := ⟨a.id, i, (a.cell i).1, (a.cell i).2, (b.cell i).1, (b.cell i).2⟩
/-- The changes of the first k cells. -/
def diffL (a b : Pg) (k : Nat) : List Chg := (List.range k).filterMap fun i => if cellEqB (a.cell i) (b.cell i) = true then none else some (diffAt a b i)
theorem diffL_same {a b : Pg} {k : Nat} (h : cellEqB (a.cell k) (b.cell k) = true) : diffL a b (k + 1) = diffL a b k := by
  unfold diffL
  rw [List.range_succ, List.filterMap_append]
  simp [h]
theorem diffL_more {a b : Pg} {k : Nat} (h : cellEqB (a.cell k) (b.cell k) = false) : diffL a b (k + 1) = diffL a b k ++ [diffAt a b k] := by
  unfold diffL
  rw [List.range_succ, List.filterMap_append]
  simp [h]
theorem diffL_len (a b : Pg) (k : Nat) : (diffL a b k).length ≤ k := by
  have := List.length_filterMap_le (fun i => if cellEqB (a.cell i) (b.cell i) = true then none else some (diffAt a b i)) (List.range k)
  simpa [diffL] using this
theorem diffL_none {a b : Pg} (h : eqCellsB a.cells b.cells = true) : diffL a b 16 = [] := by
  unfold diffL
  rw [List.filterMap_eq_nil_iff]
  intro i hi
  have hi' : i < 16 := by simpa using hi
  unfold eqCellsB at h
  rw [List.all_eq_true] at h
  have := h i (by simp [List.mem_range']; omega)
  simp only [Pg.cell, this, if_true]
/-- What both Diffs answer. -/
def diffF (a b : Pg) : List Chg × Int :=
  if (a.id == b.id) = false then ([], 6) else if pagedB a.id = false then ([], 1) else if (rightB a && rightB b) = false then ([], 22) else (diffL a b 16, 0)
def DiffPost (a b : Pg) (w0 : World) (e : Ending) (w' : World) : Prop :=
  ∃ v lr, e = .returned (.tuple #[v, .int .i64 (diffF a b).2]) ∧ St none default w0 w' lr ∧ RowEnt 29 6 lr v (diffF a b).1.length (flat (diffF a b).1)
theorem flat_snoc (xs : List Chg) (c : Chg) : flat (xs ++ [c]) = flat xs ++ c.lst := by
  unfold flat
  rw [List.flatMap_append]
  simp
end Go.Proofs.Ytlbhoepfcedkdaa
