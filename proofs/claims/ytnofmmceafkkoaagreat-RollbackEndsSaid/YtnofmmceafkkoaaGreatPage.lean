/-
  Pages as rows of cells: plain lemmas; no function of the program is named here.
-/
import Derived.Test.YtnofmmceafkkoaaGreatBase
set_option linter.unusedVariables false
set_option linter.unusedSimpArgs false
namespace Go.Proofs.YtnofmmceafkkoaaGreat
open Go.RowKit
def cellVals (l : List (Bool × ByteArray)) : List Value := l.flatMap fun x => [.bool x.1, .string x.2]
def pgLst (id lsn : Int) (l : List (Bool × ByteArray)) : List Value := Value.int .i64 id :: Value.int .i64 lsn :: cellVals l
abbrev pgArr (id lsn : Int) (l : List (Bool × ByteArray)) : Array Value := (pgLst id lsn l).toArray
theorem cellVals_length (l : List (Bool × ByteArray)) : (cellVals l).length = 2 * l.length := by
  induction l with
  | nil => rfl
  | cons x l ih => simp only [cellVals, List.flatMap_cons, List.length_append, List.length_cons, List.length_nil] at *; omega
theorem list_get_of_lt {α : Type} (l : List α) (i n : Nat) (h : l.length = n) (hi : i < n) : ∃ x, l[i]? = some x := ⟨l[i]'(by omega), List.getElem?_eq_getElem (by omega)⟩
end Go.Proofs.YtnofmmceafkkoaaGreat
