/-
  Whether two rows of cells are the same, whatever they are; and one cell of a row. 
-/
import Derived.Test.YtlbhoepfcedkdaaEql
import Derived.Test.YtlbhoepfcedkdaaHg
namespace Go.Proofs.Ytlbhoepfcedkdaa
open Go.RowKit
theorem loop_upto {P : Program} {β : Type} (w : World) (g : Nat → β → Sem (ForInStep β)) (s t : β) (f : Nat → Bool) : ∀ (l : List Nat), (∀ i ∈ l, (g i s).run P w = .ok (if f i = true then .yield s else .done t) w) → (forIn l s g).run P w = .ok (if l.all f = true then s else t) w
  | [], _ => by simp
  | i :: l, h => by
    simp only [List.forIn_cons, Sem.run_bind, h i (by simp), Result.andThen_ok]
    cases hf : f i with
    | true =>
      simp only [if_true, List.all_cons, hf, Bool.true_and]
      exact loop_upto w g s t f l (fun j hj => h j (by simp [hj]))
    | false => simp [hf]
theorem eq_cellG (d : Nat) (b b' : Bool) (s s' : ByteArray) (w : World) : (Op.equalIn (d + 2) 24 (.agg #[.bool b, .string s]) (.agg #[.bool b', .string s'])).run Try.prog w = .ok (cellEqB (b, s) (b', s')) w := by
  cases h1 : (b == b') <;> cases h2 : (s.toList == s'.toList) <;> simp [go_sem, cellEqB, h1, h2, Try.underlying24]
def eqCellsB (l m : List (Bool × ByteArray)) : Bool := (List.range' 0 16).all fun i => cellEqB (l.getD i (false, ⟨#[]⟩)) (m.getD i (false, ⟨#[]⟩))
theorem eq_cellsG (l m : List (Bool × ByteArray)) (hl : l.length = 16) (hm : m.length = 16) (d : Nat) (w : World) : (Op.equalIn (d + 3) 25 (.agg (cellVals l).toArray) (.agg (cellVals m).toArray)).run Try.prog w = .ok (eqCellsB l m) w := by
  have hu : Try.prog.underlying 25 = some (.array 16 24) := Try.underlying25
  unfold Op.equalIn
  simp only [Sem.run_bind, run_underlying hu, Result.andThen_ok, (shape_agg sh24 w).2]
  rw [Std.Legacy.Range.forIn_eq_forIn_range', loop_upto w _ _ (some false, PUnit.unit) (fun i => cellEqB (l.getD i (false, ⟨#[]⟩)) (m.getD i (false, ⟨#[]⟩))) _ (fun i hi => by
    have hi' : i < 16 := by simp [List.mem_range'] at hi; omega
    obtain ⟨⟨b, s⟩, hx⟩ := list_get_of_lt l i 16 hl hi'
    obtain ⟨⟨b', s'⟩, hx'⟩ := list_get_of_lt m i 16 hm hi'
    have e1 : l.getD i (false, ⟨#[]⟩) = (b, s) := by simp [hx]
    have e2 : m.getD i (false, ⟨#[]⟩) = (b', s') := by simp [hx']
    simp only [Sem.run_bind, part_cell l i b s hx w, part_cell m i b' s' hx' w, Result.andThen_ok, eq_cellG, e1, e2]
    cases cellEqB (b, s) (b', s') <;> rfl)]
  have e : ((List.range' [:16].start [:16].size [:16].step).all fun i => cellEqB (l.getD i (false, ⟨#[]⟩)) (m.getD i (false, ⟨#[]⟩))) = eqCellsB l m := rfl
  rw [e]
  cases eqCellsB l m <;> rfl
theorem run_index_cell {o : Oper} {a : Act} {w : World} {x y : Operand} (ho : o.op = .index 25 x y) {l : List (Bool × ByteArray)} (hx : a.eval x = .agg (cellVals l).toArray) {k : Nat} (hy : a.eval y = .int .i64 (k : Int)) (hk : k < 16) {b : Bool} {s : ByteArray} (hc : l[k]? = some (b, s)) :
    (execOp a.eval o).run Try.prog w = .ok (.value (.agg #[.bool b, .string s])) w := by
  have hu : Try.prog.underlying 25 = some (.array 16 24) := Try.underlying25
  have h1 : (0 : Int) ≤ (k : Int) ∧ (k : Int) < ((16 : Nat) : Int) := by omega
  unfold execOp
  simp only [ho, hx, hy, Instr.index, asIntOf, Sem.run_bind, Sem.run_pure, Result.andThen_ok, run_underlying hu, h1, and_self, if_true, (shape_agg sh24 w).2, Int.toNat_natCast, part_cell l k b s hc w]
theorem cells_at (p : Pg) : cellsAt p.lst 2 (cellVals p.cells) := cellsAt_self [.int .i64 p.id, .int .i64 p.lsn] (cellVals p.cells)
end Go.Proofs.Ytlbhoepfcedkdaa
