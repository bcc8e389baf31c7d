/-
  Equality of pages and changes that are the same.
-/
import Derived.Test.YtlbhoepfcedkdaaChg
import Derived.Test.YtlbhoepfcedkdaaTab
namespace Go.Proofs.Ytlbhoepfcedkdaa
open Go.RowKit

theorem loop_stays {P : Program} {β : Type} (w : World) (g : Nat → β → Sem (ForInStep β)) (s : β) : ∀ (l : List Nat), (∀ i ∈ l, (g i s).run P w = .ok (.yield s) w) → (forIn l s g).run P w = .ok s w
  | [], _ => by simp
  | i :: l, h => by
    simp only [List.forIn_cons, Sem.run_bind, h i (by simp), Result.andThen_ok]
    exact loop_stays w g s l (fun j hj => h j (by simp [hj]))
theorem part_cell (l : List (Bool × ByteArray)) (i : Nat) (b : Bool) (s : ByteArray) (h : l[i]? = some (b, s)) (w : World) : (part 24 (cellVals l).toArray (i * 2)).run Try.prog w = .ok (.agg #[.bool b, .string s]) w := by
  have hx : ((cellVals l).toArray.extract (i * 2) (i * 2 + 2)) = #[.bool b, .string s] := by
    obtain ⟨h1, h2⟩ := cellVals_get l i b s h
    have hlt : 2 * i + 1 < (cellVals l).length := (List.getElem?_eq_some_iff.1 h2).1
    apply Array.ext'
    rw [Array.toList_extract, List.extract_eq_take_drop]
    have e1 : (cellVals l).drop (i * 2) = .bool b :: .string s :: (cellVals l).drop (i * 2 + 2) := by
      rw [show i * 2 = 2 * i by omega, List.drop_eq_getElem_cons (by omega), List.drop_eq_getElem_cons (show 2 * i + 1 < _ by omega)]
      rw [(List.getElem?_eq_some_iff.1 h1).2, (List.getElem?_eq_some_iff.1 h2).2]
    simp [e1]
  unfold part
  rw [Sem.run_bind, (shape_agg sh24 w).1, Result.andThen_ok, if_pos rfl, Sem.run_bind, (shape_agg sh24 w).2, Result.andThen_ok, hx]
  rfl
theorem eq_cell (d : Nat) (b : Bool) (s : ByteArray) (w : World) : (Op.equalIn (d + 2) 24 (.agg #[.bool b, .string s]) (.agg #[.bool b, .string s])).run Try.prog w = .ok true w := by
  simp [go_sem, Try.underlying24]
theorem eq_cells (l : List (Bool × ByteArray)) (hl : l.length = 16) (d : Nat) (w : World) : (Op.equalIn (d + 3) 25 (.agg (cellVals l).toArray) (.agg (cellVals l).toArray)).run Try.prog w = .ok true w := by
  have hu : Try.prog.underlying 25 = some (.array 16 24) := Try.underlying25
  unfold Op.equalIn
  simp only [Sem.run_bind, run_underlying hu, Result.andThen_ok, (shape_agg sh24 w).2]
  rw [Std.Legacy.Range.forIn_eq_forIn_range', loop_stays w _ _ _ (fun i hi => by
    have hi' : i < 16 := by simp [List.mem_range'] at hi; omega
    obtain ⟨⟨b, s⟩, hx⟩ := list_get_of_lt l i 16 hl hi'
    simp only [Sem.run_bind, part_cell l i b s hx w, Result.andThen_ok, eq_cell]
    rfl)]
  rfl
theorem part_id (p : Pg) (w : World) : (part 3 p.arr 0).run Try.prog w = .ok (.int .i64 p.id) w := by
  unfold part
  rw [Sem.run_bind, (shape_one sh3 w).1, Result.andThen_ok, if_neg (by decide)]
  simp [Pg.lst, pgLst]
theorem part_lsn (p : Pg) (w : World) : (part 3 p.arr 1).run Try.prog w = .ok (.int .i64 p.lsn) w := by
  unfold part
  rw [Sem.run_bind, (shape_one sh3 w).1, Result.andThen_ok, if_neg (by decide)]
  simp [Pg.lst, pgLst]
theorem part_cells (p : Pg) (hp : p.cells.length = 16) (w : World) : (part 25 p.arr 2).run Try.prog w = .ok (.agg (cellVals p.cells).toArray) w := by
  have hx : p.arr.extract 2 (2 + 32) = (cellVals p.cells).toArray := by
    apply Array.ext'
    rw [Array.toList_extract, List.extract_eq_take_drop]
    have : (cellVals p.cells).length = 32 := by rw [cellVals_length, hp]
    have e : p.lst.drop 2 = cellVals p.cells := rfl
    rw [show p.arr.toList = p.lst from rfl, e]
    exact List.take_of_length_le (by omega)
  unfold part
  rw [Sem.run_bind, (shape_agg sh25 w).1, Result.andThen_ok, if_pos rfl, Sem.run_bind, (shape_agg sh25 w).2, Result.andThen_ok, hx, Sem.run_pure]
theorem page_struct : Try.prog.underlying 27 = some (.struct (Try.prog.fieldsOf 27)) := by simp [Program.fieldsOf, Try.underlying27]
theorem page_stood : Try.prog.stoodInHeld 27 = false := by kernel_rfl
theorem eq_page (p : Pg) (hp : p.cells.length = 16) (d : Nat) (w : World) : (Op.equalIn (d + 4) 27 (.agg p.arr) (.agg p.arr)).run Try.prog w = .ok true w := by
  rw [run_equalIn_struct w (d + 3) 27 p.arr p.arr page_struct page_stood]
  simp only [Program.fieldsOf, Try.underlying27, Op.eqFields, ne_eq, String.reduceEq, not_false_eq_true, if_true, Sem.run_bind, part_id, part_lsn, part_cells p hp, Result.andThen_ok, eq_cells p.cells hp d,
      run_equalIn_int (P := Try.prog) w (d + 2) 3 .i64 .i64 _ _ Try.underlying3, beq_self_eq_true, Bool.not_true, Bool.false_eq_true, if_false, Sem.run_pure]
/-- 'p == p' of pages. -/
theorem eql_page (p : Pg) (hp : p.cells.length = 16) (w : World) : (binOp .eql 27 (.agg p.arr) (.agg p.arr)).run Try.prog w = .ok (.bool true) w := by
  rw [run_eql_struct, eq_page p hp 9996 w]
  rfl
theorem neq_page (p : Pg) (hp : p.cells.length = 16) (w : World) : (binOp .neq 27 (.agg p.arr) (.agg p.arr)).run Try.prog w = .ok (.bool false) w := by
  rw [run_neq_struct, eq_page p hp 9996 w]
  rfl
theorem guard_page (op : BinOp) (x y : Operand) (xs ys : Array Value) (w : World) : (eqGuard op 27 x y (.agg xs) (.agg ys)).run Try.prog w = .ok () w := run_eqGuard_agg w op 27 x y xs ys (by kernel_rfl)
theorem guard_chg (op : BinOp) (x y : Operand) (xs ys : Array Value) (w : World) : (eqGuard op 29 x y (.agg xs) (.agg ys)).run Try.prog w = .ok () w := run_eqGuard_agg w op 29 x y xs ys (by kernel_rfl)
theorem eql_chg (c : Chg) (w : World) : (binOp .eql 29 (.agg c.arr) (.agg c.arr)).run Try.prog w = .ok (.bool true) w := by
  unfold Chg.arr
  simp [go_sem, Try.underlying29, Try.underlying24]
theorem neq_chg (c : Chg) (w : World) : (binOp .neq 29 (.agg c.arr) (.agg c.arr)).run Try.prog w = .ok (.bool false) w := by
  unfold Chg.arr
  simp [go_sem, Try.underlying29, Try.underlying24]
end Go.Proofs.Ytlbhoepfcedkdaa
