/-
  ChangeExact: what its walk needs beside the contracts.
-/
import Derived.Test.YtlbhoepfcedkdaaOddC
import Derived.Test.YtlbhoepfcedkdaaDiffsA
namespace Go.Proofs.Ytlbhoepfcedkdaa
open Go.RowKit
/-- Two changes, one behind the other. -/
def pairC (z : Chg × Chg) : List Value := z.1.lst ++ z.2.lst
theorem built_pairC (x y : Chg) : Try.prog.built 36 [(0, .agg x.arr), (1, .agg y.arr)] = some (pairC (x, y)).toArray := by
  have := built_rows (P := Try.prog) 36 29 2 6 (by omega) Try.underlying36 (by kernel_rfl) size_chg [x.lst, y.lst] rfl (by
    intro r hr
    simp only [List.mem_cons, List.not_mem_nil, or_false] at hr
    rcases hr with rfl | rfl <;> rfl)
  have e : pairC (x, y) = [x.lst, y.lst].flatten := by simp [pairC]
  rw [e]
  exact this
def fourC (zs : List (Chg × Chg)) : List Value := (zs.map pairC).flatten
theorem build_fourC (z0 z1 z2 z3 : Chg × Chg) (w : World) :
    (Instr.buildSlice 38 4 ([(0, .agg (pairC z0).toArray), (1, .agg (pairC z1).toArray), (2, .agg (pairC z2).toArray), (3, .agg (pairC z3).toArray)] : List (Nat × Value)).toArray).run Try.prog w = .ok (.slice (some ⟨w.heap.size, 0, none⟩) 4 4) (w.alloc (.cells (fourC [z0, z1, z2, z3]).toArray 36)) :=
  run_slice_rows (P := Try.prog) 38 36 4 12 (by omega) (by omega) (by omega) Try.underlying38 (by kernel_rfl) [pairC z0, pairC z1, pairC z2, pairC z3] rfl (fun r hr => by
    obtain ⟨z, hz, rfl⟩ := List.mem_map.1 (show r ∈ [z0, z1, z2, z3].map pairC from hr)
    rfl) w
theorem fourC_at {zs : List (Chg × Chg)} {k : Nat} {z : Chg × Chg} (hk : zs[k]? = some z) : cellsAt (fourC zs) (k * 12) (pairC z) :=
  cellsAt_flat (s := 12) (rows := zs.map pairC) (fun r hr => by
    obtain ⟨z, hz, rfl⟩ := List.mem_map.1 hr
    rfl) (by simp [hk])
theorem zero_pairC : (Try.prog.info? 36).bind (·.zero) = some (.agg (pairC (Chg.zero, Chg.zero)).toArray) := by kernel_rfl
theorem pairC_at0 (z : Chg × Chg) : cellsAt (pairC z) 0 z.1.lst := ⟨rfl, rfl, rfl, rfl, rfl, rfl, trivial⟩
theorem pairC_at1 (z : Chg × Chg) : cellsAt (pairC z) 6 z.2.lst := ⟨rfl, rfl, rfl, rfl, rfl, rfl, trivial⟩
theorem pairC_after (z : Chg × Chg) : cellsAt (pairC z) 4 [.bool z.1.ab, .string z.1.ad] := ⟨rfl, rfl, trivial⟩
/-- Three pages. -/
def threeL (ps : List Pg) : List Value := (ps.map Pg.lst).flatten
def okThree (ps : List Pg) : Prop := ps.length = 3 ∧ ∀ p ∈ ps, p.cells.length = 16
theorem okThree_of {p q r : Pg} (h1 : p.cells.length = 16) (h2 : q.cells.length = 16) (h3 : r.cells.length = 16) : okThree [p, q, r] := by
  refine ⟨rfl, fun z hz => ?_⟩
  simp only [List.mem_cons, List.not_mem_nil, or_false] at hz
  rcases hz with rfl | rfl | rfl
  · exact h1
  · exact h2
  · exact h3
theorem build_three (p q r : Pg) (h : okThree [p, q, r]) (w : World) :
    (Instr.buildSlice 45 3 ([(0, .agg p.arr), (1, .agg q.arr), (2, .agg r.arr)] : List (Nat × Value)).toArray).run Try.prog w = .ok (.slice (some ⟨w.heap.size, 0, none⟩) 3 3) (w.alloc (.cells (threeL [p, q, r]).toArray 27)) :=
  run_slice_rows (P := Try.prog) 45 27 3 34 (by omega) (by omega) (by omega) Try.underlying45 (by kernel_rfl) [p.lst, q.lst, r.lst] rfl (fun x hx => by
    obtain ⟨z, hz, rfl⟩ := List.mem_map.1 (show x ∈ [p, q, r].map Pg.lst from hx)
    exact lst_len (h.2 z hz)) w
theorem three_at {ps : List Pg} (h : okThree ps) {k : Nat} {p : Pg} (hk : ps[k]? = some p) : cellsAt (threeL ps) (k * 34) p.lst :=
  cellsAt_flat (s := 34) (rows := ps.map Pg.lst) (fun r hr => by
    obtain ⟨z, hz, rfl⟩ := List.mem_map.1 hr
    exact lst_len (h.2 z hz)) (by simp [hk])
theorem applyF_len {p : Pg} (h : p.cells.length = 16) (c : Chg) : (applyF p c).1.cells.length = 16 := by
  unfold applyF
  split
  · rfl
  · split
    · rfl
    · split
      · rfl
      · simpa using h
theorem neq_bool (b : Bool) (w : World) : (binOp .neq 4 (.bool b) (.bool b)).run Try.prog w = .ok (.bool false) w := by
  cases b <;> simp [go_sem, Try.underlying4]
theorem guard_bool (op : BinOp) (x y : Operand) (b d : Bool) (w : World) : (eqGuard op 4 x y (.bool b) (.bool d)).run Try.prog w = .ok () w := by
  cases op <;> simp [eqGuard, go_sem, Try.underlying4]
theorem guard_errno (op : BinOp) (x y : Operand) (b d : Int) (w : World) : (eqGuard op 39 x y (.int .i64 b) (.int .i64 d)).run Try.prog w = .ok () w := by
  cases op <;> simp [eqGuard, go_sem, Try.underlying39]
end Go.Proofs.Ytlbhoepfcedkdaa
