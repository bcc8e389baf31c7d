/-
  ChangeDiffs: what its walk needs beside the contracts.
-/
import Derived.Test.YtlbhoepfcedkdaaLaw03
import Derived.Test.YtlbhoepfcedkdaaLit
import Derived.Test.YtlbhoepfcedkdaaOddP
import Derived.Test.YtlbhoepfcedkdaaDiffsF
import Derived.BigRegion
namespace Go.Proofs.Ytlbhoepfcedkdaa
open Go.RowKit
theorem BytesIn.ext {w w' : World} {a : Option Addr} {len : Nat} (h : BytesIn w a len) (k : Ext w w') : BytesIn w' a len := fun h0 => by
  obtain ⟨blk, off, ha, hi⟩ := h h0
  refine ⟨blk, off, ha, fun i hl => ?_⟩
  obtain ⟨n, hn, hc⟩ := hi i hl
  exact ⟨n, hn, (Below.cell (p := ⟨blk, off + i, none⟩) k (block_lt_of_cell (a := ⟨blk, off + i, none⟩) hc)).trans hc⟩
/-- A block from before, other than the choices. -/
structure Old (w : World) (c b : Nat) (T : TypeId) (cs : List Value) : Prop where
  box : PBox w b T cs
  ne : some c ≠ some b
theorem Old.of {w w' : World} {c b : Nat} {T : TypeId} {cs : List Value} (h : PBox w' b T cs) (hl : b < w.heap.size) (hc : w.heap.size ≤ c) : Old w' c b T cs := ⟨h, by simp; omega⟩
theorem St.atOld {w w0 : World} {c b : Nat} {q : CodeRow} {T : TypeId} {cs : List Value} {l : List (Nat × TypeId × List Value)} (h : St (some c) q w0 w l) (k : Old w0 c b T cs) : PBox w b T cs := h.old k.box k.ne
/-- Two pages, one behind the other. -/
def pairL (z : Pg × Pg) : List Value := z.1.lst ++ z.2.lst
theorem pairL_len {z : Pg × Pg} (h1 : z.1.cells.length = 16) (h2 : z.2.cells.length = 16) : (pairL z).length = 68 := by
  unfold pairL
  rw [List.length_append, lst_len h1, lst_len h2]
theorem built_pair (p q : Pg) (hp : p.cells.length = 16) (hq : q.cells.length = 16) : Try.prog.built 55 [(0, .agg p.arr), (1, .agg q.arr)] = some (pairL (p, q)).toArray := by
  have := built_rows (P := Try.prog) 55 27 2 34 (by omega) Try.underlying55 (by kernel_rfl) size_page [p.lst, q.lst] rfl (by
    intro r hr
    simp only [List.mem_cons, List.not_mem_nil, or_false] at hr
    rcases hr with rfl | rfl
    · exact lst_len hp
    · exact lst_len hq)
  have e : pairL (p, q) = [p.lst, q.lst].flatten := by simp [pairL]
  rw [e]
  exact this
/-- Some pairs of pages. -/
def fourL (zs : List (Pg × Pg)) : List Value := (zs.map pairL).flatten
def okPairs (zs : List (Pg × Pg)) : Prop := zs.length = 4 ∧ ∀ z ∈ zs, z.1.cells.length = 16 ∧ z.2.cells.length = 16
theorem okPairs_four {p1 q1 p2 q2 p3 q3 p4 q4 : Pg} (h1 : p1.cells.length = 16) (h2 : q1.cells.length = 16) (h3 : p2.cells.length = 16) (h4 : q2.cells.length = 16) (h5 : p3.cells.length = 16) (h6 : q3.cells.length = 16) (h7 : p4.cells.length = 16) (h8 : q4.cells.length = 16) : okPairs [(p1, q1), (p2, q2), (p3, q3), (p4, q4)] := by
  refine ⟨rfl, fun z hz => ?_⟩
  simp only [List.mem_cons, List.not_mem_nil, or_false] at hz
  rcases hz with rfl | rfl | rfl | rfl
  · exact ⟨h1, h2⟩
  · exact ⟨h3, h4⟩
  · exact ⟨h5, h6⟩
  · exact ⟨h7, h8⟩
theorem build_four (z0 z1 z2 z3 : Pg × Pg) (h : okPairs [z0, z1, z2, z3]) (w : World) :
    (Instr.buildSlice 56 4 ([(0, .agg (pairL z0).toArray), (1, .agg (pairL z1).toArray), (2, .agg (pairL z2).toArray), (3, .agg (pairL z3).toArray)] : List (Nat × Value)).toArray).run Try.prog w = .ok (.slice (some ⟨w.heap.size, 0, none⟩) 4 4) (w.alloc (.cells (fourL [z0, z1, z2, z3]).toArray 55)) :=
  run_slice_rows (P := Try.prog) 56 55 4 68 (by omega) (by omega) (by omega) Try.underlying56 (by kernel_rfl) [pairL z0, pairL z1, pairL z2, pairL z3] rfl (fun r hr => by
    obtain ⟨z, hz, rfl⟩ := List.mem_map.1 (show r ∈ [z0, z1, z2, z3].map pairL from hr)
    exact pairL_len (h.2 z hz).1 (h.2 z hz).2) w
theorem four_at {zs : List (Pg × Pg)} (h : okPairs zs) {k : Nat} {z : Pg × Pg} (hk : zs[k]? = some z) : cellsAt (fourL zs) (k * 68) (pairL z) :=
  cellsAt_flat (s := 68) (rows := zs.map pairL) (fun r hr => by
    obtain ⟨z, hz, rfl⟩ := List.mem_map.1 hr
    exact pairL_len (h.2 z hz).1 (h.2 z hz).2) (by simp [hk])
theorem pair_at0 (z : Pg × Pg) : cellsAt (pairL z) 0 z.1.lst := cellsAt_of fun j v hj => by
  have := (List.getElem?_eq_some_iff.1 hj).1
  unfold pairL
  rw [Nat.zero_add, List.getElem?_append_left this]
  exact hj
theorem pair_at1 {z : Pg × Pg} (h : z.1.cells.length = 16) : cellsAt (pairL z) 34 z.2.lst := by
  have := cellsAt_self z.1.lst z.2.lst
  rw [lst_len h] at this
  exact this
theorem zero_pair : (Try.prog.info? 55).bind (·.zero) = some (.agg (pairL (Pg.zero, Pg.zero)).toArray) := by kernel_rfl
theorem pairL_one (z : Pg × Pg) : (pairL z).all (·.oneCell') = true := by
  unfold pairL
  rw [List.all_append, Bool.and_eq_true]
  exact ⟨pgLst_one _ _ _, pgLst_one _ _ _⟩
theorem neq_errno (n : Int) (w : World) : (binOp .neq 39 (.int .i64 n) (.int .i64 n)).run Try.prog w = .ok (.bool false) w := by
  simp [go_sem, Try.underlying39]
theorem eql_cell (b b' : Bool) (s s' : ByteArray) (w : World) : (binOp .eql 24 (.agg #[.bool b, .string s]) (.agg #[.bool b', .string s'])).run Try.prog w = .ok (.bool (cellEqB (b, s) (b', s'))) w := by
  rw [run_eql_struct, eq_cellG 9998 b b' s s' w]
  rfl
theorem diffL_slot {p q : Pg} {c : Chg} (h : c ∈ diffL p q 16) : 0 ≤ c.slot ∧ c.slot < 16 := by
  obtain ⟨s, hs, rfl, _⟩ := diffL_mem h
  constructor
  · show (0 : Int) ≤ (s : Int); omega
  · show (s : Int) < 16; omega
theorem row_at {xs : List Chg} {junk : List Value} {k : Nat} {c : Chg} (h : xs[k]? = some c) : cellsAt (flat xs ++ junk) (k * 6) c.lst := cellsAt_of fun j v hj => by
  have h1 := flat_get xs k c h j v hj
  rw [List.getElem?_append_left (List.getElem?_eq_some_iff.1 h1).1]
  exact h1
/-- While not all is done, one that is not done is found on the way round. -/
theorem left_one {xs : List Chg} {S : Nat → Bool} {n m r j : Nat} (hn : 0 < n) (hx : n = xs.length) (hd : doneN xs S = j) (hj : j < n) (h : ∀ i, i < min m n → ∀ cx, xs[(r + i) % n]? = some cx → S (slotN cx) = true) : m < n := by
  by_cases hm : m < n
  · exact hm
  · exfalso
    have all := round_all (n := n) (k0 := r) (T := fun i => ∀ cx, xs[i]? = some cx → S (slotN cx) = true) hn (fun i hi => h i (by omega))
    have := doneN_all (xs := xs) (S := S) (fun i cx hc => all i (by have := (List.getElem?_eq_some_iff.1 hc).1; omega) cx hc)
    omega
end Go.Proofs.Ytlbhoepfcedkdaa
