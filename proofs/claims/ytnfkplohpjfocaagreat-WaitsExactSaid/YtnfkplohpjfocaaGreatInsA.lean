/-
  copy of rows of more than one cell, into a block of the call's own. No function of the program is named here.
-/
import Derived.Test.YtnfkplohpjfocaaGreatGrC
import Derived.Laws.CopyRow
import Derived.Lib.AppendZerosOnto
import Derived.Shelf.Spec.SlicesInsert
import Derived.Test.YtnfkplohpjfocaaGreatLkV
set_option linter.unusedVariables false
set_option linter.unusedSimpArgs false
namespace Go.Proofs.YtnfkplohpjfocaaGreat
open Go.RowKit
section
variable {P : Program}
theorem run_copy_rowS (w : World) (dT sT ty elem : TypeId) (g o dLen dCap : Nat) (a : Addr) (sLen sCap s : Nat) (cur : Array Value) (t : TypeId) (cs : List Value)
    (hu : P.underlying dT = some (.slice elem)) (hs : (P.info? elem).map (·.size) = some s)
    (hg : w.heap[g]? = some (.cells cur t (0, 0))) (hn : cs.length = Nat.min sLen dLen * s)
    (hsrc : ∀ j v, cs[j]? = some v → w.cell? (a.add j) = some v) (hfit : o + cs.length ≤ cur.size) (h1 : ∀ v ∈ cs, v.oneCell' = true) :
    (Builtin.copy_ #[dT, sT] ty #[.slice (some ⟨g, o, none⟩) dLen dCap, .slice (some a) sLen sCap]).run P w =
      .ok (goInt (Nat.min sLen dLen)) (w.setRow g (cur.toList.take o ++ cs ++ cur.toList.drop (o + cs.length)).toArray) := by
  have hl := run_loadCells_list (P := P) w a cs hsrc
  have hst := run_storeCells_at P g o t cs 0 cur w hg (by simpa using hfit) h1
  cases hq : P.info? elem with
  | none => simp [hq] at hs
  | some i =>
    have hi : i.size = s := by simpa [hq] using hs
    simp [Builtin.copy_, run_underlying hu, Builtin.lenOf, Builtin.firstCells, sizeOf, typeInfo, hq, hi, ← hn, hl, hst]
theorem only_setRow (w : World) (g : Nat) (cs : Array Value) : Only g w (w.setRow g cs) := by
  refine ⟨rfl, rfl, rfl, by simp [World.setRow], fun i hi hne => ?_⟩
  have : ¬ g = i := fun e => hne (by rw [e])
  simp [World.setRow, Array.getElem?_modify, this]
/-- copy into a block of the call's own, from wherever the cells are known. -/
theorem St.copy {cc : Option Nat} {q : CodeRow} {w0 w : World} {front ll : List (Nat × TypeId × List Value)} {g : Nat} {E : TypeId} {cs : List Value} (HS : St cc q w0 w (front ++ ([(g, E, cs)] ++ ll))) (dT sT ty : TypeId) (s : Nat) (hu : P.underlying dT = some (.slice E)) (hs : (P.info? E).map (·.size) = some s)
    (o dLen dCap : Nat) (a : Addr) (sLen sCap : Nat) (vs : List Value) (hn : vs.length = Nat.min sLen dLen * s) (hsrc : ∀ j v, vs[j]? = some v → w.cell? (a.add j) = some v) (hfit : o + vs.length ≤ cs.length) (h1 : ∀ v ∈ vs, v.oneCell' = true) :
    ∃ w', (Builtin.copy_ #[dT, sT] ty #[.slice (some ⟨g, o, none⟩) dLen dCap, .slice (some a) sLen sCap]).run P w = .ok (goInt (Nat.min sLen dLen)) w' ∧ St cc q w0 w' (front ++ ([(g, E, cs.take o ++ vs ++ cs.drop (o + vs.length))] ++ ll)) := by
  have hB : PBox w g E cs := ((Bx_iff.1 HS.own).1 (g, E, cs) (by simp)).2
  refine ⟨_, run_copy_rowS w dT sT ty E g o dLen dCap a sLen sCap s cs.toArray E vs hu hs hB hn hsrc (by simpa using hfit) h1, ?_⟩
  refine HS.chg (only_setRow _ _ _) ?_
  exact setRow_heap w g cs.toArray _ E (0, 0) hB
end
section
variable {P : Program} {ops : Array Oper} {Q : Exit → Act → World → Prop} {a : Act} {w : World} {cc : Option Nat} {q : CodeRow} {w0 : World} {l L : List (Nat × TypeId × List Value)} {fuel : Nat} {listed : Array Bool} {o : Oper} {rest : List Oper}
theorem sx_copy {front ll : List (Nat × TypeId × List Value)} {g : Nat} {E : TypeId} {cs : List Value} (HS : Hid (St cc q w0 w (front ++ ([(g, E, cs)] ++ ll)))) (hw : Region.wanted o (yielded ops a.tmps) = true) (d x : Operand) (dT sT : TypeId) (ho : o.op = .call { callee := .builtin .copy, args := #[d, x], argTypes := #[dT, sT] })
    (s : Nat) (hu : P.underlying dT = some (.slice E)) (hs : (P.info? E).map (·.size) = some s) (of dLen dCap : Nat) (hd : a.eval d = .slice (some ⟨g, of, none⟩) dLen dCap) (ad : Addr) (sLen sCap : Nat) (hx : a.eval x = .slice (some ad) sLen sCap) (k : Nat) (hk : k = Nat.min sLen dLen)
    (vs : List Value) (hn : vs.length = k * s) (hsrc : ∀ j v, vs[j]? = some v → w.cell? (ad.add j) = some v) (hfit : of + vs.length ≤ cs.length) (h1 : ∀ v ∈ vs, v.oneCell' = true)
    (h : ∀ w', Hid (St cc q w0 w' (front ++ ([(g, E, cs.take of ++ vs ++ cs.drop (of + vs.length))] ++ ll))) → wpList P ops Q rest (a.put o.dst (.int .i64 k)) w') : wpList P ops Q (o :: rest) a w :=
  wpList_wanted hw fun _ hK => by
    obtain ⟨w', hr, hst⟩ := St.copy (P := P) HS.out dT sT o.type s hu hs of dLen dCap ad sLen sCap vs (by rw [hn, hk]) hsrc hfit h1
    have := hK _ _ (h w' hst)
    unfold Oper.wp execOp
    rw [← hk] at hr
    simp only [ho, resolve, invoke, builtin, Sem.run_bind, Sem.run_pure, Result.andThen_ok, List.map_toArray, List.map_cons, List.map_nil, hd, hx, hr]
    exact this
theorem hg_copy (i : Nat) (d0 : Option Tmp) (hd0 : (ops[i]?).bind (·.dst) = d0) (hi : ops[i]? = some o) (hw : Region.wanted o (yielded ops a.tmps) = true) {front ll : List (Nat × TypeId × List Value)} {g : Nat} {E : TypeId} {cs : List Value} (HS : Hid (St cc q w0 w (front ++ ([(g, E, cs)] ++ ll)))) (d x : Operand) (dT sT : TypeId) (ho : o.op = .call { callee := .builtin .copy, args := #[d, x], argTypes := #[dT, sT] })
    (s : Nat) (hu : P.underlying dT = some (.slice E)) (hs : (P.info? E).map (·.size) = some s) (of dLen dCap : Nat) (hd : a.eval d = .slice (some ⟨g, of, none⟩) dLen dCap) (ad : Addr) (sLen sCap : Nat) (hx : a.eval x = .slice (some ad) sLen sCap) (k : Nat) (hk : k = Nat.min sLen dLen)
    (vs : List Value) (hn : vs.length = k * s) (hsrc : ∀ j v, vs[j]? = some v → w.cell? (ad.add j) = some v) (hfit : of + vs.length ≤ cs.length) (h1 : ∀ v ∈ vs, v.oneCell' = true) (hl : l.Sublist (front ++ ([(g, E, cs.take of ++ vs ++ cs.drop (of + vs.length))] ++ ll)))
    (h : ∀ w', Hid (St cc q w0 w' (front ++ ([(g, E, cs.take of ++ vs ++ cs.drop (of + vs.length))] ++ ll))) → wpAnyH P .any ops Q (InSt cc q w0 l) fuel (listed.setIfInBounds i true) (a.put d0 (.int .i64 k)) w') : HkX P ops Q (InSt cc q w0 l) fuel listed a w i := by
  have hdd : o.dst = d0 := by rw [hi] at hd0; exact hd0
  refine ⟨o, hi, hw, ?_⟩
  obtain ⟨w', hr, hst⟩ := St.copy (P := P) HS.out dT sT o.type s hu hs of dLen dCap ad sLen sCap vs (by rw [hn, hk]) hsrc hfit h1
  have := h w' hst
  unfold Oper.wp execOp
  rw [← hk] at hr
  simp only [ho, resolve, invoke, builtin, Sem.run_bind, Sem.run_pure, Result.andThen_ok, List.map_toArray, List.map_cons, List.map_nil, hd, hx, hr, Oper.upon]
  rw [hdd]
  exact ⟨St.sub hst hl, this⟩
end
end Go.Proofs.YtnfkplohpjfocaaGreat

namespace Go.Proofs.YtnfkplohpjfocaaGreat
theorem take_past {α : Type} (a b : List α) (k : Nat) : (a ++ b).take (a.length + k) = a ++ b.take k := by
  rw [List.take_append, Nat.add_sub_cancel_left, List.take_of_length_le (by omega)]
theorem drop_past {α : Type} (a b : List α) (k : Nat) : (a ++ b).drop (a.length + k) = b.drop k := by
  rw [List.drop_append]
  simp [Nat.add_sub_cancel_left]
/-- In place: what is behind is moved up, then the new one is laid down. -/
theorem ins_room {α : Type} (A B J X : List α) (hJ : X.length ≤ J.length) :
    ((((A ++ (B ++ J)).take (A.length + X.length) ++ B ++ (A ++ (B ++ J)).drop (A.length + X.length + B.length)).take A.length) ++ X ++ ((A ++ (B ++ J)).take (A.length + X.length) ++ B ++ (A ++ (B ++ J)).drop (A.length + X.length + B.length)).drop (A.length + X.length)) = A ++ (X ++ B ++ J.drop X.length) := by
  rw [Nat.add_assoc, take_past, drop_past]
  have e : (B ++ J).drop (X.length + B.length) = J.drop X.length := by rw [Nat.add_comm, drop_past]
  rw [e]
  have h4 : ((B ++ J).take X.length).length = X.length := by rw [List.length_take, List.length_append]; omega
  obtain ⟨T, hT⟩ : ∃ T, T = (B ++ J).take X.length := ⟨_, rfl⟩
  rw [← hT] at h4 ⊢
  have e1 : (A ++ T ++ B ++ J.drop X.length).take A.length = A := by rw [List.append_assoc, List.append_assoc]; simp
  have e2 : (A ++ T ++ B ++ J.drop X.length).drop (A.length + X.length) = B ++ J.drop X.length := by
    rw [List.append_assoc, List.append_assoc, drop_past, ← h4]
    simp
  rw [e1, e2]
  simp
end Go.Proofs.YtnfkplohpjfocaaGreat

namespace Go.Proofs.YtnfkplohpjfocaaGreat
open Go.RowKit
section
variable {P : Program} {ops : Array Oper} {Q : Exit → Act → World → Prop} {a : Act} {w : World} {cc : Option Nat} {q : CodeRow} {w0 : World} {l : List (Nat × TypeId × List Value)} {o : Oper} {rest : List Oper}
theorem zeroCells_len (z : Array Value) (n : Nat) : (Builtin.zeroCells z n).size = n * z.size := by simp [Builtin.zeroCells]
theorem sx_appendZ (HS : Hid (St cc q w0 w l)) (hw : Region.wanted o (yielded ops a.tmps) = true) (s x : Operand) (t tn : TypeId) (ho : o.op = .call { callee := .builtin .append, args := #[s, x], argTypes := #[t, tn] })
    (E : TypeId) (ie : TypeInfo) (z : Value) (size : Nat) (ht : P.underlying t = some (.slice E)) (htn : P.underlying tn = some (.int .i64)) (hie : P.info? E = some ie) (hz : ie.zero = some z) (hsize : ie.size = size) (hsz : 0 < size) (hzs : z.cells.size = size)
    (ad : Addr) (i cap k : Nat) (hs : a.eval s = .slice (some ad) i cap) (hx : a.eval x = .int .i64 (k : Int)) (olds : List Value) (hol : olds.length = i * size) (hcells : ∀ j v, olds[j]? = some v → w.cell? (ad.add j) = some v)
    (hk : 0 < k) (hg : cap < i + k) (h63 : i + k ≤ maxLen) (hb : (i + k) * ie.bytes ≤ 140737488355328)
    (h : ∀ w' b cap' mid junk, Hid (St cc q w0 w' ((b, E, olds ++ (mid ++ junk)) :: l)) → mid.length = k * size → i + k ≤ cap' → cap' ≤ maxLen → junk.length = (cap' - (i + k)) * size → wpList P ops Q rest (a.put o.dst (.slice (some ⟨b, 0, none⟩) (i + k) cap')) w') : wpList P ops Q (o :: rest) a w :=
  wpList_wanted hw fun _ hK => by
    subst hsize
    have hold : (Builtin.firstCells ie.size i (.slice (some ad) i cap)).run P w.drew = .ok olds.toArray w.drew := by
      have hl := run_loadCells_list (P := P) w.drew ad olds (fun j v hj => hcells j v hj)
      rw [hol] at hl
      exact hl
    have hr := Lib.run_append_grow_zeros (P := P) w t tn o.type E ie z .i64 .i64 ht htn hie hz (some ad) i cap olds hold k hk hsz hg (by unfold maxLen at h63; omega) (by
      have : k * ie.bytes ≤ (i + k) * ie.bytes := Nat.mul_le_mul_right _ (by omega)
      omega) (growslice_fits hg hb)
    have hst : St cc q w0 (w.drew.alloc (.cells (olds ++ ((Builtin.zeroCells z.cells k).toList ++ (Builtin.zeroCells z.cells (grownCap w (i + k) cap E - (i + k))).toList)).toArray E)) ((w.heap.size, E, olds ++ ((Builtin.zeroCells z.cells k).toList ++ (Builtin.zeroCells z.cells (grownCap w (i + k) cap E - (i + k))).toList)) :: l) := HS.out.drew.new (NewBox.of _ _ _)
    have e : (olds.toArray ++ Builtin.zeroCells z.cells k ++ Builtin.zeroCells z.cells (grownCap w (i + k) cap E - (i + k))) = (olds ++ ((Builtin.zeroCells z.cells k).toList ++ (Builtin.zeroCells z.cells (grownCap w (i + k) cap E - (i + k))).toList)).toArray := by
      apply Array.ext'
      simp
    rw [e] at hr
    have := hK _ _ (h _ _ _ _ _ hst (by rw [Array.length_toList, zeroCells_len, hzs]) (grownCap_ge _ _ _ _) (grownCap_le_maxLen _ _ _ _ h63) (by rw [Array.length_toList, zeroCells_len, hzs]))
    unfold Oper.wp execOp
    simp only [ho, resolve, invoke, builtin, Sem.run_bind, Sem.run_pure, Result.andThen_ok, List.map_toArray, List.map_cons, List.map_nil, hs, hx, hr]
    exact this
end
end Go.Proofs.YtnfkplohpjfocaaGreat

namespace Go.Proofs.YtnfkplohpjfocaaGreat
open Go.RowKit
def InsPost (q : CodeRow) (w0 : World) (front ll : List (Nat × TypeId × List Value)) (gs : List G) (e : Ending) (w' : World) : Prop := ∃ (v : Value) (lr : List (Nat × TypeId × List Value)), e = .returned v ∧ St none q w0 w' (front ++ (lr ++ ll)) ∧ OwnRow 29 4 lr v gs.length (gL gs)
set_option maxHeartbeats 4000000 in
set_option maxRecDepth 100000 in
theorem gs_insert_end (q : CodeRow) (w0 w : World) (front lr ll : List (Nat × TypeId × List Value)) (v : Value) (gs : List G) (g : G) (b : Nat) (hst : St none q w0 w (front ++ (lr ++ ll))) (hr : OwnRow 29 4 lr v gs.length (gL gs)) (hb : (b, 29, g.lst) ∈ front) (hlen : gs.length ≤ 1000000) :
    Calls Tryz.prog 57 #[v, .int .i64 (gs.length : Int), .slice (some ⟨b, 0, none⟩) 1 1] w (InsPost q w0 front ll (gs ++ [g])) := by
  obtain ⟨ie, hie, hiz, his, hib⟩ := info_grant
  have HIE := Lib.hid hie
  have HIZ := Lib.hid hiz
  have HIS := Lib.hid his
  have HIB := Lib.hid hib
  clear hie hiz his hib
  have HS := Lib.hid hst
  have HR := Lib.hid hr
  have HBX : Hid (PBox w b 29 g.lst) := Lib.hid ((Bx_iff.1 hst.own).1 _ (List.mem_append_left _ hb)).2
  obtain ⟨ao, cap, rfl, hc1, hc2⟩ := hr.form
  obtain ⟨n, hn⟩ : ∃ n, n = gs.length := ⟨_, rfl⟩
  rw [← hn] at HR hc1 hlen ⊢
  have HN := Lib.hid hn
  have hc3 : cap ≤ 9223372036854775807 := hc2
  clear hn hst hr hb hc2
  obtain ⟨sv, hsv⟩ : ∃ sv, sv = sliced ao n n cap 4 := ⟨_, rfl⟩
  have HSV := Lib.hid hsv
  clear hsv
  go_enter Tryz.func57, Tryz.ntmps57
  go_wp2_with (first | (refine sx_run rfl sv (run_sl_lo (n := n) (k := n) (s := 4) rfl Tryz.underlying23 (by kernel_rfl) rfl rfl (Nat.le_refl _) HSV.out) ?_) | (at_builtin; refine sx_appendO (front := front) (lr := lr) (ll := ll) HS rfl _ _ 23 rfl 29 ie _ 4 _ Tryz.underlying23 HIE.out HIZ.out HIS.out rfl rfl _ n (gL gs) rfl HR.out _ rfl 1 g.lst (SrcAt.box HBX.out rfl rfl) (by unfold maxLen; omega) (Nat.le_trans (Nat.mul_le_mul (show n + 1 ≤ 1000001 by omega) HIB.out) (by decide)) ?_; clear HS HBX; intro vv w lq HS HR2))
  go_ret
  refine ⟨_, lq, rfl, HS.out, ?_⟩
  rw [List.length_append, gL_append, gL_one, ← HN.out]
  exact HR2.out
end Go.Proofs.YtnfkplohpjfocaaGreat

namespace Go.Proofs.YtnfkplohpjfocaaGreat
open Go.RowKit
theorem pbox_shape {w : World} {b : Nat} {T : TypeId} {cs : List Value} (h : PBox w b T cs) : w.shape? b = some (T, cs.length) := by
  have h' : w.heap[b]? = some (.cells cs.toArray T (0, 0)) := h
  simp [World.shape?, h']
theorem pbox_frozen {w : World} {b o : Nat} {T : TypeId} {cs : List Value} (h : PBox w b T cs) : w.frozen? ⟨b, o, none⟩ = false := by
  have h' : w.heap[b]? = some (.cells cs.toArray T (0, 0)) := h
  simp [World.frozen?, h']
theorem size_grant (w : World) : (sizeOf 29).run Tryz.prog w = .ok 4 w := by
  obtain ⟨ie, h1, _, h2, _⟩ := info_grant
  simp [sizeOf, typeInfo, h1, h2]
theorem run_overlaps_grants (w : World) (b gq of lb cb : Nat) (T2 : TypeId) (g : G) (cs : List Value) (hB : PBox w b 29 g.lst) (hQ : PBox w gq T2 cs) (hne : b ≠ gq) (hc : cs.length ≠ 0) :
    (callFunc 79 #[.slice (some ⟨b, 0, none⟩) 1 1, .slice (some ⟨gq, of, none⟩) lb cb]).run Tryz.prog w = .ok (.value (.bool false)) w := by
  rw [run_callFunc_extern Tryz.func79 (by kernel_rfl) (by kernel_rfl) (by kernel_rfl) (e := Extern.SlicesOverlaps.overlaps #[23, 23] #[4]) (by kernel_rfl),
    Lib.run_overlaps_apart w 23 4 29 Tryz.underlying23 4 size_grant ⟨b, 0, none⟩ ⟨gq, of, none⟩ 1 1 lb cb hne _ _ _ _ (pbox_shape hB) (pbox_shape hQ) hc (pbox_frozen hB) (pbox_frozen hB)]
  rfl
end Go.Proofs.YtnfkplohpjfocaaGreat

namespace Go.Proofs.YtnfkplohpjfocaaGreat
open Go.RowKit
section
variable {P : Program}
theorem zeroCells_one (zs : List Value) (h1 : ∀ v ∈ zs, v.oneCell' = true) (n : Nat) : ∀ v ∈ (Builtin.zeroCells zs.toArray n).toList, v.oneCell' = true := by
  intro v hv
  unfold Builtin.zeroCells at hv
  simp only [Array.toList_map, Array.toList_range, List.mem_map, List.mem_range] at hv
  obtain ⟨i, hi, rfl⟩ := hv
  have hz : 0 < zs.length := by
    rcases Nat.eq_zero_or_pos zs.length with h | h
    · rw [List.size_toArray, h] at hi; simp at hi
    · exact h
  have hlt : i % zs.length < zs.length := Nat.mod_lt _ hz
  refine h1 _ ?_
  simp only [List.size_toArray]
  rw [getElem!_pos (h := by simpa using hlt)]
  simp
/-- 'clear' of a part of a block that is known whole. -/
theorem run_clear_rows (w : World) (t e ty : TypeId) (z : Value) (zs : List Value) (ht : P.underlying t = some (.slice e)) (hv : ∀ w, (zeroValue e).run P w = .ok z w) (hz : z.cells = zs.toArray) (h1 : ∀ v ∈ zs, v.oneCell' = true) (g o n c : Nat) (T : TypeId) (cs : List Value) (hB : PBox w g T cs) (hfit : o + n * zs.length ≤ cs.length) :
    ∃ js w', js.length = n * zs.length ∧ (Builtin.clear_ #[t] ty #[.slice (some ⟨g, o, none⟩) n c]).run P w = .ok (.tuple #[]) w' ∧ PBox w' g T (cs.take o ++ js ++ cs.drop (o + js.length)) ∧ Only g w w' := by
  cases n with
  | zero => exact ⟨[], w, by simp, by simp [Builtin.clear_, run_underlying ht], by simpa using hB, Only.refl _ _⟩
  | succ n =>
    have hl : (Builtin.zeroCells z.cells (n + 1)).toList.length = (n + 1) * zs.length := by rw [Array.length_toList, hz, zeroCells_len]; simp
    have hst := run_storeCells_at P g o T (Builtin.zeroCells z.cells (n + 1)).toList 0 cs.toArray w hB (by simpa [hl] using hfit) (by rw [hz]; exact zeroCells_one zs h1 _)
    refine ⟨_, _, hl, by simp only [Nat.add_zero] at hst; simp [Builtin.clear_, run_underlying ht, hv, hst], setRow_heap w g cs.toArray _ T (0, 0) hB, only_setRow _ _ _⟩
theorem run_sl_mid {o : Oper} {a : Act} {w : World} {t E : TypeId} {x y z : Operand} {ao : Option Addr} {n cap k h s : Nat} {sv : Value} (ho : o.op = .slice t x (some y) (some z) none) (hu : P.underlying t = some (.slice E)) (hs : (P.info? E).map (·.size) = some s) (hx : a.eval x = .slice ao n cap) (hy : a.eval y = .int .i64 (k : Int)) (hz : a.eval z = .int .i64 (h : Int)) (hk : k ≤ h) (hh : h ≤ cap) (hv : sv = sliced ao k h cap s) :
    (execOp a.eval o).run P w = .ok (.value sv) w := by
  cases hi : P.info? E with
  | none => rw [hi] at hs; cases hs
  | some i =>
    rw [hi] at hs
    simp at hs
    subst hs hv
    unfold execOp
    simp [ho, hx, hy, hz, Instr.sliceAt, Instr.slice, run_underlying hu, Instr.sliceBounds, run_sliceBound, hk, hh, sizeOf, typeInfo, hi, sliced]
theorem run_sl_3 {o : Oper} {a : Act} {w : World} {t E : TypeId} {x y z u : Operand} {ao : Option Addr} {n cap k h m s : Nat} {sv : Value} (ho : o.op = .slice t x (some y) (some z) (some u)) (hu : P.underlying t = some (.slice E)) (hs : (P.info? E).map (·.size) = some s) (hx : a.eval x = .slice ao n cap) (hy : a.eval y = .int .i64 (k : Int)) (hz : a.eval z = .int .i64 (h : Int)) (hm : a.eval u = .int .i64 (m : Int)) (hk : k ≤ h) (hh : h ≤ m) (hc : m ≤ cap) (hv : sv = sliced ao k h m s) :
    (execOp a.eval o).run P w = .ok (.value sv) w := by
  cases hi : P.info? E with
  | none => rw [hi] at hs; cases hs
  | some i =>
    rw [hi] at hs
    simp at hs
    subst hs hv
    unfold execOp
    simp [ho, hx, hy, hz, hm, Instr.sliceAt, Instr.slice, run_underlying hu, Instr.sliceBounds, run_sliceBound, hk, hh, hc, sizeOf, typeInfo, hi, sliced]
end
section
variable {P : Program} {ops : Array Oper} {Q : Exit → Act → World → Prop} {a : Act} {w : World} {cc : Option Nat} {q : CodeRow} {w0 : World} {l L : List (Nat × TypeId × List Value)} {fuel : Nat} {listed : Array Bool} {o : Oper} {rest : List Oper}
theorem sx_clear {front ll : List (Nat × TypeId × List Value)} {g : Nat} {E : TypeId} {cs : List Value} (HS : Hid (St cc q w0 w (front ++ ([(g, E, cs)] ++ ll)))) (hw : Region.wanted o (yielded ops a.tmps) = true) (x : Operand) (t : TypeId) (ho : o.op = .call { callee := .builtin .clear, args := #[x], argTypes := #[t] })
    (e : TypeId) (z : Value) (zs : List Value) (ht : P.underlying t = some (.slice e)) (hz0 : (P.info? e).bind (·.zero) = some z) (hz : z.cells = zs.toArray) (h1 : ∀ v ∈ zs, v.oneCell' = true) (of n c : Nat) (hx : a.eval x = .slice (some ⟨g, of, none⟩) n c) (hfit : of + n * zs.length ≤ cs.length)
    (h : ∀ w' js, js.length = n * zs.length → Hid (St cc q w0 w' (front ++ ([(g, E, cs.take of ++ js ++ cs.drop (of + js.length))] ++ ll))) → wpList P ops Q rest (a.put o.dst (.tuple #[])) w') : wpList P ops Q (o :: rest) a w :=
  wpList_wanted hw fun _ hK => by
    have hB : PBox w g E cs := ((Bx_iff.1 HS.out.own).1 (g, E, cs) (by simp)).2
    have hv : ∀ w, (zeroValue e).run P w = .ok z w := fun w => by
      cases hi : P.info? e with
      | none => rw [hi] at hz0; cases hz0
      | some i =>
        rw [hi] at hz0
        have : i.zero = some z := hz0
        simp [zeroValue, typeInfo, hi, this]
    obtain ⟨js, w', hl, hr, hB', ho'⟩ := run_clear_rows (P := P) w t e o.type z zs ht hv hz h1 g of n c E cs hB hfit
    have := hK _ _ (h w' js hl (HS.out.chg ho' hB'))
    unfold Oper.wp execOp
    simp only [ho, resolve, invoke, builtin, Sem.run_bind, Sem.run_pure, Result.andThen_ok, List.map_toArray, List.map_cons, List.map_nil, hx, hr]
    exact this
/-- Append where there is room, into a block that is known. -/
theorem sx_appendIn {front ll : List (Nat × TypeId × List Value)} {g : Nat} {E : TypeId} {pre xs junk : List Value} (HS : Hid (St cc q w0 w (front ++ ([(g, E, pre ++ (xs ++ junk))] ++ ll)))) (hw : Region.wanted o (yielded ops a.tmps) = true)
    (s x : Operand) (t : TypeId) (ho : o.op = .call { callee := .builtin .append, args := #[s, x], argTypes := #[t, t] })
    (ie : TypeInfo) (size : Nat) (ht : P.underlying t = some (.slice E)) (hie : P.info? E = some ie) (hsize : ie.size = size) (off n cap : Nat) (hoff : off = pre.length) (hs : a.eval s = .slice (some ⟨g, off, none⟩) n cap) (hxl : xs.length = n * size) (hj : junk.length = (cap - n) * size)
    (ad : Addr) (m c : Nat) (hx : a.eval x = .slice (some ad) m c) (news : List Value) (hl : news.length = m * size) (hnews : ∀ (j : Nat) (u : Value), news[j]? = some u → w.cell? (ad.add j) = some u) (h1 : news.all (·.oneCell') = true) (hroom : n + m ≤ cap)
    (h : ∀ w', Hid (St cc q w0 w' (front ++ ([(g, E, pre ++ ((xs ++ news) ++ junk.drop (m * size)))] ++ ll))) → wpList P ops Q rest (a.put o.dst (.slice (some ⟨g, off, none⟩) (n + m) cap)) w') : wpList P ops Q (o :: rest) a w :=
  wpList_wanted hw fun _ hK => by
    subst hoff hsize
    have hB : PBox w g E (pre ++ (xs ++ junk)) := ((Bx_iff.1 HS.out.own).1 (g, E, pre ++ (xs ++ junk)) (by simp)).2
    obtain ⟨w', hrun, hB', ho'⟩ := run_append_in (P := P) w t o.type E ie ht hie g cap pre junk hB hxl hj ad c hl hnews (fun u hu => (List.all_eq_true.1 h1) u hu) hroom
    have := hK _ _ (h w' (HS.out.chg ho' hB'))
    unfold Oper.wp execOp
    simp only [ho, resolve, invoke, builtin, Sem.run_bind, Sem.run_pure, Result.andThen_ok, List.map_toArray, List.map_cons, List.map_nil, hs, hx, hrun]
    exact this
theorem hg_appendIn (i : Nat) (d : Option Tmp) (hd0 : (ops[i]?).bind (·.dst) = d) (hi : ops[i]? = some o) (hw : Region.wanted o (yielded ops a.tmps) = true) {front ll : List (Nat × TypeId × List Value)} {g : Nat} {E : TypeId} {pre xs junk : List Value} (HS : Hid (St cc q w0 w (front ++ ([(g, E, pre ++ (xs ++ junk))] ++ ll))))
    (s x : Operand) (t : TypeId) (ho : o.op = .call { callee := .builtin .append, args := #[s, x], argTypes := #[t, t] })
    (ie : TypeInfo) (size : Nat) (ht : P.underlying t = some (.slice E)) (hie : P.info? E = some ie) (hsize : ie.size = size) (off n cap : Nat) (hoff : off = pre.length) (hs : a.eval s = .slice (some ⟨g, off, none⟩) n cap) (hxl : xs.length = n * size) (hj : junk.length = (cap - n) * size)
    (ad : Addr) (m c : Nat) (hx : a.eval x = .slice (some ad) m c) (news : List Value) (hl : news.length = m * size) (hnews : ∀ (j : Nat) (u : Value), news[j]? = some u → w.cell? (ad.add j) = some u) (h1 : news.all (·.oneCell') = true) (hroom : n + m ≤ cap) (hk : l.Sublist (front ++ ([(g, E, pre ++ ((xs ++ news) ++ junk.drop (m * size)))] ++ ll)))
    (h : ∀ w', Hid (St cc q w0 w' (front ++ ([(g, E, pre ++ ((xs ++ news) ++ junk.drop (m * size)))] ++ ll))) → wpAnyH P .any ops Q (InSt cc q w0 l) fuel (listed.setIfInBounds i true) (a.put d (.slice (some ⟨g, off, none⟩) (n + m) cap)) w') : HkX P ops Q (InSt cc q w0 l) fuel listed a w i := by
  have hdd : o.dst = d := by rw [hi] at hd0; exact hd0
  refine ⟨o, hi, hw, ?_⟩
  subst hoff hsize
  have hB : PBox w g E (pre ++ (xs ++ junk)) := ((Bx_iff.1 HS.out.own).1 (g, E, pre ++ (xs ++ junk)) (by simp)).2
  obtain ⟨w', hrun, hB', ho'⟩ := run_append_in (P := P) w t o.type E ie ht hie g cap pre junk hB hxl hj ad c hl hnews (fun u hu => (List.all_eq_true.1 h1) u hu) hroom
  have hst := HS.out.chg ho' hB'
  unfold Oper.wp execOp
  simp only [ho, resolve, invoke, builtin, Sem.run_bind, Sem.run_pure, Result.andThen_ok, List.map_toArray, List.map_cons, List.map_nil, hs, hx, hrun, Oper.upon]
  rw [hdd]
  exact ⟨St.sub hst hk, h _ hst⟩
/-- the cells of a part of a block -/
theorem part_cells {front ll : List (Nat × TypeId × List Value)} {g : Nat} {E : TypeId} {pre xs junk : List Value} (HS : St cc q w0 w (front ++ ([(g, E, pre ++ (xs ++ junk))] ++ ll))) {off : Nat} (hoff : off = pre.length) : ∀ (j : Nat) (u : Value), xs[j]? = some u → w.cell? ((⟨g, off, none⟩ : Addr).add j) = some u := by
  intro j u hj
  have hB : PBox w g E (pre ++ (xs ++ junk)) := ((Bx_iff.1 HS.own).1 (g, E, pre ++ (xs ++ junk)) (by simp)).2
  subst hoff
  rw [addr_add]
  refine hB.cell ?_
  rw [List.getElem?_append_right (by omega), Nat.add_sub_cancel_left, List.getElem?_append_left (List.getElem?_eq_some_iff.1 hj).1]
  exact hj
end
theorem sliced_at {g off k h cap s : Nat} (hk : k < cap) : sliced (some ⟨g, off, none⟩) k h cap s = .slice (some ⟨g, off + k * s, none⟩) (h - k) (cap - k) := by
  unfold sliced
  rw [if_neg (by omega)]
  simp [addr_add]
end Go.Proofs.YtnfkplohpjfocaaGreat

namespace Go.Proofs.YtnfkplohpjfocaaGreat
open Go.RowKit
theorem gL_cut {gs : List G} {i : Nat} (hi : i < gs.length) : gL gs = gL (gs.take i) ++ (gs[i].lst ++ gL (gs.drop (i + 1))) := by
  have : gs = gs.take i ++ gs[i] :: gs.drop (i + 1) := by rw [List.getElem_cons_drop, List.take_append_drop]
  conv => lhs; rw [this]
  rw [gL_append, gL_cons]
set_option maxHeartbeats 4000000 in
set_option maxRecDepth 100000 in
theorem gs_delete (q : CodeRow) (w0 w : World) (front lr ll : List (Nat × TypeId × List Value)) (v : Value) (gs : List G) (i : Nat) (hst : St none q w0 w (front ++ (lr ++ ll))) (hr : OwnRow 29 4 lr v gs.length (gL gs)) (hi : i < gs.length) (hlen : gs.length ≤ 1000000) :
    Calls Tryz.prog 82 #[v, .int .i64 (i : Int), .int .i64 ((i : Int) + 1)] w (InsPost q w0 front ll (gs.eraseIdx i)) := by
  obtain ⟨ie, hie, hiz, his, hib⟩ := info_grant
  have HIE := Lib.hid hie
  have HIS := Lib.hid his
  clear hie hiz his hib
  obtain ⟨hxl, ⟨_, _, h0⟩ | ⟨g, cap, pre, junk, rfl, rfl, hnc, hcm, hj⟩⟩ := hr
  · omega
  have hcut := gL_cut hi
  obtain ⟨n, hn⟩ : ∃ n, n = gs.length := ⟨_, rfl⟩
  obtain ⟨ld, hld⟩ : ∃ ld, ld = n - (i + 1) := ⟨_, rfl⟩
  obtain ⟨m, hm⟩ : ∃ m, m = i + ld := ⟨_, rfl⟩
  obtain ⟨A, hA⟩ : ∃ A, A = gL (gs.take i) := ⟨_, rfl⟩
  obtain ⟨C, hC⟩ : ∃ C, C = gL (gs.drop (i + 1)) := ⟨_, rfl⟩
  obtain ⟨B, hB⟩ : ∃ B, B = gs[i].lst := ⟨_, rfl⟩
  have hAl : A.length = i * 4 := by rw [hA, gL_len, List.length_take]; omega
  have hCl : C.length = ld * 4 := by rw [hC, gL_len, List.length_drop]; omega
  have hBl : B.length = 4 := by rw [hB]; rfl
  have hC1 : C.all (·.oneCell') = true := by rw [hC]; exact gL_one' _
  rw [← hA, ← hB, ← hC] at hcut
  rw [hcut] at hst
  have hfin : gL (gs.eraseIdx i) = A ++ C := by rw [List.eraseIdx_eq_take_drop_succ, gL_append, hA, hC]
  have hfl : (gs.eraseIdx i).length = m := by rw [List.length_eraseIdx_of_lt hi]; omega
  rw [← hn] at hj hnc hi hlen ⊢
  have HS : Hid (St none q w0 w (front ++ ([(g, 29, pre ++ (A ++ ((B ++ C) ++ junk)))] ++ ll))) := Lib.hid (by rw [List.append_assoc] at hst; exact hst)
  have HFIN := Lib.hid hfin
  have HFL := Lib.hid hfl
  have HAL := Lib.hid hAl
  have HCL := Lib.hid hCl
  have HBL := Lib.hid hBl
  have HC1 := Lib.hid hC1
  have HJ := Lib.hid hj
  have hcm2 : cap ≤ 9223372036854775807 := hcm
  obtain ⟨off, hoff⟩ : ∃ off, off = pre.length := ⟨_, rfl⟩
  have HOFF := Lib.hid hoff
  rw [← hoff]
  have hmn : m + 1 = n := by omega
  have hin : i < cap := by omega
  clear hcut hst hxl hn hA hC hB hfin hfl hAl hCl hBl hC1 hj hoff hcm
  go_enter Tryz.func82, Tryz.ntmps82
  go_wp2_with (first | (refine sx_run rfl _ (run_sl_3 (ao := some ⟨g, off, none⟩) (n := n) (cap := cap) (k := i) (h := i + 1) (m := n) (s := 4) rfl Tryz.underlying23 (by kernel_rfl) rfl rfl rfl rfl (by omega) (by omega) (by omega) rfl) ?_))
  obtain ⟨ad, c2, hsv, hcells⟩ : ∃ ad c2, sliced (some ⟨g, off, none⟩) (i + 1) n cap 4 = .slice (some ad) ld c2 ∧ ∀ (w : World) (L : List (Nat × TypeId × List Value)), St none q w0 w (front ++ ([(g, 29, pre ++ (A ++ ((B ++ C) ++ junk)))] ++ L)) → ∀ (j : Nat) (u : Value), C[j]? = some u → w.cell? (ad.add j) = some u := by
    by_cases hc : i + 1 = cap
    · have h0 : ld = 0 := by omega
      have hC0 : C = [] := List.eq_nil_of_length_eq_zero (by rw [HCL.out, h0])
      refine ⟨⟨g, off, none⟩, cap - (i + 1), by unfold sliced; rw [if_pos (by omega), h0, show n - (i + 1) = 0 by omega], fun w L h j u hj => ?_⟩
      rw [hC0] at hj; cases hj
    · refine ⟨⟨g, off + (i + 1) * 4, none⟩, cap - (i + 1), by rw [sliced_at (by omega), hld], fun w L h j u hj => ?_⟩
      refine part_cells (pre := pre ++ (A ++ B)) (xs := C) (junk := junk) (ll := L) (front := front) (E := 29) (g := g) (by simpa using h) ?_ j u hj
      have h1 := HOFF.out; have h2 := HAL.out; have h3 := HBL.out
      simp only [List.length_append]; omega
  refine hg_begin [] HS (by kernel_rfl) ?_
  clear HS; intro w HS
  refine hg_reg 0 (some 20) rfl rfl (by kernel_rfl) (by kernel_rfl) (by kernel_rfl) (fun _ _ _ _ h => h) HS (List.nil_sublist _) (.slice (some ⟨g, off, none⟩) n cap) rfl (fun _ => by rfl) ?_
  try simp only [Act.put, List.setIfInBounds_toArray, List.set_cons_zero, List.set_cons_succ]
  refine hg_reg 1 (some 21) rfl rfl (by kernel_rfl) (by kernel_rfl) (by kernel_rfl) (fun _ _ _ _ h => h) HS (List.nil_sublist _) (.int .i64 (i : Int)) rfl (fun _ => by rfl) ?_
  try simp only [Act.put, List.setIfInBounds_toArray, List.set_cons_zero, List.set_cons_succ]
  refine hg_reg 2 (some 22) rfl rfl (by kernel_rfl) (by kernel_rfl) (by kernel_rfl) (fun _ _ _ _ h => h) HS (List.nil_sublist _) (.slice (some ⟨g, off, none⟩) i cap) rfl (fun _ => by exact run_sl_hi (n := n) (s := 4) rfl Tryz.underlying23 (by kernel_rfl) rfl rfl (by omega) (sliced_hi4 _ _ _ 4).symm) ?_
  try simp only [Act.put, List.setIfInBounds_toArray, List.set_cons_zero, List.set_cons_succ]
  refine hg_reg 3 (some 23) rfl rfl (by kernel_rfl) (by kernel_rfl) (by kernel_rfl) (fun _ _ _ _ h => h) HS (List.nil_sublist _) (.slice (some ⟨g, off, none⟩) n cap) rfl (fun _ => by rfl) ?_
  try simp only [Act.put, List.setIfInBounds_toArray, List.set_cons_zero, List.set_cons_succ]
  refine hg_reg 4 (some 24) rfl rfl (by kernel_rfl) (by kernel_rfl) (by kernel_rfl) (fun _ _ _ _ h => h) HS (List.nil_sublist _) (.int .i64 ((i : Int) + 1)) rfl (fun _ => by rfl) ?_
  try simp only [Act.put, List.setIfInBounds_toArray, List.set_cons_zero, List.set_cons_succ]
  refine hg_reg 5 (some 25) rfl rfl (by kernel_rfl) (by kernel_rfl) (by kernel_rfl) (fun _ _ _ _ h => h) HS (List.nil_sublist _) (.slice (some ad) ld c2) rfl (fun _ => by exact run_sl_lo (n := n) (k := i + 1) (s := 4) rfl Tryz.underlying23 (by kernel_rfl) rfl rfl (by omega) hsv.symm) ?_
  try simp only [Act.put, List.setIfInBounds_toArray, List.set_cons_zero, List.set_cons_succ]
  refine hk_x1 6 (by kernel_rfl) ?_
  refine hg_appendIn 6 (some 26) rfl rfl rfl HS _ _ _ rfl ie 4 Tryz.underlying23 HIE.out HIS.out off i cap HOFF.out rfl HAL.out (by have h1 := HJ.out; have h2 := HCL.out; have h3 := HBL.out; simp only [List.length_append, h1, h2, h3]; omega) ad ld c2 rfl C HCL.out (hcells _ _ HS.out) HC1.out (by omega) (List.nil_sublist _) ?_
  clear HS hcells; intro w HS
  try simp only [Act.put, List.setIfInBounds_toArray, List.set_cons_zero, List.set_cons_succ]
  refine hg_reg 7 (some 0) rfl rfl (by kernel_rfl) (by kernel_rfl) (by kernel_rfl) (fun _ _ _ _ h => h) HS (List.nil_sublist _) (.slice (some ⟨g, off, none⟩) (i + ld) cap) rfl (fun _ => by rfl) ?_
  try simp only [Act.put, List.setIfInBounds_toArray, List.set_cons_zero, List.set_cons_succ]
  refine hk_done (by kernel_rfl) ?_
  rw [← hm]
  have hlAC : (A ++ C).length = m * 4 := by rw [List.length_append, HAL.out, HCL.out]; omega
  have HLAC := Lib.hid hlAC
  have hdr : ((B ++ C ++ junk).drop (ld * 4)).length = 4 + (cap - n) * 4 := by
    have h1 := HJ.out; have h2 := HCL.out; have h3 := HBL.out
    simp only [List.length_drop, List.length_append, h1, h2, h3]; omega
  obtain ⟨R, hR⟩ : ∃ R, R = (B ++ C ++ junk).drop (ld * 4) := ⟨_, rfl⟩
  rw [← hR] at HS hdr
  have HDR := Lib.hid hdr
  clear hR hdr hlAC
  have hmn1 : m < n := by omega
  have hmn2 : n ≤ m + 1 := by omega
  clear hm hld hmn hsv
  go_wp2_with (first | (refine sx_run rfl _ (run_sl_mid (ao := some ⟨g, off, none⟩) (n := m) (cap := cap) (k := m) (h := n) (s := 4) rfl Tryz.underlying23 (by kernel_rfl) rfl rfl rfl (by omega) (by omega) (sliced_at (by omega)).symm) ?_) | (refine sx_clear HS rfl _ _ rfl 29 _ [.int .i64 0, .int .i64 0, .int .i64 0, .int .i64 0] Tryz.underlying23 zr29 rfl (by intro v hv; simp at hv; subst hv; rfl) (off + m * 4) (n - m) (cap - m) rfl (by have h1 := HLAC.out; have h2 := HDR.out; have h3 := HOFF.out; simp only [List.length_append, h2, h3, List.length_cons, List.length_nil]; simp only [List.length_append] at h1; omega) ?_; clear HS; intro w js hjs HS; have HJS := Lib.hid hjs; clear hjs))

  go_ret
  refine ⟨_, _, rfl, HS.out, ?_⟩
  rw [HFL.out, HFIN.out]
  have hm1 : n - m = 1 := by omega
  have hjs := HJS.out
  rw [hm1] at hjs
  have hAC := HLAC.out
  have hoff := HOFF.out
  have e1 : (pre ++ (A ++ C ++ R)).take (off + m * 4) = pre ++ (A ++ C) := by
    rw [hoff, ← hAC, take_past, List.take_left]
  have e2 : (pre ++ (A ++ C ++ R)).drop (off + m * 4 + js.length) = R.drop js.length := by
    rw [hoff, ← hAC, Nat.add_assoc, drop_past, drop_past]
  rw [e1, e2, List.append_assoc pre]
  refine ⟨HLAC.out, .inr ⟨g, cap, pre, js ++ R.drop js.length, by simp, (by rw [← hoff]; rfl), by omega, hcm2, ?_⟩⟩
  have h2 := HDR.out
  simp only [List.length_append, List.length_drop, h2, hjs, List.length_cons, List.length_nil]
  omega
end Go.Proofs.YtnfkplohpjfocaaGreat
