/-
  Appending whatever a slice holds to a row of the call's own; parts of slices; structs read out of memory that came in. No function of the program is named here.
-/
import Derived.Test.YtnfkplohpjfocaaGreatNwA
import Derived.Deep.DeepCutAuto
import Derived.Sort.Row
import Derived.Sort.Grow
set_option linter.unusedVariables false
set_option linter.unusedSimpArgs false
namespace Go.Proofs.YtnfkplohpjfocaaGreat
open Go.RowKit
/-- The slice sv holds m elements of 'size' cells, news. -/
def SrcAt (w : World) (size : Nat) (sv : Value) (m : Nat) (news : List Value) : Prop :=
  news.length = m * size ∧ news.all (·.oneCell') = true ∧ ((∃ ad c, sv = .slice (some ad) m c ∧ ∀ (j : Nat) (u : Value), news[j]? = some u → w.cell? (ad.add j) = some u) ∨ (sv = .slice none 0 0 ∧ m = 0))
theorem SrcAt.box {w : World} {size m c b : Nat} {T : TypeId} {news : List Value} (h : PBox w b T news) (hl : news.length = m * size) (h1 : news.all (·.oneCell') = true) : SrcAt w size (.slice (some ⟨b, 0, none⟩) m c) m news :=
  ⟨hl, h1, .inl ⟨_, c, rfl, fun j u hj => by rw [addr_add]; exact h.cell (by simpa using hj)⟩⟩
section
variable {P : Program}
theorem run_append_nil (w : World) (t ty e : TypeId) (i : TypeInfo) (ht : P.underlying t = some (.slice e)) (hi : P.info? e = some i) (a : Option Addr) (n cap : Nat) (hn : n ≤ cap) :
    (Builtin.append_ #[t, t] ty #[.slice a n cap, .slice none 0 0]).run P w = .ok (.slice a n cap) w := by
  cases a <;> simp [Builtin.append_, run_underlying ht, sizeOf, typeInfo, hi, Builtin.lenOf, Builtin.firstCells, hn, storeCells]
theorem run_append_src (w : World) (base : Nat) (t ty e : TypeId) (i : TypeInfo) (z : Value) (size bytes : Nat) (ht : P.underlying t = some (.slice e)) (hi : P.info? e = some i) (hz : i.zero = some z)
    (hsize : i.size = size) (hby : i.bytes = bytes) (hzs : z.cells.size = size) (hsz : 0 < size) (v : Value) (n : Nat) (xs : List Value) (hown : w.ownsRow base e size v n xs)
    (sv : Value) (m : Nat) (news : List Value) (hs : SrcAt w size sv m news) (h63 : n + m ≤ maxLen) (hbytes : (n + m) * bytes ≤ 140737488355328) (hbase : base ≤ w.heap.size) :
    ∃ v' w', (Builtin.append_ #[t, t] ty #[v, sv]).run P w = .ok v' w' ∧ w'.ownsRow base e size v' (n + m) (xs ++ news) ∧ w.grownBy w' v.ownBlock ∧ (v'.ownBlock = v.ownBlock ∨ v'.ownBlock = some w.heap.size) := by
  obtain ⟨hl, h1, ⟨ad, c, rfl, hc⟩ | ⟨rfl, rfl⟩⟩ := hs
  · obtain ⟨v', w', h2, h3, h4, _, h5⟩ := run_append_own_at (P := P) w base t ty e i z size bytes ht hi hz hsize hby hzs hsz v n xs hown ad m c news hl hc (fun u hu => (List.all_eq_true.1 h1) u hu) h63 hbytes hbase
    exact ⟨v', w', h2, h3, h4, h5⟩
  · have hnil : news = [] := List.eq_nil_of_length_eq_zero (by simpa using hl)
    subst hnil
    obtain ⟨a, cap, rfl, hnc⟩ : ∃ a cap, v = .slice a n cap ∧ n ≤ cap := by
      rcases hown.2 with ⟨rfl, rfl⟩ | ⟨g, cap, cur, rfl, _, _, hnc, _⟩
      · exact ⟨none, 0, rfl, Nat.le_refl _⟩
      · exact ⟨_, cap, rfl, hnc⟩
    refine ⟨_, w, run_append_nil w t ty e i ht hi a n cap hnc, ?_, ⟨rfl, rfl, rfl, Nat.le_refl _, fun _ _ _ => rfl⟩, .inl rfl⟩
    simpa using hown
end
section
variable {P : Program} {ops : Array Oper} {Q : Exit → Act → World → Prop} {a : Act} {w : World} {cc : Option Nat} {q : CodeRow} {w0 : World} {l L : List (Nat × TypeId × List Value)} {fuel : Nat} {listed : Array Bool} {o : Oper} {rest : List Oper}
/-- A row of the call's own grows. -/
theorem sx_append {front lr ll : List (Nat × TypeId × List Value)} (HS : Hid (St cc q w0 w (front ++ (lr ++ ll)))) (hw : Region.wanted o (yielded ops a.tmps) = true)
    (s x : Operand) (t : TypeId) (ho : o.op = .call { callee := .builtin .append, args := #[s, x], argTypes := #[t, t] })
    (E : TypeId) (ie : TypeInfo) (z : Value) (size bytes : Nat) (ht : P.underlying t = some (.slice E)) (hie : P.info? E = some ie) (hz : ie.zero = some z) (hsize : ie.size = size) (hby : ie.bytes = bytes) (hzs : z.cells.size = size) (hsz : 0 < size)
    (v : Value) (n : Nat) (xs : List Value) (hs : a.eval s = v) (hr : RowEnt E size lr v n xs) (sv : Value) (hx : a.eval x = sv) (m : Nat) (news : List Value) (hsrc : SrcAt w size sv m news)
    (h63 : n + m ≤ maxLen) (hbytes : (n + m) * bytes ≤ 140737488355328)
    (h : ∀ v' w' lr', Hid (St cc q w0 w' (front ++ (lr' ++ ll))) → Hid (RowEnt E size lr' v' (n + m) (xs ++ news)) → wpList P ops Q rest (a.put o.dst v') w') : wpList P ops Q (o :: rest) a w :=
  wpList_wanted hw fun _ hK => by
    obtain ⟨v', w', hrun, h2, h3, h5⟩ := run_append_src (P := P) w w0.heap.size t o.type E ie z size bytes ht hie hz hsize hby hzs hsz v n xs (RowEnt.owns HS.out hr) sv m news hsrc h63 hbytes HS.out.size
    obtain ⟨lr', h6, h7⟩ := St.append HS.out hr h2 h3 h5
    unfold Oper.wp execOp
    simp only [ho, resolve, invoke, builtin, Sem.run_bind, Sem.run_pure, Result.andThen_ok, List.map_toArray, List.map_cons, List.map_nil, hs, hx, hrun, Oper.upon]
    exact hK _ _ (h v' w' lr' h6 h7)
theorem hg_appendS (i : Nat) (d : Option Tmp) (hd0 : (ops[i]?).bind (·.dst) = d) (hi : ops[i]? = some o) (hw : Region.wanted o (yielded ops a.tmps) = true) {front lr ll : List (Nat × TypeId × List Value)} (HS : Hid (St cc q w0 w (front ++ (lr ++ ll)))) (hk : ∀ lr' : List (Nat × TypeId × List Value), l.Sublist (front ++ (lr' ++ ll)))
    (s x : Operand) (t : TypeId) (ho : o.op = .call { callee := .builtin .append, args := #[s, x], argTypes := #[t, t] })
    (E : TypeId) (ie : TypeInfo) (z : Value) (size bytes : Nat) (ht : P.underlying t = some (.slice E)) (hie : P.info? E = some ie) (hz : ie.zero = some z) (hsize : ie.size = size) (hby : ie.bytes = bytes) (hzs : z.cells.size = size) (hsz : 0 < size)
    (v : Value) (n : Nat) (xs : List Value) (hs : a.eval s = v) (hr : RowEnt E size lr v n xs) (sv : Value) (hx : a.eval x = sv) (m : Nat) (news : List Value) (hsrc : SrcAt w size sv m news)
    (h63 : n + m ≤ maxLen) (hbytes : (n + m) * bytes ≤ 140737488355328)
    (h : ∀ v' w' lr', Hid (St cc q w0 w' (front ++ (lr' ++ ll))) → Hid (RowEnt E size lr' v' (n + m) (xs ++ news)) → wpAnyH P .any ops Q (InSt cc q w0 l) fuel (listed.setIfInBounds i true) (a.put d v') w') : HkX P ops Q (InSt cc q w0 l) fuel listed a w i := by
  have hd : o.dst = d := by rw [hi] at hd0; exact hd0
  refine ⟨o, hi, hw, ?_⟩
  obtain ⟨v', w', hrun, h2, h3, h5⟩ := run_append_src (P := P) w w0.heap.size t o.type E ie z size bytes ht hie hz hsize hby hzs hsz v n xs (RowEnt.owns HS.out hr) sv m news hsrc h63 hbytes HS.out.size
  obtain ⟨lr', h6, h7⟩ := St.append HS.out hr h2 h3 h5
  unfold Oper.wp execOp
  simp only [ho, resolve, invoke, builtin, Sem.run_bind, Sem.run_pure, Result.andThen_ok, List.map_toArray, List.map_cons, List.map_nil, hs, hx, hrun, Oper.upon]
  rw [hd]
  exact ⟨St.sub h6 (hk lr'), h v' w' lr' h6 h7⟩
/-- A slice of literal parts, as a block of the call's own. -/
theorem sx_build (HS : Hid (St cc q w0 w l)) (hw : Region.wanted o (yielded ops a.tmps) = true) (t E : TypeId) (len : Nat) (parts : List (Nat × Operand)) (ho : o.op = .buildSlice t len parts.toArray) (pl : List (Nat × Value)) (hpl : (parts.map fun x => (x.1, a.eval x.2)) = pl) (cs : List Value)
    (hrun : ∀ w : World, (Instr.buildSlice t len pl.toArray).run P w = .ok (.slice (some ⟨w.heap.size, 0, none⟩) len len) (w.alloc (.cells cs.toArray E)))
    (h : ∀ w' b, Hid (St cc q w0 w' ((b, E, cs) :: l)) → wpList P ops Q rest (a.put o.dst (.slice (some ⟨b, 0, none⟩) len len)) w') : wpList P ops Q (o :: rest) a w :=
  wpList_wanted hw fun _ hK => by
    have hm : (parts.toArray.map fun x => (x.1, a.eval x.2)) = pl.toArray := by rw [List.map_toArray, hpl]
    have hr := hrun w
    unfold Oper.wp execOp
    simp only [ho, hm, Sem.run_bind, hr, Result.andThen_ok, Sem.run_pure]
    exact hK _ _ (h _ _ (HS.out.new (NewBox.of w E cs.toArray)))
theorem run_load_cells {ty : TypeId} {b off n : Nat} {vs : List Value} (hs : shapeOf P ty = some (true, n)) (hn : vs.length = n) (hc : ∀ (j : Nat) (v : Value), vs[j]? = some v → w.cell? ⟨b, off + j, none⟩ = some v) :
    (loadVar ty ⟨b, off, none⟩).run P w = .ok (.agg vs.toArray) w := by
  subst hn
  have hl := run_loadCells_list (P := P) w ⟨b, off, none⟩ vs (fun j v hj => by rw [addr_add]; exact hc j v hj)
  unfold loadVar
  rw [Sem.run_bind, (shape_agg hs w).1, Result.andThen_ok, if_pos rfl, Sem.run_bind, (shape_agg hs w).2, Result.andThen_ok, Sem.run_bind, hl]
  rfl
/-- A struct is read out of memory whose cells are known. -/
theorem sx_loadsC (hw : Region.wanted o (yielded ops a.tmps) = true) (ty : TypeId) (x : Operand) (ho : o.op = .load ty x) (b off : Nat) (hx : a.eval x = .pointer (some ⟨b, off, none⟩)) (n : Nat) (hs : shapeOf P ty = some (true, n)) (vs : List Value) (hn : vs.length = n)
    (hc : ∀ (j : Nat) (v : Value), vs[j]? = some v → w.cell? ⟨b, off + j, none⟩ = some v)
    (h : wpList P ops Q rest (a.put o.dst (.agg vs.toArray)) w) : wpList P ops Q (o :: rest) a w :=
  wpList_wanted hw fun _ hK => by
    unfold Oper.wp execOp
    simp only [ho, hx, Instr.loadAt, Instr.sureAddr, Sem.run_bind, Sem.run_pure, Result.andThen_ok, run_load_cells (P := P) hs hn hc]
    exact hK _ _ h
end
/-- A slice, and what it holds: rows of 'size' cells. -/
def SlAt (w : World) (size : Nat) (v : Value) (rows : List (List Value)) : Prop :=
  ∃ ao cap, v = .slice ao rows.length cap ∧ rows.length ≤ cap ∧ cap ≤ maxLen ∧ (rows ≠ [] → ∃ g off, ao = some ⟨g, off, none⟩ ∧ ∀ (i : Nat) (r : List Value), rows[i]? = some r → ∀ (j : Nat) (u : Value), r[j]? = some u → w.cell? ⟨g, off + i * size + j, none⟩ = some u)
theorem SlAt.ext {w w' : World} {size : Nat} {v : Value} {rows : List (List Value)} (h : SlAt w size v rows) (k : Ext w w') : SlAt w' size v rows := by
  obtain ⟨ao, cap, h1, h2, h3, h4⟩ := h
  refine ⟨ao, cap, h1, h2, h3, fun hne => ?_⟩
  obtain ⟨g, off, h5, h6⟩ := h4 hne
  refine ⟨g, off, h5, fun i r hi j u hj => ?_⟩
  have := h6 i r hi j u hj
  exact (Below.cell (p := ⟨g, off + i * size + j, none⟩) k (block_lt_of_cell (a := ⟨g, off + i * size + j, none⟩) this)).trans this
theorem RowEnt.at {cc : Option Nat} {q : CodeRow} {w0 w : World} {L lr : List (Nat × TypeId × List Value)} {E : TypeId} {size : Nat} {v : Value} {rows : List (List Value)} (h : St cc q w0 w L) (hm : ∀ e ∈ lr, e ∈ L) (hs : ∀ r ∈ rows, r.length = size) (hr : RowEnt E size lr v rows.length rows.flatten) : SlAt w size v rows := by
  rcases hr.2 with ⟨_, rfl, h3⟩ | ⟨g, cap, junk, rfl, rfl, h1, h2, h3⟩
  · have : rows = [] := List.eq_nil_of_length_eq_zero h3
    subst this
    exact ⟨none, 0, rfl, Nat.le_refl _, Nat.zero_le _, fun h => absurd rfl h⟩
  · refine ⟨_, cap, rfl, h1, h2, fun _ => ⟨g, 0, rfl, fun i r hi j u hj => ?_⟩⟩
    have hb : PBox w g E (rows.flatten ++ junk) := ((Bx_iff.1 h.own).1 (g, E, rows.flatten ++ junk) (hm _ (by simp))).2
    refine hb.cell ?_
    have h5 := flatten_at hs hi j u hj
    rw [Nat.zero_add, List.getElem?_append_left (List.getElem?_eq_some_iff.1 h5).1]
    exact h5
end Go.Proofs.YtnfkplohpjfocaaGreat

namespace Go.Proofs.YtnfkplohpjfocaaGreat
open Go.RowKit
theorem St.perm {cc : Option Nat} {q : CodeRow} {w0 w : World} {l L : List (Nat × TypeId × List Value)} (h : St cc q w0 w L) (p : l.Perm L) : St cc q w0 w l :=
  ⟨h.fr, h.codes, Bx_iff.2 ⟨fun x hx => (Bx_iff.1 h.own).1 x (p.subset hx), (p.pairwise_iff (fun {x y} hxy => fun e => hxy e.symm)).2 (Bx_iff.1 h.own).2⟩, h.maps⟩
section
variable {P : Program} {ops : Array Oper} {Q : Exit → Act → World → Prop} {a : Act} {w : World} {cc : Option Nat} {q : CodeRow} {w0 : World} {l L : List (Nat × TypeId × List Value)} {fuel : Nat} {listed : Array Bool} {o : Oper} {rest : List Oper}
/-- A cell is read that the region writes later. -/
theorem hx_load (i : Nat) (d : Option Tmp) (hd0 : (ops[i]?).bind (·.dst) = d) (hi : ops[i]? = some o) (hw : Region.wanted o (yielded ops a.tmps) = true) (HS : Hid (St cc q w0 w L)) (hk : l.Sublist L) (ty : TypeId) (x : Operand) (ho : o.op = .load ty x) (j b : Nat) (T : TypeId) (cs : List Value) (hl : L[j]? = some (b, T, cs))
    (off : Nat) (hx : a.eval x = .pointer (some ⟨b, off, none⟩)) (n : Nat) (hsh : shapeOf P ty = some (false, n)) (v : Value) (hv : cs[off]? = some v)
    (h : wpAnyH P .any ops Q (InSt cc q w0 l) fuel (listed.setIfInBounds i true) (a.put d v) w) : HkX P ops Q (InSt cc q w0 l) fuel listed a w i := by
  have hd : o.dst = d := by rw [hi] at hd0; exact hd0
  refine ⟨o, hi, hw, ?_⟩
  unfold Oper.wp execOp
  simp only [ho, hx, Instr.loadAt, Instr.sureAddr, Sem.run_bind, Sem.run_pure, Result.andThen_ok, run_load_box (P := P) (HS.out.box hl) hsh hv, Oper.upon]
  rw [hd]
  exact ⟨HS.out.sub hk, h⟩
/-- A cell of a block that the class does not speak of is written. -/
theorem hg_store1 (i : Nat) (hi : ops[i]? = some o) (hw : Region.wanted o (yielded ops a.tmps) = true) (HS : Hid (St cc q w0 w L)) (ty : TypeId) (x y : Operand) (ho : o.op = .store ty x y) (hd : o.dst = none) (j b : Nat) (T : TypeId) (cs : List Value) (hl : L[j]? = some (b, T, cs))
    (off : Nat) (hx : a.eval x = .pointer (some ⟨b, off, none⟩)) (v : Value) (hy : a.eval y = v) (hsh : shapeOf P ty = some (false, 1)) (h1 : v.oneCell' = true) (hoff : Nat.ble (off + 1) cs.length = true) (hk : l.Sublist (L.set j (b, T, cs.set off v)))
    (h : ∀ w', Hid (St cc q w0 w' (L.set j (b, T, cs.set off v))) → wpAnyH P .any ops Q (InSt cc q w0 l) fuel (listed.setIfInBounds i true) a w') : HkX P ops Q (InSt cc q w0 l) fuel listed a w i := by
  refine ⟨o, hi, hw, ?_⟩
  have hB := HS.out.box hl
  obtain ⟨w', hr, hB', hko, _⟩ := run_storeCells_box (P := P) b T [v] 0 off cs w hB (by have := Nat.le_of_ble_eq_true hoff; simp; omega) (fun u hu => by simp at hu; subst hu; exact h1)
  have hc : v.cells = #[v] := by cases v <;> first | rfl | cases h1
  have HS' : Hid (St cc q w0 w' (L.set j (b, T, cs.set off v))) := HS.out.set hl hko hB'
  unfold Oper.wp execOp
  have hrun : (storeVar ty ⟨b, off, none⟩ v).run P w = .ok () w' := by
    unfold storeVar
    rw [Sem.run_bind, (shape_one hsh w).2, Result.andThen_ok, hc]
    simp [hr]
  simp only [ho, hx, hy, Instr.storeAt, Instr.sureAddr, Sem.run_bind, Sem.run_pure, Result.andThen_ok, hrun, Oper.upon, hd, Act.put]
  exact ⟨HS'.out.sub hk, h _ HS'⟩
end
theorem hg_load {P : Program} {ops : Array Oper} {Q : Exit → Act → World → Prop} {a : Act} {w : World} {cc : Option Nat} {q : CodeRow} {w0 : World} {l L : List (Nat × TypeId × List Value)} {fuel : Nat} {listed : Array Bool} {o : Oper} (i : Nat) (d : Option Tmp) (hd0 : (ops[i]?).bind (·.dst) = d) (hi : ops[i]? = some o) (hs : Region.noSelect ops = true) (hf : Region.free .any ops listed i = true) (hr : (Region.ready .any ops listed).contains i = true)
    (hQ : ∀ v c a w, Q (.panic c) (a.put o.dst v) w → Q (.panic c) a w) (HS : Hid (St cc q w0 w L)) (hk : l.Sublist L) (hw : Region.wanted o (yielded ops a.tmps) = true)
    (ty : TypeId) (x : Operand) (ho : o.op = .load ty x) (j b : Nat) (T : TypeId) (cs : List Value) (hl : l[j]? = some (b, T, cs)) (off : Nat) (hx : a.eval x = .pointer (some ⟨b, off, none⟩)) (n : Nat) (hsh : shapeOf P ty = some (false, n)) (v : Value) (hv : cs[off]? = some v)
    (h : wpAnyH P .any ops Q (InSt cc q w0 l) fuel (listed.setIfInBounds i true) (a.put d v) w) : wpAnyH P .any ops Q (InSt cc q w0 l) (fuel + 1) listed a w :=
  have hd : o.dst = d := by rw [hi] at hd0; exact hd0
  wpAnyH_take (v := v) hi hs hf hr (hQ _) (.inl ⟨hw, fun w hS => by
    have hB : PBox w b T cs := St.box hS hl
    unfold execOp
    simp only [ho, hx, Instr.loadAt, Instr.sureAddr, Sem.run_bind, Sem.run_pure, Result.andThen_ok, run_load_box (P := P) hB hsh hv]⟩) (HS.out.sub hk) (by rw [hd]; exact h)
theorem take_flatten {s : Nat} : ∀ {rows : List (List Value)}, (∀ r ∈ rows, r.length = s) → ∀ k, k ≤ rows.length → rows.flatten.take (k * s) = (rows.take k).flatten ∧ rows.flatten.drop (k * s) = (rows.drop k).flatten
  | rows, _, 0, _ => by simp
  | [], _, k + 1, h => by simp at h
  | x :: rows, hl, k + 1, h => by
    have hx := hl x (by simp)
    have ih := take_flatten (rows := rows) (fun y hy => hl y (List.mem_cons_of_mem _ hy)) k (by simpa using h)
    have e : (k + 1) * s = x.length + k * s := by rw [hx, Nat.succ_mul]; omega
    simp only [List.flatten_cons, List.take_succ_cons, List.drop_succ_cons]
    rw [e, List.take_length_add_append, List.drop_length_add_append, ih.1, ih.2]
    exact ⟨rfl, rfl⟩
theorem oneCells_take {xs : List Value} (h : xs.all (·.oneCell') = true) (k : Nat) : (xs.take k).all (·.oneCell') = true ∧ (xs.drop k).all (·.oneCell') = true := by
  rw [List.all_eq_true] at h
  constructor <;> rw [List.all_eq_true] <;> intro v hv
  · exact h v (List.mem_of_mem_take hv)
  · exact h v (List.mem_of_mem_drop hv)
/-- The first k of a row of the call's own, and the others. -/
theorem src_parts {cc : Option Nat} {q : CodeRow} {w0 w : World} {L lr : List (Nat × TypeId × List Value)} {E : TypeId} {size n k cap : Nat} {ao : Option Addr} {xs : List Value} (h : St cc q w0 w L) (hm : ∀ e ∈ lr, e ∈ L) (hr : RowEnt E size lr (.slice ao n cap) n xs) (h1 : xs.all (·.oneCell') = true) (hk : k ≤ n) :
    SrcAt w size (sliced ao 0 k cap size) k (xs.take (k * size)) ∧ SrcAt w size (sliced ao k n cap size) (n - k) (xs.drop (k * size)) := by
  have hl := hr.1
  have hks : k * size ≤ n * size := Nat.mul_le_mul_right _ hk
  have hl1 : (xs.take (k * size)).length = k * size := by rw [List.length_take]; omega
  have hl2 : (xs.drop (k * size)).length = (n - k) * size := by rw [List.length_drop, hl, Nat.sub_mul]
  have ho := oneCells_take h1 (k * size)
  rcases hr.2 with ⟨_, hv, hn⟩ | ⟨g, cap2, junk, rfl, hv, hnc, _, hcz⟩
  · cases hv
    have hk0 : k = 0 := by omega
    subst hk0
    refine ⟨⟨hl1, ho.1, .inr ⟨by simp [sliced], rfl⟩⟩, ⟨hl2, ho.2, .inr ⟨by simp [sliced], by omega⟩⟩⟩
  · cases hv
    have hb : PBox w g E (xs ++ junk) := ((Bx_iff.1 h.own).1 (g, E, xs ++ junk) (hm _ (by simp))).2
    refine ⟨⟨hl1, ho.1, .inl ⟨⟨g, 0, none⟩, cap, ?_, fun j u hj => ?_⟩⟩, ⟨hl2, ho.2, ?_⟩⟩
    · unfold sliced
      split
      · simp
      · simp [addr_add]
    · rw [addr_add]
      refine hb.cell ?_
      rw [Nat.zero_add]
      have hj2 := (List.getElem?_eq_some_iff.1 hj).1
      rw [hl1] at hj2
      rw [List.getElem?_take, if_pos hj2] at hj
      rw [List.getElem?_append_left (List.getElem?_eq_some_iff.1 hj).1]
      exact hj
    · by_cases hck : cap = k
      · refine .inl ⟨⟨g, 0, none⟩, cap - k, ?_, fun j u hj => ?_⟩
        · unfold sliced
          rw [if_pos hck]
        · have := (List.getElem?_eq_some_iff.1 hj).1
          rw [hl2, show n - k = 0 by omega] at this
          omega
      · refine .inl ⟨⟨g, k * size, none⟩, cap - k, ?_, fun j u hj => ?_⟩
        · unfold sliced
          rw [if_neg hck]
          simp [addr_add]
        · rw [addr_add]
          refine hb.cell ?_
          rw [List.getElem?_drop] at hj
          rw [List.getElem?_append_left (List.getElem?_eq_some_iff.1 hj).1]
          exact hj
theorem row_form {E : TypeId} {size n : Nat} {lr : List (Nat × TypeId × List Value)} {v : Value} {xs : List Value} (h : RowEnt E size lr v n xs) : ∃ ao cap, v = .slice ao n cap ∧ n ≤ cap ∧ cap ≤ maxLen := by
  rcases h.2 with ⟨_, rfl, rfl⟩ | ⟨g, cap, junk, _, rfl, h1, h2, _⟩
  · exact ⟨none, 0, rfl, Nat.le_refl _, Nat.zero_le _⟩
  · exact ⟨_, cap, rfl, h1, h2⟩
section
variable {P : Program}
theorem run_sl_hi {o : Oper} {a : Act} {w : World} {t E : TypeId} {x y : Operand} {ao : Option Addr} {n cap k s : Nat} {sv : Value} (ho : o.op = .slice t x none (some y) none) (hu : P.underlying t = some (.slice E)) (hs : (P.info? E).map (·.size) = some s) (hx : a.eval x = .slice ao n cap) (hy : a.eval y = .int .i64 (k : Int)) (hk : k ≤ cap) (hv : sv = sliced ao 0 k cap s) :
    (execOp a.eval o).run P w = .ok (.value sv) w := by
  cases hi : P.info? E with
  | none => rw [hi] at hs; cases hs
  | some i =>
    rw [hi] at hs
    simp at hs
    subst hs hv
    unfold execOp
    simp [ho, hx, hy, Instr.sliceAt, Instr.slice, run_underlying hu, Instr.sliceBounds, run_sliceBound, hk, sizeOf, typeInfo, hi, sliced]
theorem run_sl_lo {o : Oper} {a : Act} {w : World} {t E : TypeId} {x y : Operand} {ao : Option Addr} {n cap k s : Nat} {sv : Value} (ho : o.op = .slice t x (some y) none none) (hu : P.underlying t = some (.slice E)) (hs : (P.info? E).map (·.size) = some s) (hx : a.eval x = .slice ao n cap) (hy : a.eval y = .int .i64 (k : Int)) (hk : k ≤ n) (hv : sv = sliced ao k n cap s) :
    (execOp a.eval o).run P w = .ok (.value sv) w := by
  cases hi : P.info? E with
  | none => rw [hi] at hs; cases hs
  | some i =>
    rw [hi] at hs
    simp at hs
    subst hs hv
    unfold execOp
    simp [ho, hx, hy, Instr.sliceAt, Instr.slice, run_underlying hu, Instr.sliceBounds, run_sliceBound, hk, sizeOf, typeInfo, hi, sliced]
end
section
variable {P : Program} {ops : Array Oper} {Q : Exit → Act → World → Prop} {a : Act} {w : World} {cc : Option Nat} {q : CodeRow} {w0 : World} {l L : List (Nat × TypeId × List Value)} {fuel : Nat} {listed : Array Bool} {o : Oper} {rest : List Oper}
/-- An operation whose guard says no. -/
theorem hg_skip (i : Nat) (d : Option Tmp) (hd0 : (ops[i]?).bind (·.dst) = d) (hi : ops[i]? = some o) (hs : Region.noSelect ops = true) (hf : Region.free .any ops listed i = true) (hr : (Region.ready .any ops listed).contains i = true)
    (hQ : ∀ v c a w, Q (.panic c) (a.put o.dst v) w → Q (.panic c) a w) (HS : Hid (St cc q w0 w L)) (hk : l.Sublist L) (hw : Region.wanted o (yielded ops a.tmps) = false)
    (h : wpAnyH P .any ops Q (InSt cc q w0 l) fuel (listed.setIfInBounds i true) (a.put d undef) w) : wpAnyH P .any ops Q (InSt cc q w0 l) (fuel + 1) listed a w :=
  have hd : o.dst = d := by rw [hi] at hd0; exact hd0
  wpAnyH_take (v := undef) hi hs hf hr (hQ _) (.inr ⟨hw, rfl⟩) (HS.out.sub hk) (by rw [hd]; exact h)
/-- A struct is read out of memory whose cells the class of worlds knows. -/
theorem hg_loadsC (i : Nat) (d : Option Tmp) (hd0 : (ops[i]?).bind (·.dst) = d) (hi : ops[i]? = some o) (hs : Region.noSelect ops = true) (hf : Region.free .any ops listed i = true) (hr : (Region.ready .any ops listed).contains i = true)
    (hQ : ∀ v c a w, Q (.panic c) (a.put o.dst v) w → Q (.panic c) a w) (HS : Hid (St cc q w0 w L)) (hk : l.Sublist L) (hw : Region.wanted o (yielded ops a.tmps) = true)
    (ty : TypeId) (x : Operand) (ho : o.op = .load ty x) (b off : Nat) (hx : a.eval x = .pointer (some ⟨b, off, none⟩)) (n : Nat) (hsh : shapeOf P ty = some (true, n)) (vs : List Value) (hn : vs.length = n) (hc : ∀ w', St cc q w0 w' l → ∀ (j : Nat) (v : Value), vs[j]? = some v → w'.cell? ⟨b, off + j, none⟩ = some v)
    (h : wpAnyH P .any ops Q (InSt cc q w0 l) fuel (listed.setIfInBounds i true) (a.put d (.agg vs.toArray)) w) : wpAnyH P .any ops Q (InSt cc q w0 l) (fuel + 1) listed a w :=
  have hd : o.dst = d := by rw [hi] at hd0; exact hd0
  wpAnyH_take (v := .agg vs.toArray) hi hs hf hr (hQ _) (.inl ⟨hw, fun w hS => by
    unfold execOp
    simp only [ho, hx, Instr.loadAt, Instr.sureAddr, Sem.run_bind, Sem.run_pure, Result.andThen_ok, run_load_cells (P := P) hsh hn (hc w hS)]⟩) (HS.out.sub hk) (by rw [hd]; exact h)
theorem run_callv {f : FuncId} {caps : List Value} {fv : Operand} {xs : List Operand} {ts : Array TypeId} (ho : o.op = .call { callee := .value fv, args := xs.toArray, argTypes := ts }) (hfv : a.eval fv = .func (.func f) #[] caps.toArray) {fn : Func} (hf : P.funcs[f]? = some fn) (hname : (fn.name == "runtime.NumGoroutine") = false) (hb : fn.body.isSome = true) (al : List Value) (hargs : xs.map a.eval = al) :
    (execOp a.eval o).run P w = .ok (.enter f (al ++ caps).toArray) w := by
  have h1 : fn.name ≠ "runtime.NumGoroutine" := by simpa using hname
  obtain ⟨c, hc⟩ := Option.isSome_iff_exists.1 hb
  have hrun : (callFunc f (al ++ caps).toArray).run P w = .ok (.enter f (al ++ caps).toArray) w := by simp [callFunc, hf, h1, hc]
  have hm : xs.toArray.map a.eval = al.toArray := by rw [List.map_toArray, hargs]
  have hap : al.toArray ++ caps.toArray = (al ++ caps).toArray := by simp
  unfold execOp
  simp only [ho, resolve, Deferred.ofValue, invoke, hfv, hm, Sem.run_bind, Sem.run_pure, Result.andThen_ok, Array.empty_append, hap, hrun]
/-- A call through a function value, in a region. -/
theorem hg_callv (i : Nat) (d : Option Tmp) (hd0 : (ops[i]?).bind (·.dst) = d) (hi : ops[i]? = some o) (hw : Region.wanted o (yielded ops a.tmps) = true) (_HS : Hid (St cc q w0 w L)) (hk : l.Sublist L) (f : FuncId) (caps : List Value) (fv : Operand) (xs : List Operand) (ts : Array TypeId)
    (ho : o.op = .call { callee := .value fv, args := xs.toArray, argTypes := ts }) (hfv : a.eval fv = .func (.func f) #[] caps.toArray) {fn : Func} (hf : P.funcs[f]? = some fn) (hname : (fn.name == "runtime.NumGoroutine") = false) (hb : fn.body.isSome = true)
    (al : List Value) (hargs : xs.map a.eval = al) (R : Value → Prop) (hc : Calls P f (al ++ caps).toArray w (fun e w' => ∃ v, e = .returned v ∧ R v ∧ St cc q w0 w' L))
    (h : ∀ v w', R v → Hid (St cc q w0 w' L) → wpAnyH P .any ops Q (InSt cc q w0 l) fuel (listed.setIfInBounds i true) (a.put d v) w') : HkX P ops Q (InSt cc q w0 l) fuel listed a w i := by
  have hd : o.dst = d := by rw [hi] at hd0; exact hd0
  refine ⟨o, hi, hw, ?_⟩
  unfold Oper.wp
  rw [run_callv ho hfv hf hname hb al hargs]
  simp only [Oper.upon]
  refine hc.mono fun e w' he => ?_
  obtain ⟨v, rfl, hv, hx⟩ := he
  rw [hd]
  exact ⟨St.sub hx hk, h v w' hv hx⟩
/-- The same in a region whose order is the text's. -/
theorem sx_callv (hw : Region.wanted o (yielded ops a.tmps) = true) (f : FuncId) (caps : List Value) (fv : Operand) (xs : List Operand) (ts : Array TypeId)
    (ho : o.op = .call { callee := .value fv, args := xs.toArray, argTypes := ts }) (hfv : a.eval fv = .func (.func f) #[] caps.toArray) {fn : Func} (hf : P.funcs[f]? = some fn) (hname : (fn.name == "runtime.NumGoroutine") = false) (hb : fn.body.isSome = true)
    (al : List Value) (hargs : xs.map a.eval = al) (R : Value → World → Prop) (hc : Calls P f (al ++ caps).toArray w (fun e w' => ∃ v, e = .returned v ∧ R v w'))
    (h : ∀ v w', R v w' → wpList P ops Q rest (a.put o.dst v) w') : wpList P ops Q (o :: rest) a w :=
  wpList_wanted hw fun _ hK => by
    unfold Oper.wp
    rw [run_callv ho hfv hf hname hb al hargs]
    simp only [Oper.upon]
    refine hc.mono fun e w' he => ?_
    obtain ⟨v, rfl, hv⟩ := he
    exact hK _ _ (h v w' hv)
end
theorem SlAt.get {w0 : World} {size : Nat} {v : Value} {rows : List (List Value)} (h : SlAt w0 size v rows) : ∃ ao cap, v = .slice ao rows.length cap ∧ rows.length ≤ cap ∧ cap ≤ 9223372036854775807 ∧ (0 < rows.length → ∃ g off, ao = some ⟨g, off, none⟩ ∧ ∀ (i : Nat) (r : List Value), rows[i]? = some r → ∀ w, Ext w0 w → ∀ (j : Nat) (u : Value), r[j]? = some u → w.cell? ⟨g, off + i * size + j, none⟩ = some u) := by
  obtain ⟨ao, cap, h1, h2, h3, h4⟩ := h
  refine ⟨ao, cap, h1, h2, by unfold maxLen at h3; omega, fun hne => ?_⟩
  obtain ⟨g, off, h5, h6⟩ := h4 (fun e => by rw [e] at hne; simp at hne)
  refine ⟨g, off, h5, fun i r hi w k j u hj => ?_⟩
  have := h6 i r hi j u hj
  exact (Below.cell (p := ⟨g, off + i * size + j, none⟩) k (block_lt_of_cell (a := ⟨g, off + i * size + j, none⟩) this)).trans this
end Go.Proofs.YtnfkplohpjfocaaGreat

namespace Go.Proofs.YtnfkplohpjfocaaGreat
open Go.RowKit
def OwnRow (E : TypeId) (size : Nat) (lr : List (Nat × TypeId × List Value)) (v : Value) (n : Nat) (xs : List Value) : Prop :=
  xs.length = n * size ∧ ((lr = [] ∧ (∃ ao, v = .slice ao 0 0) ∧ n = 0) ∨ ∃ g cap pre junk, lr = [(g, E, pre ++ (xs ++ junk))] ∧ v = .slice (some ⟨g, pre.length, none⟩) n cap ∧ n ≤ cap ∧ cap ≤ maxLen ∧ junk.length = (cap - n) * size)
section
variable {P : Program} {cc : Option Nat} {q : CodeRow} {w0 w : World} {front lr ll : List (Nat × TypeId × List Value)} {E : TypeId} {size n m : Nat} {v : Value} {xs news : List Value}
theorem OwnRow.of (h : RowEnt E size lr v n xs) : OwnRow E size lr v n xs := by
  refine ⟨h.1, ?_⟩
  rcases h.2 with ⟨h1, h2, h3⟩ | ⟨g, cap, junk, h1, h2, h3, h4, h5⟩
  · exact .inl ⟨h1, ⟨none, h2⟩, h3⟩
  · refine .inr ⟨g, cap, [], junk, h1, h2, h3, h4, ?_⟩
    rw [List.length_append, h.1] at h5
    rw [Nat.sub_mul]
    omega
theorem OwnRow.nil : OwnRow E size [] (.slice none 0 0) 0 [] := OwnRow.of RowEnt.nil
theorem OwnRow.form (h : OwnRow E size lr v n xs) : ∃ ao cap, v = .slice ao n cap ∧ n ≤ cap ∧ cap ≤ maxLen := by
  rcases h.2 with ⟨_, ⟨ao, rfl⟩, rfl⟩ | ⟨g, cap, pre, junk, _, rfl, h1, h2, _⟩
  · exact ⟨ao, 0, rfl, Nat.le_refl _, Nat.zero_le _⟩
  · exact ⟨_, cap, rfl, h1, h2⟩
theorem OwnRow.one (h : OwnRow E size lr v n xs) : v.oneCell' = true := by
  obtain ⟨ao, cap, rfl, _⟩ := h.form
  rfl
/-- What the slice reads as. -/
theorem OwnRow.at {L : List (Nat × TypeId × List Value)} {rows : List (List Value)} (h : St cc q w0 w L) (hm : ∀ e ∈ lr, e ∈ L) (hs : ∀ r ∈ rows, r.length = size) (hr : OwnRow E size lr v rows.length rows.flatten) : SlAt w size v rows := by
  rcases hr.2 with ⟨_, ⟨ao, rfl⟩, h3⟩ | ⟨g, cap, pre, junk, rfl, rfl, h1, h2, h3⟩
  · have : rows = [] := List.eq_nil_of_length_eq_zero h3
    subst this
    exact ⟨ao, 0, rfl, Nat.le_refl _, Nat.zero_le _, fun h => absurd rfl h⟩
  · refine ⟨_, cap, rfl, h1, h2, fun _ => ⟨g, pre.length, rfl, fun i r hi j u hj => ?_⟩⟩
    have hb : PBox w g E (pre ++ (rows.flatten ++ junk)) := ((Bx_iff.1 h.own).1 (g, E, pre ++ (rows.flatten ++ junk)) (hm _ (by simp))).2
    refine hb.cell ?_
    have h5 := flatten_at hs hi j u hj
    rw [Nat.add_assoc, List.getElem?_append_right (by omega), Nat.add_sub_cancel_left, List.getElem?_append_left (List.getElem?_eq_some_iff.1 h5).1]
    exact h5
theorem run_append_zero (w : World) (t ty e : TypeId) (i : TypeInfo) (ht : P.underlying t = some (.slice e)) (hi : P.info? e = some i) (ao : Option Addr) (n cap : Nat) (hn : n ≤ cap) (a : Addr) (c : Nat) :
    (Builtin.append_ #[t, t] ty #[.slice ao n cap, .slice (some a) 0 c]).run P w = .ok (.slice ao n cap) w := by
  cases ao <;> simp [Builtin.append_, run_underlying ht, sizeOf, typeInfo, hi, Builtin.lenOf, Builtin.firstCells, loadCells, loadCellsFrom, hn, storeCells]
theorem putCells_mid : ∀ (pre old post vs : List Value), old.length = vs.length → putCells (pre ++ (old ++ post)) pre.length vs = pre ++ (vs ++ post)
  | _, [], _, [], _ => rfl
  | pre, o :: old, post, v :: vs, h => by
    have := putCells_mid (pre ++ [v]) old post vs (by simpa using h)
    simp only [putCells]
    simpa using this
theorem run_append_in (w : World) (t ty e : TypeId) (i : TypeInfo) (ht : P.underlying t = some (.slice e)) (hi : P.info? e = some i) (g cap : Nat) (pre junk : List Value) (hB : PBox w g e (pre ++ (xs ++ junk))) (hx : xs.length = n * i.size) (hj : junk.length = (cap - n) * i.size)
    (a : Addr) (c : Nat) (hl : news.length = m * i.size) (hnews : ∀ (j : Nat) (u : Value), news[j]? = some u → w.cell? (a.add j) = some u) (h1 : ∀ u ∈ news, u.oneCell' = true) (hroom : n + m ≤ cap) :
    ∃ w', (Builtin.append_ #[t, t] ty #[.slice (some ⟨g, pre.length, none⟩) n cap, .slice (some a) m c]).run P w = .ok (.slice (some ⟨g, pre.length, none⟩) (n + m) cap) w' ∧ PBox w' g e (pre ++ ((xs ++ news) ++ junk.drop (m * i.size))) ∧ Only g w w' := by
  have hf := run_firstCells_some (P := P) w i.size m a m c news hl hnews
  have hmj : m * i.size ≤ junk.length := by rw [hj]; exact Nat.mul_le_mul_right _ (by omega)
  obtain ⟨w', hr, hB', ho, _⟩ := run_storeCells_box (P := P) g e news 0 (pre.length + n * i.size) _ w hB (by simp only [List.length_append]; omega) h1
  refine ⟨w', ?_, ?_, ho⟩
  · have ha : (⟨g, pre.length, none⟩ : Addr).add (n * i.size) = ⟨g, pre.length + n * i.size, none⟩ := addr_add _ _ _
    simp [Builtin.append_, run_underlying ht, sizeOf, typeInfo, hi, Builtin.lenOf, hroom, hf, ha, hr]
  · have e1 : pre ++ (xs ++ junk) = (pre ++ xs) ++ (junk.take (m * i.size) ++ junk.drop (m * i.size)) := by rw [List.take_append_drop, List.append_assoc]
    have e2 : pre.length + n * i.size + 0 = (pre ++ xs).length := by rw [List.length_append, hx]; omega
    rw [e1, e2, putCells_mid _ _ _ _ (by rw [List.length_take, hl]; omega)] at hB'
    simpa using hB'
/-- Append, whatever the source is. -/
theorem OwnRow.append (HS : St cc q w0 w (front ++ (lr ++ ll))) (t ty : TypeId) (ie : TypeInfo) (z : Value) (bytes : Nat) (ht : P.underlying t = some (.slice E)) (hie : P.info? E = some ie) (hz : ie.zero = some z) (hsize : ie.size = size) (hby : ie.bytes = bytes) (hzs : z.cells.size = size)
    (hr : OwnRow E size lr v n xs) (sv : Value) (hsrc : SrcAt w size sv m news) (h63 : n + m ≤ maxLen) (hbytes : (n + m) * bytes ≤ 140737488355328) :
    ∃ v' w' lr', (Builtin.append_ #[t, t] ty #[v, sv]).run P w = .ok v' w' ∧ St cc q w0 w' (front ++ (lr' ++ ll)) ∧ OwnRow E size lr' v' (n + m) (xs ++ news) := by
  subst hsize hby
  obtain ⟨hl, h1, hs⟩ := hsrc
  have h1' : ∀ u ∈ news, u.oneCell' = true := fun u hu => (List.all_eq_true.1 h1) u hu
  have hmax : ((n + m : Nat) : Int) ≤ 9223372036854775807 := by unfold maxLen at h63; omega
  obtain ⟨ao, cap, hv, hnc, hcm⟩ := hr.form
  rcases hs with ⟨ad, c, rfl, hc⟩ | ⟨rfl, rfl⟩
  · by_cases hm0 : m = 0
    · subst hm0
      have hnil : news = [] := List.eq_nil_of_length_eq_zero (by simpa using hl)
      subst hnil hv
      exact ⟨_, w, lr, run_append_zero w t ty E ie ht hie ao n cap hnc ad c, HS, by simpa using hr⟩
    · have fresh : ∀ (old : Nat), ∃ lr', St cc q w0 (w.drew.alloc (.cells (xs.toArray ++ news.toArray ++ Builtin.zeroCells z.cells (grownCap w (n + m) old E - (n + m))) E)) (front ++ (lr' ++ ll)) ∧ OwnRow E ie.size lr' (.slice (some ⟨w.heap.size, 0, none⟩) (n + m) (grownCap w (n + m) old E)) (n + m) (xs ++ news) := by
        intro old
        have hge := grownCap_ge w (n + m) old E
        have hcm2 : grownCap w (n + m) old E ≤ maxLen := grownCap_le_maxLen w (n + m) old E h63
        obtain ⟨zs, hzs2⟩ : ∃ zs : List Value, zs = (Builtin.zeroCells z.cells (grownCap w (n + m) old E - (n + m))).toList := ⟨_, rfl⟩
        have hcs : (xs.toArray ++ news.toArray ++ Builtin.zeroCells z.cells (grownCap w (n + m) old E - (n + m))) = ((xs ++ news) ++ zs).toArray := by
          apply Array.ext'
          rw [hzs2]
          simp
        have hzl : zs.length = (grownCap w (n + m) old E - (n + m)) * ie.size := by rw [hzs2, Array.length_toList, size_zeroCells, hzs]
        have hn := HS.drew.new (NewBox.of w.drew E ((xs ++ news) ++ zs).toArray)
        have hsz : w.drew.heap.size = w.heap.size := rfl
        rw [hsz] at hn
        refine ⟨[(w.heap.size, E, [] ++ ((xs ++ news) ++ zs))], ?_, ?_, .inr ⟨_, _, [], zs, rfl, rfl, hge, hcm2, hzl⟩⟩
        · rw [hcs]
          have hn2 : St cc q w0 (w.drew.alloc (.cells ((xs ++ news) ++ zs).toArray E)) ((w.heap.size, E, (xs ++ news) ++ zs) :: (front ++ ll)) := hn.sub (List.Sublist.cons_cons _ (List.Sublist.append_left (List.sublist_append_right lr ll) front))
          refine hn2.perm ?_
          simp only [List.nil_append, List.singleton_append]
          exact List.perm_middle
        · rw [List.length_append, hr.1, hl, Nat.add_mul]
      rcases hr.2 with ⟨hlr, ⟨ao2, hv2⟩, hn0⟩ | ⟨g, cap2, pre, junk, hlr, hv2, hnc2, hcm2, hj⟩
      · subst hn0
        have hx0 : xs = [] := List.eq_nil_of_length_eq_zero (by simpa using hr.1)
        subst hx0 hv2
        obtain ⟨lr', h2, h3⟩ := fresh 0
        cases ao2 with
        | none =>
          have hrun := Go.run_append_nil (P := P) w t ty E ie z ht hie hz ad m c news hl hc (by omega) (by omega) (by simp at hbytes; omega)
          simp only [Nat.zero_add, List.nil_append, Array.empty_append] at h2 h3 ⊢
          exact ⟨_, _, lr', hrun, h2, h3⟩
        | some b =>
          have hrun := run_append_grow (P := P) w t ty E ie z ht hie hz b 0 0 [] (by simp) (fun j u hj => by simp at hj) ad m c news hl hc (by omega) (by omega) (growslice_fits (by omega) hbytes)
          exact ⟨_, _, lr', hrun, h2, h3⟩
      · subst hv2
        have hB : PBox w g E (pre ++ (xs ++ junk)) := ((Bx_iff.1 HS.own).1 (g, E, pre ++ (xs ++ junk)) (by rw [hlr]; simp)).2
        by_cases hroom : n + m ≤ cap2
        · obtain ⟨w', hrun, hB', ho⟩ := run_append_in (P := P) w t ty E ie ht hie g cap2 pre junk hB hr.1 hj ad c hl hc h1' hroom
          subst hlr
          have hat : (front ++ ([(g, E, pre ++ (xs ++ junk))] ++ ll))[front.length]? = some (g, E, pre ++ (xs ++ junk)) := by simp
          have hset := HS.set hat ho hB'
          have hse : (front ++ ([(g, E, pre ++ (xs ++ junk))] ++ ll)).set front.length (g, E, pre ++ ((xs ++ news) ++ junk.drop (m * ie.size))) = front ++ ([(g, E, pre ++ ((xs ++ news) ++ junk.drop (m * ie.size)))] ++ ll) := by
            rw [List.set_append_right _ _ (Nat.le_refl _)]
            simp
          rw [hse] at hset
          refine ⟨_, w', _, hrun, hset, ?_, .inr ⟨g, cap2, pre, _, rfl, rfl, hroom, hcm2, ?_⟩⟩
          · rw [List.length_append, hr.1, hl, Nat.add_mul]
          · rw [List.length_drop, hj, ← Nat.sub_mul]
            congr 1
            omega
        · obtain ⟨lr', h2, h3⟩ := fresh cap2
          have hrun := run_append_grow (P := P) w t ty E ie z ht hie hz ⟨g, pre.length, none⟩ n cap2 xs hr.1 (fun j u hj => by
            rw [addr_add]
            refine hB.cell ?_
            rw [List.getElem?_append_right (by omega), Nat.add_sub_cancel_left, List.getElem?_append_left (List.getElem?_eq_some_iff.1 hj).1]
            exact hj) ad m c news hl hc (by omega) (by omega) (growslice_fits (by omega) hbytes)
          exact ⟨_, _, lr', hrun, h2, h3⟩
  · have hnil : news = [] := List.eq_nil_of_length_eq_zero (by simpa using hl)
    subst hnil hv
    exact ⟨_, w, lr, run_append_nil w t ty E ie ht hie ao n cap hnc, HS, by simpa using hr⟩
end
section
variable {P : Program} {ops : Array Oper} {Q : Exit → Act → World → Prop} {a : Act} {w : World} {cc : Option Nat} {q : CodeRow} {w0 : World} {l L : List (Nat × TypeId × List Value)} {fuel : Nat} {listed : Array Bool} {o : Oper} {rest : List Oper}
/-- A row of the call's own grows. -/
theorem sx_appendO {front lr ll : List (Nat × TypeId × List Value)} (HS : Hid (St cc q w0 w (front ++ (lr ++ ll)))) (hw : Region.wanted o (yielded ops a.tmps) = true)
    (s x : Operand) (t : TypeId) (ho : o.op = .call { callee := .builtin .append, args := #[s, x], argTypes := #[t, t] })
    (E : TypeId) (ie : TypeInfo) (z : Value) (size bytes : Nat) (ht : P.underlying t = some (.slice E)) (hie : P.info? E = some ie) (hz : ie.zero = some z) (hsize : ie.size = size) (hby : ie.bytes = bytes) (hzs : z.cells.size = size)
    (v : Value) (n : Nat) (xs : List Value) (hs : a.eval s = v) (hr : OwnRow E size lr v n xs) (sv : Value) (hx : a.eval x = sv) (m : Nat) (news : List Value) (hsrc : SrcAt w size sv m news)
    (h63 : n + m ≤ maxLen) (hbytes : (n + m) * bytes ≤ 140737488355328)
    (h : ∀ v' w' lr', Hid (St cc q w0 w' (front ++ (lr' ++ ll))) → Hid (OwnRow E size lr' v' (n + m) (xs ++ news)) → wpList P ops Q rest (a.put o.dst v') w') : wpList P ops Q (o :: rest) a w :=
  wpList_wanted hw fun _ hK => by
    obtain ⟨v', w', lr', hrun, h6, h7⟩ := hr.append (P := P) HS.out t o.type ie z bytes ht hie hz hsize hby hzs sv hsrc h63 hbytes
    unfold Oper.wp execOp
    simp only [ho, resolve, invoke, builtin, Sem.run_bind, Sem.run_pure, Result.andThen_ok, List.map_toArray, List.map_cons, List.map_nil, hs, hx, hrun, Oper.upon]
    exact hK _ _ (h v' w' lr' h6 h7)
end
end Go.Proofs.YtnfkplohpjfocaaGreat

namespace Go.Proofs.YtnfkplohpjfocaaGreat
open Go.RowKit
def iV (n : Int) : Value := .int .i64 n
def iL (n : Int) : List Value := [.int .i64 n]
theorem iL_flat (ns : List Int) : (ns.map iL).flatten = ns.map iV := by
  induction ns with
  | nil => rfl
  | cons n ns ih => simp only [List.map_cons, List.flatten_cons, ih]; rfl
theorem iL_len (ns : List Int) : ∀ r ∈ ns.map iL, r.length = 1 := fun r hr => by obtain ⟨v, _, rfl⟩ := List.mem_map.1 hr; rfl
/-- A slice that reads as these numbers. -/
def IsAt (w : World) (v : Value) (ns : List Int) : Prop := SlAt w 1 v (ns.map iL)
theorem IsAt.ext {w w' : World} {v : Value} {ns : List Int} (h : IsAt w v ns) (k : Ext w w') : IsAt w' v ns := SlAt.ext h k
theorem IsAt.get {w0 : World} {v : Value} {ns : List Int} (h : IsAt w0 v ns) : ∃ ao cap, v = .slice ao ns.length cap ∧ ns.length ≤ cap ∧ cap ≤ 9223372036854775807 ∧ (0 < ns.length → ∃ g off, ao = some ⟨g, off, none⟩ ∧ ∀ (i : Nat) (x : Int), ns[i]? = some x → ∀ w, Ext w0 w → w.cell? ⟨g, off + i, none⟩ = some (.int .i64 x)) := by
  obtain ⟨ao, cap, h1, h2, h3, h4⟩ := SlAt.get h
  rw [List.length_map] at h1 h2 h4
  refine ⟨ao, cap, h1, h2, h3, fun hn => ?_⟩
  obtain ⟨g, off, h5, h6⟩ := h4 hn
  refine ⟨g, off, h5, fun i x hx w k => ?_⟩
  have := h6 i (iL x) (by simp [hx]) w k 0 _ rfl
  simpa using this
theorem IsAt.own {cc : Option Nat} {q : CodeRow} {w0 w : World} {L lr : List (Nat × TypeId × List Value)} {E : TypeId} {v : Value} {ns : List Int} (h : St cc q w0 w L) (hm : ∀ e ∈ lr, e ∈ L) (hr : OwnRow E 1 lr v ns.length (ns.map iV)) : IsAt w v ns :=
  OwnRow.at h hm (iL_len ns) (by rw [iL_flat, List.length_map]; exact hr)
section
variable {w : World} {g : Nat} {T : TypeId} {pre junk : List Value} {ns ms : List Int}
theorem holds_of (hB : PBox w g T (pre ++ (ns.map iV ++ junk))) : Go.Sort.Holds (Value.int .i64) w g pre.length ns.toArray := by
  intro j hj
  simp only [List.size_toArray] at hj
  refine ⟨hB.cell ?_, hB.free _⟩
  rw [List.getElem?_append_right (by omega), Nat.add_sub_cancel_left, List.getElem?_append_left (by simpa using hj)]
  simp [hj, iV]
theorem put_box (hB : PBox w g T (pre ++ (ns.map iV ++ junk))) (hl : ms.length = ns.length) : PBox (Go.Sort.putRow (Value.int .i64) w g pre.length ms.toArray) g T (pre ++ (ms.map iV ++ junk)) ∧ Only g w (Go.Sort.putRow (Value.int .i64) w g pre.length ms.toArray) := by
  constructor
  · unfold PBox at *
    unfold Go.Sort.putRow Go.Sort.mapBlock
    simp only [Array.getElem?_modify, hB, if_true, Option.map_some, Go.Sort.onCells]
    congr 2
    apply Array.ext_getElem?
    intro k
    unfold Go.Sort.putCells
    simp only [Array.getElem?_mapIdx, List.getElem?_toArray, List.size_toArray]
    by_cases h1 : k < pre.length
    · have h2 : ¬ (pre.length ≤ k ∧ k < pre.length + ms.length) := by omega
      simp [List.getElem?_append_left h1, h2]
    · by_cases h3 : k < pre.length + ms.length
      · have h2 : pre.length ≤ k ∧ k < pre.length + ms.length := by omega
        rw [List.getElem?_append_right (by omega), List.getElem?_append_right (l₁ := pre) (by omega), List.getElem?_append_left (by simp; omega), List.getElem?_append_left (l₁ := ms.map iV) (by simp; omega)]
        have h4 : k - pre.length < ns.length := by omega
        have h5 : k - pre.length < ms.length := by omega
        simp [h2, h4, h5, iV]
      · have h2 : ¬ (pre.length ≤ k ∧ k < pre.length + ms.length) := by omega
        rw [List.getElem?_append_right (by omega), List.getElem?_append_right (l₁ := pre) (by omega), List.getElem?_append_right (by simp; omega), List.getElem?_append_right (l₁ := ms.map iV) (by simp; omega)]
        rw [hl] at h2
        simp [h2, hl]
  · refine ⟨rfl, rfl, rfl, by simp, fun i hi hne => ?_⟩
    unfold Go.Sort.putRow Go.Sort.mapBlock
    have : ¬ (g = i) := fun e => hne (by rw [e])
    simp [Array.getElem?_modify, this]
theorem ahead_ext (n : Nat) : Ext w (Go.Sort.ahead w n) := ⟨rfl, rfl, rfl, Nat.le_refl _, fun _ _ => rfl⟩
theorem grow_ext (os : Array Obj) : Ext w (Go.Sort.grow w os) := ⟨rfl, rfl, rfl, by simp [Go.Sort.grow], fun i hi => by
  unfold Go.Sort.grow
  simp [Array.getElem?_append_left hi]⟩
end
/-- A call has changed one block of the call's own. -/
theorem St.chg {cc : Option Nat} {q : CodeRow} {w0 w w' : World} {front ll : List (Nat × TypeId × List Value)} {g : Nat} {T : TypeId} {cs cs' : List Value} (h : St cc q w0 w (front ++ ([(g, T, cs)] ++ ll))) (k : Only g w w') (hB : PBox w' g T cs') : St cc q w0 w' (front ++ ([(g, T, cs')] ++ ll)) := by
  have hat : (front ++ ([(g, T, cs)] ++ ll))[front.length]? = some (g, T, cs) := by simp
  have hset := h.set hat k hB
  have hse : (front ++ ([(g, T, cs)] ++ ll)).set front.length (g, T, cs') = front ++ ([(g, T, cs')] ++ ll) := by
    rw [List.set_append_right _ _ (Nat.le_refl _)]
    simp
  rw [hse] at hset
  exact hset
end Go.Proofs.YtnfkplohpjfocaaGreat
