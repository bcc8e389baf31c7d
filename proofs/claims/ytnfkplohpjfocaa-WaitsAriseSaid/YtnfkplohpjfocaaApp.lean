/-
  Appending whatever a slice holds to a row of the call's own; parts of slices; structs read out of memory that came in. No function of the program is named here.
-/
import Derived.Test.YtnfkplohpjfocaaNew
set_option linter.unusedVariables false
set_option linter.unusedSimpArgs false
namespace Go.Proofs.Ytnfkplohpjfocaa
open Go.RowKit
/-- The slice sv holds m elements of 'size' cells, news. -/
def SrcAt (w : World) (size : Nat) (sv : Value) (m : Nat) (news : List Value) : Prop :=
  news.length = m * size ∧ news.all (·.oneCell') = true ∧ ((∃ ad c, sv = .slice (some ad) m c ∧ ∀ (j : Nat) (u : Value), news[j]? = some u → w.cell? (ad.add j) = some u) ∨ (sv = .slice none 0 0 ∧ m = 0))
theorem SrcAt.box {w : World} {size m c b : Nat} {T : TypeId} {news : List Value} (h : PBox w b T news) (hl : news.length = m * size) (h1 : news.all (·.oneCell') = true) : SrcAt w size (.slice (some ⟨b, 0, none⟩) m c) m news :=
  ⟨hl, h1, .inl ⟨_, c, rfl, fun j u hj => by rw [addr_add]; exact h.cell (by simpa using hj)⟩⟩
section
variable {P : Program}
theorem run_append_nil (w : World) (t ty e : TypeId) (i : TypeInfo) (ht : P.underlying t = some (.slice e)) (hi : P.info? e = some i) (a : Option Addr) (n cap : Nat) (hn : n ≤ cap) :
    (Builtin.append_ #[t, t] ty #[.slice a n cap, .slice none 0 0]).run P w = .ok (.slice a n cap) w := by
  cases a <;> simp [Builtin.append_, run_underlying ht, sizeOf, typeInfo, hi, Builtin.lenOf, Builtin.firstCells, hn, storeCells]
theorem run_append_src (w : World) (base : Nat) (t ty e : TypeId) (i : TypeInfo) (z : Value) (size bytes : Nat) (ht : P.underlying t = some (.slice e)) (hi : P.info? e = some i) (hz : i.zero = some z)
    (hsize : i.size = size) (hby : i.bytes = bytes) (hzs : z.cells.size = size) (hsz : 0 < size) (v : Value) (n : Nat) (xs : List Value) (hown : w.ownsRow base e size v n xs)
    (sv : Value) (m : Nat) (news : List Value) (hs : SrcAt w size sv m news) (h63 : n + m ≤ maxLen) (hbytes : (n + m) * bytes ≤ 140737488355328) (hbase : base ≤ w.heap.size) :
    ∃ v' w', (Builtin.append_ #[t, t] ty #[v, sv]).run P w = .ok v' w' ∧ w'.ownsRow base e size v' (n + m) (xs ++ news) ∧ w.grownBy w' v.ownBlock ∧ (v'.ownBlock = v.ownBlock ∨ v'.ownBlock = some w.heap.size) := by
  obtain ⟨hl, h1, ⟨ad, c, rfl, hc⟩ | ⟨rfl, rfl⟩⟩ := hs
  · obtain ⟨v', w', h2, h3, h4, _, h5⟩ := run_append_own_at (P := P) w base t ty e i z size bytes ht hi hz hsize hby hzs hsz v n xs hown ad m c news hl hc (fun u hu => (List.all_eq_true.1 h1) u hu) h63 hbytes hbase
    exact ⟨v', w', h2, h3, h4, h5⟩
  · have hnil : news = [] := List.eq_nil_of_length_eq_zero (by simpa using hl)
    subst hnil
    obtain ⟨a, cap, rfl, hnc⟩ : ∃ a cap, v = .slice a n cap ∧ n ≤ cap := by
      rcases hown.2 with ⟨rfl, rfl⟩ | ⟨g, cap, cur, rfl, _, _, hnc, _⟩
      · exact ⟨none, 0, rfl, Nat.le_refl _⟩
      · exact ⟨_, cap, rfl, hnc⟩
    refine ⟨_, w, run_append_nil w t ty e i ht hi a n cap hnc, ?_, ⟨rfl, rfl, rfl, Nat.le_refl _, fun _ _ _ => rfl⟩, .inl rfl⟩
    simpa using hown
end
section
variable {P : Program} {ops : Array Oper} {Q : Exit → Act → World → Prop} {a : Act} {w : World} {cc : Option Nat} {q : CodeRow} {w0 : World} {l L : List (Nat × TypeId × List Value)} {fuel : Nat} {listed : Array Bool} {o : Oper} {rest : List Oper}
/-- A row of the call's own grows. -/
theorem sx_append {front lr ll : List (Nat × TypeId × List Value)} (HS : Hid (St cc q w0 w (front ++ (lr ++ ll)))) (hw : Region.wanted o (yielded ops a.tmps) = true)
    (s x : Operand) (t : TypeId) (ho : o.op = .call { callee := .builtin .append, args := #[s, x], argTypes := #[t, t] })
    (E : TypeId) (ie : TypeInfo) (z : Value) (size bytes : Nat) (ht : P.underlying t = some (.slice E)) (hie : P.info? E = some ie) (hz : ie.zero = some z) (hsize : ie.size = size) (hby : ie.bytes = bytes) (hzs : z.cells.size = size) (hsz : 0 < size)
    (v : Value) (n : Nat) (xs : List Value) (hs : a.eval s = v) (hr : RowEnt E size lr v n xs) (sv : Value) (hx : a.eval x = sv) (m : Nat) (news : List Value) (hsrc : SrcAt w size sv m news)
    (h63 : n + m ≤ maxLen) (hbytes : (n + m) * bytes ≤ 140737488355328)
    (h : ∀ v' w' lr', Hid (St cc q w0 w' (front ++ (lr' ++ ll))) → Hid (RowEnt E size lr' v' (n + m) (xs ++ news)) → wpList P ops Q rest (a.put o.dst v') w') : wpList P ops Q (o :: rest) a w :=
  wpList_wanted hw fun _ hK => by
    obtain ⟨v', w', hrun, h2, h3, h5⟩ := run_append_src (P := P) w w0.heap.size t o.type E ie z size bytes ht hie hz hsize hby hzs hsz v n xs (RowEnt.owns HS.out hr) sv m news hsrc h63 hbytes HS.out.size
    obtain ⟨lr', h6, h7⟩ := St.append HS.out hr h2 h3 h5
    unfold Oper.wp execOp
    simp only [ho, resolve, invoke, builtin, Sem.run_bind, Sem.run_pure, Result.andThen_ok, List.map_toArray, List.map_cons, List.map_nil, hs, hx, hrun, Oper.upon]
    exact hK _ _ (h v' w' lr' h6 h7)
theorem hg_appendS (i : Nat) (d : Option Tmp) (hd0 : (ops[i]?).bind (·.dst) = d) (hi : ops[i]? = some o) (hw : Region.wanted o (yielded ops a.tmps) = true) {front lr ll : List (Nat × TypeId × List Value)} (HS : Hid (St cc q w0 w (front ++ (lr ++ ll)))) (hk : ∀ lr' : List (Nat × TypeId × List Value), l.Sublist (front ++ (lr' ++ ll)))
    (s x : Operand) (t : TypeId) (ho : o.op = .call { callee := .builtin .append, args := #[s, x], argTypes := #[t, t] })
    (E : TypeId) (ie : TypeInfo) (z : Value) (size bytes : Nat) (ht : P.underlying t = some (.slice E)) (hie : P.info? E = some ie) (hz : ie.zero = some z) (hsize : ie.size = size) (hby : ie.bytes = bytes) (hzs : z.cells.size = size) (hsz : 0 < size)
    (v : Value) (n : Nat) (xs : List Value) (hs : a.eval s = v) (hr : RowEnt E size lr v n xs) (sv : Value) (hx : a.eval x = sv) (m : Nat) (news : List Value) (hsrc : SrcAt w size sv m news)
    (h63 : n + m ≤ maxLen) (hbytes : (n + m) * bytes ≤ 140737488355328)
    (h : ∀ v' w' lr', Hid (St cc q w0 w' (front ++ (lr' ++ ll))) → Hid (RowEnt E size lr' v' (n + m) (xs ++ news)) → wpAnyH P .any ops Q (InSt cc q w0 l) fuel (listed.setIfInBounds i true) (a.put d v') w') : HkX P ops Q (InSt cc q w0 l) fuel listed a w i := by
  have hd : o.dst = d := by rw [hi] at hd0; exact hd0
  refine ⟨o, hi, hw, ?_⟩
  obtain ⟨v', w', hrun, h2, h3, h5⟩ := run_append_src (P := P) w w0.heap.size t o.type E ie z size bytes ht hie hz hsize hby hzs hsz v n xs (RowEnt.owns HS.out hr) sv m news hsrc h63 hbytes HS.out.size
  obtain ⟨lr', h6, h7⟩ := St.append HS.out hr h2 h3 h5
  unfold Oper.wp execOp
  simp only [ho, resolve, invoke, builtin, Sem.run_bind, Sem.run_pure, Result.andThen_ok, List.map_toArray, List.map_cons, List.map_nil, hs, hx, hrun, Oper.upon]
  rw [hd]
  exact ⟨St.sub h6 (hk lr'), h v' w' lr' h6 h7⟩
/-- A slice of literal parts, as a block of the call's own. -/
theorem sx_build (HS : Hid (St cc q w0 w l)) (hw : Region.wanted o (yielded ops a.tmps) = true) (t E : TypeId) (len : Nat) (parts : List (Nat × Operand)) (ho : o.op = .buildSlice t len parts.toArray) (pl : List (Nat × Value)) (hpl : (parts.map fun x => (x.1, a.eval x.2)) = pl) (cs : List Value)
    (hrun : ∀ w : World, (Instr.buildSlice t len pl.toArray).run P w = .ok (.slice (some ⟨w.heap.size, 0, none⟩) len len) (w.alloc (.cells cs.toArray E)))
    (h : ∀ w' b, Hid (St cc q w0 w' ((b, E, cs) :: l)) → wpList P ops Q rest (a.put o.dst (.slice (some ⟨b, 0, none⟩) len len)) w') : wpList P ops Q (o :: rest) a w :=
  wpList_wanted hw fun _ hK => by
    have hm : (parts.toArray.map fun x => (x.1, a.eval x.2)) = pl.toArray := by rw [List.map_toArray, hpl]
    have hr := hrun w
    unfold Oper.wp execOp
    simp only [ho, hm, Sem.run_bind, hr, Result.andThen_ok, Sem.run_pure]
    exact hK _ _ (h _ _ (HS.out.new (NewBox.of w E cs.toArray)))
theorem run_load_cells {ty : TypeId} {b off n : Nat} {vs : List Value} (hs : shapeOf P ty = some (true, n)) (hn : vs.length = n) (hc : ∀ (j : Nat) (v : Value), vs[j]? = some v → w.cell? ⟨b, off + j, none⟩ = some v) :
    (loadVar ty ⟨b, off, none⟩).run P w = .ok (.agg vs.toArray) w := by
  subst hn
  have hl := run_loadCells_list (P := P) w ⟨b, off, none⟩ vs (fun j v hj => by rw [addr_add]; exact hc j v hj)
  unfold loadVar
  rw [Sem.run_bind, (shape_agg hs w).1, Result.andThen_ok, if_pos rfl, Sem.run_bind, (shape_agg hs w).2, Result.andThen_ok, Sem.run_bind, hl]
  rfl
/-- A struct is read out of memory whose cells are known. -/
theorem sx_loadsC (hw : Region.wanted o (yielded ops a.tmps) = true) (ty : TypeId) (x : Operand) (ho : o.op = .load ty x) (b off : Nat) (hx : a.eval x = .pointer (some ⟨b, off, none⟩)) (n : Nat) (hs : shapeOf P ty = some (true, n)) (vs : List Value) (hn : vs.length = n)
    (hc : ∀ (j : Nat) (v : Value), vs[j]? = some v → w.cell? ⟨b, off + j, none⟩ = some v)
    (h : wpList P ops Q rest (a.put o.dst (.agg vs.toArray)) w) : wpList P ops Q (o :: rest) a w :=
  wpList_wanted hw fun _ hK => by
    unfold Oper.wp execOp
    simp only [ho, hx, Instr.loadAt, Instr.sureAddr, Sem.run_bind, Sem.run_pure, Result.andThen_ok, run_load_cells (P := P) hs hn hc]
    exact hK _ _ h
end
/-- A slice, and what it holds: rows of 'size' cells. -/
def SlAt (w : World) (size : Nat) (v : Value) (rows : List (List Value)) : Prop :=
  ∃ ao cap, v = .slice ao rows.length cap ∧ rows.length ≤ cap ∧ cap ≤ maxLen ∧ (rows ≠ [] → ∃ g off, ao = some ⟨g, off, none⟩ ∧ ∀ (i : Nat) (r : List Value), rows[i]? = some r → ∀ (j : Nat) (u : Value), r[j]? = some u → w.cell? ⟨g, off + i * size + j, none⟩ = some u)
theorem SlAt.ext {w w' : World} {size : Nat} {v : Value} {rows : List (List Value)} (h : SlAt w size v rows) (k : Ext w w') : SlAt w' size v rows := by
  obtain ⟨ao, cap, h1, h2, h3, h4⟩ := h
  refine ⟨ao, cap, h1, h2, h3, fun hne => ?_⟩
  obtain ⟨g, off, h5, h6⟩ := h4 hne
  refine ⟨g, off, h5, fun i r hi j u hj => ?_⟩
  have := h6 i r hi j u hj
  exact (Below.cell (p := ⟨g, off + i * size + j, none⟩) k (block_lt_of_cell (a := ⟨g, off + i * size + j, none⟩) this)).trans this
theorem RowEnt.at {cc : Option Nat} {q : CodeRow} {w0 w : World} {L lr : List (Nat × TypeId × List Value)} {E : TypeId} {size : Nat} {v : Value} {rows : List (List Value)} (h : St cc q w0 w L) (hm : ∀ e ∈ lr, e ∈ L) (hs : ∀ r ∈ rows, r.length = size) (hr : RowEnt E size lr v rows.length rows.flatten) : SlAt w size v rows := by
  rcases hr.2 with ⟨_, rfl, h3⟩ | ⟨g, cap, junk, rfl, rfl, h1, h2, h3⟩
  · have : rows = [] := List.eq_nil_of_length_eq_zero h3
    subst this
    exact ⟨none, 0, rfl, Nat.le_refl _, Nat.zero_le _, fun h => absurd rfl h⟩
  · refine ⟨_, cap, rfl, h1, h2, fun _ => ⟨g, 0, rfl, fun i r hi j u hj => ?_⟩⟩
    have hb : PBox w g E (rows.flatten ++ junk) := ((Bx_iff.1 h.own).1 (g, E, rows.flatten ++ junk) (hm _ (by simp))).2
    refine hb.cell ?_
    have h5 := flatten_at hs hi j u hj
    rw [Nat.zero_add, List.getElem?_append_left (List.getElem?_eq_some_iff.1 h5).1]
    exact h5
end Go.Proofs.Ytnfkplohpjfocaa
