/-
  Rows of equal rows: arrays and slices that are written out with structs as their parts; and loads of blocks that were there before. No function of the program is named here.
-/
import Derived.Test.YtnfkplohpjfocaaHg
import Derived.Great.BuildSlice
set_option linter.unusedVariables false
set_option linter.unusedSimpArgs false
namespace Go.Proofs.Ytnfkplohpjfocaa
open Go.RowKit
theorem cellsAt_of {cs : List Value} : ∀ {vs : List Value} {off : Nat}, (∀ (j : Nat) (v : Value), vs[j]? = some v → cs[off + j]? = some v) → cellsAt cs off vs
  | [], _, _ => trivial
  | v :: vs, off, h => ⟨h 0 v rfl, cellsAt_of fun j u hj => by
    have := h (j + 1) u (by simpa using hj)
    rw [show off + 1 + j = off + (j + 1) by omega]
    exact this⟩
theorem flatten_at {s : Nat} : ∀ {rows : List (List Value)}, (∀ r ∈ rows, r.length = s) → ∀ {k : Nat} {r : List Value}, rows[k]? = some r → ∀ j v, r[j]? = some v → rows.flatten[k * s + j]? = some v
  | [], _, k, r, h, _, _, _ => by simp at h
  | x :: rows, hl, 0, r, h, j, v, hj => by
    simp at h
    subst h
    have hx := hl x (by simp)
    have hlt := (List.getElem?_eq_some_iff.1 hj).1
    simp only [List.flatten_cons]
    rw [List.getElem?_append_left (by omega), show 0 * s + j = j by omega]
    exact hj
  | x :: rows, hl, k + 1, r, h, j, v, hj => by
    have hx := hl x (by simp)
    have ih := flatten_at (rows := rows) (fun y hy => hl y (List.mem_cons_of_mem _ hy)) (k := k) (by simpa using h) j v hj
    simp only [List.flatten_cons]
    have e : (k + 1) * s + j = x.length + (k * s + j) := by rw [hx, Nat.succ_mul]; omega
    rw [e, List.getElem?_append_right (by omega), Nat.add_sub_cancel_left]
    exact ih
theorem cellsAt_flat {s : Nat} {rows : List (List Value)} (hl : ∀ r ∈ rows, r.length = s) {k : Nat} {r : List Value} (h : rows[k]? = some r) : cellsAt rows.flatten (k * s) r :=
  cellsAt_of (flatten_at hl h)
theorem flatten_len {s : Nat} : ∀ {rows : List (List Value)}, (∀ r ∈ rows, r.length = s) → rows.flatten.length = rows.length * s
  | [], _ => by simp
  | x :: rows, hl => by
    have ih := flatten_len (rows := rows) (fun y hy => hl y (List.mem_cons_of_mem _ hy))
    simp only [List.flatten_cons, List.length_append, ih, hl x (by simp), List.length_cons, Nat.succ_mul]
    omega
/-- The parts of a literal: one after the other. -/
def partsOf (rows : List (List Value)) : List (Nat × Value) := ((rows.map fun r => Value.agg r.toArray).zipIdx 0).map fun x => (x.2, x.1)
theorem flat_cells (rows : List (List Value)) : ((rows.map fun r => Value.agg r.toArray).flatMap fun v => v.cells.toList) = rows.flatten := by
  induction rows with
  | nil => rfl
  | cons x rows ih => simp only [List.map_cons, List.flatMap_cons, List.flatten_cons, ih]; rfl
section
variable {P : Program}
theorem built_rows (t e : TypeId) (n s : Nat) (hs : 0 < s) (hu : P.underlying t = some (.array n e)) (hz : ((P.info? t).bind (·.zero)).map (·.cells.size) = some (n * s)) (he : (P.info? e).map (·.size) = some s)
    (rows : List (List Value)) (hn : rows.length = n) (hr : ∀ r ∈ rows, r.length = s) : P.built t (partsOf rows) = some rows.flatten.toArray := by
  unfold Program.built
  cases hit : P.info? t with
  | none => rw [hit] at hz; cases hz
  | some it =>
    rw [hit] at hz
    cases hzz : it.zero with
    | none => simp [hzz] at hz
    | some z =>
      simp [hzz] at hz
      cases hie : P.info? e with
      | none => rw [hie] at he; cases he
      | some ie =>
        rw [hie] at he
        simp at he
        subst he
        simp only [hu, hzz, hie]
        have := Great.fill_whole hs (rows.map fun r => Value.agg r.toArray) z.cells (fun v hv => by
          obtain ⟨r, hr', rfl⟩ := List.mem_map.1 hv
          show r.toArray.size = ie.size
          simpa using hr r hr') (by rw [List.length_map, hn, hz])
        rw [flat_cells] at this
        exact this
theorem run_slice_rows (t e : TypeId) (n s : Nat) (hs : 0 < s) (hns : 0 < n) (hsm : n * s ≤ 16777216) (hu : P.underlying t = some (.slice e)) (he : (P.info? e).map (fun i => (i.size, i.zero.isSome)) = some (s, true))
    (rows : List (List Value)) (hn : rows.length = n) (hr : ∀ r ∈ rows, r.length = s) (w : World) :
    (Instr.buildSlice t n (partsOf rows).toArray).run P w = .ok (.slice (some ⟨w.heap.size, 0, none⟩) n n) (w.alloc (.cells rows.flatten.toArray e)) := by
  cases hie : P.info? e with
  | none => rw [hie] at he; cases he
  | some ie =>
    rw [hie] at he
    simp at he
    obtain ⟨rfl, hzs⟩ := he
    obtain ⟨z, hz⟩ := Option.isSome_iff_exists.1 hzs
    have hpos : 0 < n * ie.size := Nat.mul_pos hns hs
    refine run_buildSlice w t e n _ _ ie z hu hie hz (by omega) (by omega) ?_
    have := Great.fill_whole hs (rows.map fun r => Value.agg r.toArray) ((Array.range (n * ie.size)).map (z.cells[· % z.cells.size]!)) (fun v hv => by
      obtain ⟨r, hr', rfl⟩ := List.mem_map.1 hv
      show r.toArray.size = ie.size
      simpa using hr r hr') (by simp [hn])
    rw [flat_cells] at this
    exact this
theorem run_buildop {o : Oper} {a : Act} {w : World} {t : TypeId} {parts : List (Nat × Operand)} (ho : o.op = .build t parts.toArray) {pl : List (Nat × Value)} (hpl : (parts.map fun x => (x.1, a.eval x.2)) = pl) {cells : Array Value} (hb : P.built t pl = some cells) :
    (execOp a.eval o).run P w = .ok (.value (.agg cells)) w := by
  have hm : (parts.toArray.map fun x => (x.1, a.eval x.2)) = pl.toArray := by rw [List.map_toArray, hpl]
  have hr := run_build (P := P) w t pl.toArray cells hb
  unfold execOp
  simp only [ho, hm, Sem.run_bind, hr, Result.andThen_ok, Sem.run_pure]
end
section
variable {P : Program} {ops : Array Oper} {Q : Exit → Act → World → Prop} {a : Act} {w : World} {cc : Option Nat} {q : CodeRow} {w0 : World} {l L : List (Nat × TypeId × List Value)} {fuel : Nat} {listed : Array Bool} {o : Oper} {rest : List Oper}
/-- A block that was there when the call's own began. -/
theorem St.old (h : St cc q w0 w l) {b : Nat} {T : TypeId} {cs : List Value} (hb : PBox w0 b T cs) (hc : cc ≠ some b) : PBox w b T cs :=
  hb.same (h.fr.block b hb.lt (fun e => hc e.symm))
/-- A struct is read out of a block that the class of worlds knows. -/
theorem hg_loadsW (i : Nat) (d : Option Tmp) (hd0 : (ops[i]?).bind (·.dst) = d) (hi : ops[i]? = some o) (hs : Region.noSelect ops = true) (hf : Region.free .any ops listed i = true) (hr : (Region.ready .any ops listed).contains i = true)
    (hQ : ∀ v c a w, Q (.panic c) (a.put o.dst v) w → Q (.panic c) a w) (HS : Hid (St cc q w0 w L)) (hk : l.Sublist L) (hw : Region.wanted o (yielded ops a.tmps) = true)
    (ty : TypeId) (x : Operand) (ho : o.op = .load ty x) (b : Nat) (T : TypeId) (cs : List Value) (hB : ∀ w', St cc q w0 w' l → PBox w' b T cs) (off : Nat) (hx : a.eval x = .pointer (some ⟨b, off, none⟩)) (n : Nat) (hsh : shapeOf P ty = some (true, n)) (vs : List Value) (hn : vs.length = n) (hv : cellsAt cs off vs)
    (h : wpAnyH P .any ops Q (InSt cc q w0 l) fuel (listed.setIfInBounds i true) (a.put d (.agg vs.toArray)) w) : wpAnyH P .any ops Q (InSt cc q w0 l) (fuel + 1) listed a w :=
  have hd : o.dst = d := by rw [hi] at hd0; exact hd0
  wpAnyH_take (v := .agg vs.toArray) hi hs hf hr (hQ _) (.inl ⟨hw, fun w hS => by
    unfold execOp
    simp only [ho, hx, Instr.loadAt, Instr.sureAddr, Sem.run_bind, Sem.run_pure, Result.andThen_ok, run_load_agg (P := P) (hB w hS) hsh hn hv]⟩) (HS.out.sub hk) (by rw [hd]; exact h)
/-- A whole struct goes into a block of the call's own that the region does not read. -/
theorem hg_store_all (i : Nat) (hi : ops[i]? = some o) (hw : Region.wanted o (yielded ops a.tmps) = true) (HS : Hid (St cc q w0 w L)) (ty : TypeId) (x y : Operand) (ho : o.op = .store ty x y) (hd : o.dst = none) (j b : Nat) (T : TypeId) (cs : List Value) (hl : L[j]? = some (b, T, cs))
    (hx : a.eval x = .pointer (some ⟨b, 0, none⟩)) (cells : List Value) (hy : a.eval y = .agg cells.toArray) (n : Nat) (hsh : shapeOf P ty = some (true, n)) (hn : cells.length = n) (hold : cs.length = cells.length) (h1 : cells.all (·.oneCell') = true) (hk : l.Sublist (L.set j (b, T, cells)))
    (h : ∀ w', Hid (St cc q w0 w' (L.set j (b, T, cells))) → wpAnyH P .any ops Q (InSt cc q w0 l) fuel (listed.setIfInBounds i true) a w') : HkX P ops Q (InSt cc q w0 l) fuel listed a w i := by
  have e := putCells_all [] cs cells hold
  simp only [List.nil_append, List.length_nil] at e
  refine hg_stores i hi hw HS ty x y ho hd j b T cs hl 0 hx cells hy n hsh hn (Nat.ble_eq_true_of_le (by omega)) h1 (by rw [e]; exact hk) ?_
  rw [e]
  exact h
theorem sx_loadsW (hw : Region.wanted o (yielded ops a.tmps) = true) (ty : TypeId) (x : Operand) (ho : o.op = .load ty x) (b : Nat) (T : TypeId) (cs : List Value) (hB : PBox w b T cs)
    (off : Nat) (hx : a.eval x = .pointer (some ⟨b, off, none⟩)) (n : Nat) (hs : shapeOf P ty = some (true, n)) (vs : List Value) (hn : vs.length = n) (hv : cellsAt cs off vs)
    (h : wpList P ops Q rest (a.put o.dst (.agg vs.toArray)) w) : wpList P ops Q (o :: rest) a w :=
  wpList_wanted hw fun _ hK => by
    unfold Oper.wp execOp
    simp only [ho, hx, Instr.loadAt, Instr.sureAddr, Sem.run_bind, Sem.run_pure, Result.andThen_ok, run_load_agg (P := P) hB hs hn hv]
    exact hK _ _ h
end
end Go.Proofs.Ytnfkplohpjfocaa
