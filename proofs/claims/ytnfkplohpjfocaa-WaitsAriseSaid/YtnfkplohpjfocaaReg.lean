/-
  More laws for regions and for slices of the call's own; calls through a function value. No function of the program is named here.
-/
import Derived.Test.YtnfkplohpjfocaaApp
import Derived.Deep.DeepCutAuto
set_option linter.unusedVariables false
set_option linter.unusedSimpArgs false
namespace Go.Proofs.Ytnfkplohpjfocaa
open Go.RowKit
theorem St.perm {cc : Option Nat} {q : CodeRow} {w0 w : World} {l L : List (Nat × TypeId × List Value)} (h : St cc q w0 w L) (p : l.Perm L) : St cc q w0 w l :=
  ⟨h.fr, h.codes, Bx_iff.2 ⟨fun x hx => (Bx_iff.1 h.own).1 x (p.subset hx), (p.pairwise_iff (fun {x y} hxy => fun e => hxy e.symm)).2 (Bx_iff.1 h.own).2⟩, h.maps⟩
section
variable {P : Program} {ops : Array Oper} {Q : Exit → Act → World → Prop} {a : Act} {w : World} {cc : Option Nat} {q : CodeRow} {w0 : World} {l L : List (Nat × TypeId × List Value)} {fuel : Nat} {listed : Array Bool} {o : Oper} {rest : List Oper}
/-- A cell is read that the region writes later. -/
theorem hx_load (i : Nat) (d : Option Tmp) (hd0 : (ops[i]?).bind (·.dst) = d) (hi : ops[i]? = some o) (hw : Region.wanted o (yielded ops a.tmps) = true) (HS : Hid (St cc q w0 w L)) (hk : l.Sublist L) (ty : TypeId) (x : Operand) (ho : o.op = .load ty x) (j b : Nat) (T : TypeId) (cs : List Value) (hl : L[j]? = some (b, T, cs))
    (off : Nat) (hx : a.eval x = .pointer (some ⟨b, off, none⟩)) (n : Nat) (hsh : shapeOf P ty = some (false, n)) (v : Value) (hv : cs[off]? = some v)
    (h : wpAnyH P .any ops Q (InSt cc q w0 l) fuel (listed.setIfInBounds i true) (a.put d v) w) : HkX P ops Q (InSt cc q w0 l) fuel listed a w i := by
  have hd : o.dst = d := by rw [hi] at hd0; exact hd0
  refine ⟨o, hi, hw, ?_⟩
  unfold Oper.wp execOp
  simp only [ho, hx, Instr.loadAt, Instr.sureAddr, Sem.run_bind, Sem.run_pure, Result.andThen_ok, run_load_box (P := P) (HS.out.box hl) hsh hv, Oper.upon]
  rw [hd]
  exact ⟨HS.out.sub hk, h⟩
/-- A cell of a block that the class does not speak of is written. -/
theorem hg_store1 (i : Nat) (hi : ops[i]? = some o) (hw : Region.wanted o (yielded ops a.tmps) = true) (HS : Hid (St cc q w0 w L)) (ty : TypeId) (x y : Operand) (ho : o.op = .store ty x y) (hd : o.dst = none) (j b : Nat) (T : TypeId) (cs : List Value) (hl : L[j]? = some (b, T, cs))
    (off : Nat) (hx : a.eval x = .pointer (some ⟨b, off, none⟩)) (v : Value) (hy : a.eval y = v) (hsh : shapeOf P ty = some (false, 1)) (h1 : v.oneCell' = true) (hoff : Nat.ble (off + 1) cs.length = true) (hk : l.Sublist (L.set j (b, T, cs.set off v)))
    (h : ∀ w', Hid (St cc q w0 w' (L.set j (b, T, cs.set off v))) → wpAnyH P .any ops Q (InSt cc q w0 l) fuel (listed.setIfInBounds i true) a w') : HkX P ops Q (InSt cc q w0 l) fuel listed a w i := by
  refine ⟨o, hi, hw, ?_⟩
  have hB := HS.out.box hl
  obtain ⟨w', hr, hB', hko, _⟩ := run_storeCells_box (P := P) b T [v] 0 off cs w hB (by have := Nat.le_of_ble_eq_true hoff; simp; omega) (fun u hu => by simp at hu; subst hu; exact h1)
  have hc : v.cells = #[v] := by cases v <;> first | rfl | cases h1
  have HS' : Hid (St cc q w0 w' (L.set j (b, T, cs.set off v))) := HS.out.set hl hko hB'
  unfold Oper.wp execOp
  have hrun : (storeVar ty ⟨b, off, none⟩ v).run P w = .ok () w' := by
    unfold storeVar
    rw [Sem.run_bind, (shape_one hsh w).2, Result.andThen_ok, hc]
    simp [hr]
  simp only [ho, hx, hy, Instr.storeAt, Instr.sureAddr, Sem.run_bind, Sem.run_pure, Result.andThen_ok, hrun, Oper.upon, hd, Act.put]
  exact ⟨HS'.out.sub hk, h _ HS'⟩
end
theorem hg_load {P : Program} {ops : Array Oper} {Q : Exit → Act → World → Prop} {a : Act} {w : World} {cc : Option Nat} {q : CodeRow} {w0 : World} {l L : List (Nat × TypeId × List Value)} {fuel : Nat} {listed : Array Bool} {o : Oper} (i : Nat) (d : Option Tmp) (hd0 : (ops[i]?).bind (·.dst) = d) (hi : ops[i]? = some o) (hs : Region.noSelect ops = true) (hf : Region.free .any ops listed i = true) (hr : (Region.ready .any ops listed).contains i = true)
    (hQ : ∀ v c a w, Q (.panic c) (a.put o.dst v) w → Q (.panic c) a w) (HS : Hid (St cc q w0 w L)) (hk : l.Sublist L) (hw : Region.wanted o (yielded ops a.tmps) = true)
    (ty : TypeId) (x : Operand) (ho : o.op = .load ty x) (j b : Nat) (T : TypeId) (cs : List Value) (hl : l[j]? = some (b, T, cs)) (off : Nat) (hx : a.eval x = .pointer (some ⟨b, off, none⟩)) (n : Nat) (hsh : shapeOf P ty = some (false, n)) (v : Value) (hv : cs[off]? = some v)
    (h : wpAnyH P .any ops Q (InSt cc q w0 l) fuel (listed.setIfInBounds i true) (a.put d v) w) : wpAnyH P .any ops Q (InSt cc q w0 l) (fuel + 1) listed a w :=
  have hd : o.dst = d := by rw [hi] at hd0; exact hd0
  wpAnyH_take (v := v) hi hs hf hr (hQ _) (.inl ⟨hw, fun w hS => by
    have hB : PBox w b T cs := St.box hS hl
    unfold execOp
    simp only [ho, hx, Instr.loadAt, Instr.sureAddr, Sem.run_bind, Sem.run_pure, Result.andThen_ok, run_load_box (P := P) hB hsh hv]⟩) (HS.out.sub hk) (by rw [hd]; exact h)
theorem take_flatten {s : Nat} : ∀ {rows : List (List Value)}, (∀ r ∈ rows, r.length = s) → ∀ k, k ≤ rows.length → rows.flatten.take (k * s) = (rows.take k).flatten ∧ rows.flatten.drop (k * s) = (rows.drop k).flatten
  | rows, _, 0, _ => by simp
  | [], _, k + 1, h => by simp at h
  | x :: rows, hl, k + 1, h => by
    have hx := hl x (by simp)
    have ih := take_flatten (rows := rows) (fun y hy => hl y (List.mem_cons_of_mem _ hy)) k (by simpa using h)
    have e : (k + 1) * s = x.length + k * s := by rw [hx, Nat.succ_mul]; omega
    simp only [List.flatten_cons, List.take_succ_cons, List.drop_succ_cons]
    rw [e, List.take_length_add_append, List.drop_length_add_append, ih.1, ih.2]
    exact ⟨rfl, rfl⟩
theorem oneCells_take {xs : List Value} (h : xs.all (·.oneCell') = true) (k : Nat) : (xs.take k).all (·.oneCell') = true ∧ (xs.drop k).all (·.oneCell') = true := by
  rw [List.all_eq_true] at h
  constructor <;> rw [List.all_eq_true] <;> intro v hv
  · exact h v (List.mem_of_mem_take hv)
  · exact h v (List.mem_of_mem_drop hv)
/-- The first k of a row of the call's own, and the others. -/
theorem src_parts {cc : Option Nat} {q : CodeRow} {w0 w : World} {L lr : List (Nat × TypeId × List Value)} {E : TypeId} {size n k cap : Nat} {ao : Option Addr} {xs : List Value} (h : St cc q w0 w L) (hm : ∀ e ∈ lr, e ∈ L) (hr : RowEnt E size lr (.slice ao n cap) n xs) (h1 : xs.all (·.oneCell') = true) (hk : k ≤ n) :
    SrcAt w size (sliced ao 0 k cap size) k (xs.take (k * size)) ∧ SrcAt w size (sliced ao k n cap size) (n - k) (xs.drop (k * size)) := by
  have hl := hr.1
  have hks : k * size ≤ n * size := Nat.mul_le_mul_right _ hk
  have hl1 : (xs.take (k * size)).length = k * size := by rw [List.length_take]; omega
  have hl2 : (xs.drop (k * size)).length = (n - k) * size := by rw [List.length_drop, hl, Nat.sub_mul]
  have ho := oneCells_take h1 (k * size)
  rcases hr.2 with ⟨_, hv, hn⟩ | ⟨g, cap2, junk, rfl, hv, hnc, _, hcz⟩
  · cases hv
    have hk0 : k = 0 := by omega
    subst hk0
    refine ⟨⟨hl1, ho.1, .inr ⟨by simp [sliced], rfl⟩⟩, ⟨hl2, ho.2, .inr ⟨by simp [sliced], by omega⟩⟩⟩
  · cases hv
    have hb : PBox w g E (xs ++ junk) := ((Bx_iff.1 h.own).1 (g, E, xs ++ junk) (hm _ (by simp))).2
    refine ⟨⟨hl1, ho.1, .inl ⟨⟨g, 0, none⟩, cap, ?_, fun j u hj => ?_⟩⟩, ⟨hl2, ho.2, ?_⟩⟩
    · unfold sliced
      split
      · simp
      · simp [addr_add]
    · rw [addr_add]
      refine hb.cell ?_
      rw [Nat.zero_add]
      have hj2 := (List.getElem?_eq_some_iff.1 hj).1
      rw [hl1] at hj2
      rw [List.getElem?_take, if_pos hj2] at hj
      rw [List.getElem?_append_left (List.getElem?_eq_some_iff.1 hj).1]
      exact hj
    · by_cases hck : cap = k
      · refine .inl ⟨⟨g, 0, none⟩, cap - k, ?_, fun j u hj => ?_⟩
        · unfold sliced
          rw [if_pos hck]
        · have := (List.getElem?_eq_some_iff.1 hj).1
          rw [hl2, show n - k = 0 by omega] at this
          omega
      · refine .inl ⟨⟨g, k * size, none⟩, cap - k, ?_, fun j u hj => ?_⟩
        · unfold sliced
          rw [if_neg hck]
          simp [addr_add]
        · rw [addr_add]
          refine hb.cell ?_
          rw [List.getElem?_drop] at hj
          rw [List.getElem?_append_left (List.getElem?_eq_some_iff.1 hj).1]
          exact hj
theorem row_form {E : TypeId} {size n : Nat} {lr : List (Nat × TypeId × List Value)} {v : Value} {xs : List Value} (h : RowEnt E size lr v n xs) : ∃ ao cap, v = .slice ao n cap ∧ n ≤ cap ∧ cap ≤ maxLen := by
  rcases h.2 with ⟨_, rfl, rfl⟩ | ⟨g, cap, junk, _, rfl, h1, h2, _⟩
  · exact ⟨none, 0, rfl, Nat.le_refl _, Nat.zero_le _⟩
  · exact ⟨_, cap, rfl, h1, h2⟩
section
variable {P : Program}
theorem run_sl_hi {o : Oper} {a : Act} {w : World} {t E : TypeId} {x y : Operand} {ao : Option Addr} {n cap k s : Nat} {sv : Value} (ho : o.op = .slice t x none (some y) none) (hu : P.underlying t = some (.slice E)) (hs : (P.info? E).map (·.size) = some s) (hx : a.eval x = .slice ao n cap) (hy : a.eval y = .int .i64 (k : Int)) (hk : k ≤ cap) (hv : sv = sliced ao 0 k cap s) :
    (execOp a.eval o).run P w = .ok (.value sv) w := by
  cases hi : P.info? E with
  | none => rw [hi] at hs; cases hs
  | some i =>
    rw [hi] at hs
    simp at hs
    subst hs hv
    unfold execOp
    simp [ho, hx, hy, Instr.sliceAt, Instr.slice, run_underlying hu, Instr.sliceBounds, run_sliceBound, hk, sizeOf, typeInfo, hi, sliced]
theorem run_sl_lo {o : Oper} {a : Act} {w : World} {t E : TypeId} {x y : Operand} {ao : Option Addr} {n cap k s : Nat} {sv : Value} (ho : o.op = .slice t x (some y) none none) (hu : P.underlying t = some (.slice E)) (hs : (P.info? E).map (·.size) = some s) (hx : a.eval x = .slice ao n cap) (hy : a.eval y = .int .i64 (k : Int)) (hk : k ≤ n) (hv : sv = sliced ao k n cap s) :
    (execOp a.eval o).run P w = .ok (.value sv) w := by
  cases hi : P.info? E with
  | none => rw [hi] at hs; cases hs
  | some i =>
    rw [hi] at hs
    simp at hs
    subst hs hv
    unfold execOp
    simp [ho, hx, hy, Instr.sliceAt, Instr.slice, run_underlying hu, Instr.sliceBounds, run_sliceBound, hk, sizeOf, typeInfo, hi, sliced]
end
section
variable {P : Program} {ops : Array Oper} {Q : Exit → Act → World → Prop} {a : Act} {w : World} {cc : Option Nat} {q : CodeRow} {w0 : World} {l L : List (Nat × TypeId × List Value)} {fuel : Nat} {listed : Array Bool} {o : Oper} {rest : List Oper}
/-- An operation whose guard says no. -/
theorem hg_skip (i : Nat) (d : Option Tmp) (hd0 : (ops[i]?).bind (·.dst) = d) (hi : ops[i]? = some o) (hs : Region.noSelect ops = true) (hf : Region.free .any ops listed i = true) (hr : (Region.ready .any ops listed).contains i = true)
    (hQ : ∀ v c a w, Q (.panic c) (a.put o.dst v) w → Q (.panic c) a w) (HS : Hid (St cc q w0 w L)) (hk : l.Sublist L) (hw : Region.wanted o (yielded ops a.tmps) = false)
    (h : wpAnyH P .any ops Q (InSt cc q w0 l) fuel (listed.setIfInBounds i true) (a.put d undef) w) : wpAnyH P .any ops Q (InSt cc q w0 l) (fuel + 1) listed a w :=
  have hd : o.dst = d := by rw [hi] at hd0; exact hd0
  wpAnyH_take (v := undef) hi hs hf hr (hQ _) (.inr ⟨hw, rfl⟩) (HS.out.sub hk) (by rw [hd]; exact h)
/-- A struct is read out of memory whose cells the class of worlds knows. -/
theorem hg_loadsC (i : Nat) (d : Option Tmp) (hd0 : (ops[i]?).bind (·.dst) = d) (hi : ops[i]? = some o) (hs : Region.noSelect ops = true) (hf : Region.free .any ops listed i = true) (hr : (Region.ready .any ops listed).contains i = true)
    (hQ : ∀ v c a w, Q (.panic c) (a.put o.dst v) w → Q (.panic c) a w) (HS : Hid (St cc q w0 w L)) (hk : l.Sublist L) (hw : Region.wanted o (yielded ops a.tmps) = true)
    (ty : TypeId) (x : Operand) (ho : o.op = .load ty x) (b off : Nat) (hx : a.eval x = .pointer (some ⟨b, off, none⟩)) (n : Nat) (hsh : shapeOf P ty = some (true, n)) (vs : List Value) (hn : vs.length = n) (hc : ∀ w', St cc q w0 w' l → ∀ (j : Nat) (v : Value), vs[j]? = some v → w'.cell? ⟨b, off + j, none⟩ = some v)
    (h : wpAnyH P .any ops Q (InSt cc q w0 l) fuel (listed.setIfInBounds i true) (a.put d (.agg vs.toArray)) w) : wpAnyH P .any ops Q (InSt cc q w0 l) (fuel + 1) listed a w :=
  have hd : o.dst = d := by rw [hi] at hd0; exact hd0
  wpAnyH_take (v := .agg vs.toArray) hi hs hf hr (hQ _) (.inl ⟨hw, fun w hS => by
    unfold execOp
    simp only [ho, hx, Instr.loadAt, Instr.sureAddr, Sem.run_bind, Sem.run_pure, Result.andThen_ok, run_load_cells (P := P) hsh hn (hc w hS)]⟩) (HS.out.sub hk) (by rw [hd]; exact h)
theorem run_callv {f : FuncId} {caps : List Value} {fv : Operand} {xs : List Operand} {ts : Array TypeId} (ho : o.op = .call { callee := .value fv, args := xs.toArray, argTypes := ts }) (hfv : a.eval fv = .func (.func f) #[] caps.toArray) {fn : Func} (hf : P.funcs[f]? = some fn) (hname : (fn.name == "runtime.NumGoroutine") = false) (hb : fn.body.isSome = true) (al : List Value) (hargs : xs.map a.eval = al) :
    (execOp a.eval o).run P w = .ok (.enter f (al ++ caps).toArray) w := by
  have h1 : fn.name ≠ "runtime.NumGoroutine" := by simpa using hname
  obtain ⟨c, hc⟩ := Option.isSome_iff_exists.1 hb
  have hrun : (callFunc f (al ++ caps).toArray).run P w = .ok (.enter f (al ++ caps).toArray) w := by simp [callFunc, hf, h1, hc]
  have hm : xs.toArray.map a.eval = al.toArray := by rw [List.map_toArray, hargs]
  have hap : al.toArray ++ caps.toArray = (al ++ caps).toArray := by simp
  unfold execOp
  simp only [ho, resolve, Deferred.ofValue, invoke, hfv, hm, Sem.run_bind, Sem.run_pure, Result.andThen_ok, Array.empty_append, hap, hrun]
/-- A call through a function value, in a region. -/
theorem hg_callv (i : Nat) (d : Option Tmp) (hd0 : (ops[i]?).bind (·.dst) = d) (hi : ops[i]? = some o) (hw : Region.wanted o (yielded ops a.tmps) = true) (_HS : Hid (St cc q w0 w L)) (hk : l.Sublist L) (f : FuncId) (caps : List Value) (fv : Operand) (xs : List Operand) (ts : Array TypeId)
    (ho : o.op = .call { callee := .value fv, args := xs.toArray, argTypes := ts }) (hfv : a.eval fv = .func (.func f) #[] caps.toArray) {fn : Func} (hf : P.funcs[f]? = some fn) (hname : (fn.name == "runtime.NumGoroutine") = false) (hb : fn.body.isSome = true)
    (al : List Value) (hargs : xs.map a.eval = al) (R : Value → Prop) (hc : Calls P f (al ++ caps).toArray w (fun e w' => ∃ v, e = .returned v ∧ R v ∧ St cc q w0 w' L))
    (h : ∀ v w', R v → Hid (St cc q w0 w' L) → wpAnyH P .any ops Q (InSt cc q w0 l) fuel (listed.setIfInBounds i true) (a.put d v) w') : HkX P ops Q (InSt cc q w0 l) fuel listed a w i := by
  have hd : o.dst = d := by rw [hi] at hd0; exact hd0
  refine ⟨o, hi, hw, ?_⟩
  unfold Oper.wp
  rw [run_callv ho hfv hf hname hb al hargs]
  simp only [Oper.upon]
  refine hc.mono fun e w' he => ?_
  obtain ⟨v, rfl, hv, hx⟩ := he
  rw [hd]
  exact ⟨St.sub hx hk, h v w' hv hx⟩
/-- The same in a region whose order is the text's. -/
theorem sx_callv (hw : Region.wanted o (yielded ops a.tmps) = true) (f : FuncId) (caps : List Value) (fv : Operand) (xs : List Operand) (ts : Array TypeId)
    (ho : o.op = .call { callee := .value fv, args := xs.toArray, argTypes := ts }) (hfv : a.eval fv = .func (.func f) #[] caps.toArray) {fn : Func} (hf : P.funcs[f]? = some fn) (hname : (fn.name == "runtime.NumGoroutine") = false) (hb : fn.body.isSome = true)
    (al : List Value) (hargs : xs.map a.eval = al) (R : Value → World → Prop) (hc : Calls P f (al ++ caps).toArray w (fun e w' => ∃ v, e = .returned v ∧ R v w'))
    (h : ∀ v w', R v w' → wpList P ops Q rest (a.put o.dst v) w') : wpList P ops Q (o :: rest) a w :=
  wpList_wanted hw fun _ hK => by
    unfold Oper.wp
    rw [run_callv ho hfv hf hname hb al hargs]
    simp only [Oper.upon]
    refine hc.mono fun e w' he => ?_
    obtain ⟨v, rfl, hv⟩ := he
    exact hK _ _ (h v w' hv)
end
theorem SlAt.get {w0 : World} {size : Nat} {v : Value} {rows : List (List Value)} (h : SlAt w0 size v rows) : ∃ ao cap, v = .slice ao rows.length cap ∧ rows.length ≤ cap ∧ cap ≤ 9223372036854775807 ∧ (0 < rows.length → ∃ g off, ao = some ⟨g, off, none⟩ ∧ ∀ (i : Nat) (r : List Value), rows[i]? = some r → ∀ w, Ext w0 w → ∀ (j : Nat) (u : Value), r[j]? = some u → w.cell? ⟨g, off + i * size + j, none⟩ = some u) := by
  obtain ⟨ao, cap, h1, h2, h3, h4⟩ := h
  refine ⟨ao, cap, h1, h2, by unfold maxLen at h3; omega, fun hne => ?_⟩
  obtain ⟨g, off, h5, h6⟩ := h4 (fun e => by rw [e] at hne; simp at hne)
  refine ⟨g, off, h5, fun i r hi w k j u hj => ?_⟩
  have := h6 i r hi j u hj
  exact (Below.cell (p := ⟨g, off + i * size + j, none⟩) k (block_lt_of_cell (a := ⟨g, off + i * size + j, none⟩) this)).trans this
end Go.Proofs.Ytnfkplohpjfocaa
