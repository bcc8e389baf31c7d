/-
  Laws for a region that draws its order and holds loads of the call's own blocks beside calls that change nothing old, allocations and stores into new variables. No function of the program is named here.
-/
import Derived.Test.YtnfkplohpjfocaaSx
import Derived.OrdersHeld
import Derived.RegionTactic
set_option linter.unusedVariables false
set_option linter.unusedSimpArgs false
namespace Go.Proofs.Ytnfkplohpjfocaa
open Go.RowKit
section
variable {P : Program} {ops : Array Oper} {Q : Exit → Act → World → Prop} {a : Act} {w : World} {cc : Option Nat} {q : CodeRow} {w0 : World} {l L : List (Nat × TypeId × List Value)} {fuel : Nat} {listed : Array Bool} {o : Oper}

/-- The class of worlds in which the call's own blocks are these. -/
def InSt (cc : Option Nat) (q : CodeRow) (w0 : World) (l : List (Nat × TypeId × List Value)) : World → Prop := fun w' => St cc q w0 w' l
theorem InSt.of {k : Nat} (HS : Hid (St cc q w0 w L)) (hk : L.drop k = l) : InSt cc q w0 l w := by
  have := HS.out.drop k
  rw [hk] at this
  exact this

theorem hk_begin {id : Nat} (HS : Hid (St cc q w0 w l)) (hm : P.follows .mixedOrders = true)
    (h : ∀ w', Hid (St cc q w0 w' l) → wpAnyH P .any ops Q (InSt cc q w0 l) ops.size (Array.replicate ops.size false) a w') : (Code.region id ops true).wp P Q a w :=
  wp_region_held hm (h _ HS.out.drew)

/-- An operation that yields its value in whatever world. -/
theorem hk_reg (i : Nat) (d : Option Tmp) (hd0 : (ops[i]?).bind (·.dst) = d) (hi : ops[i]? = some o) (hs : Region.noSelect ops = true) (hf : Region.free .any ops listed i = true) (hr : (Region.ready .any ops listed).contains i = true)
    (hQ : ∀ v c a w, Q (.panic c) (a.put o.dst v) w → Q (.panic c) a w) {k : Nat} (HS : Hid (St cc q w0 w L)) (hk : L.drop k = l) (v : Value) (hw : Region.wanted o (yielded ops a.tmps) = true)
    (hrun : ∀ w, (execOp a.eval o).run P w = .ok (.value v) w) (h : wpAnyH P .any ops Q (InSt cc q w0 l) fuel (listed.setIfInBounds i true) (a.put d v) w) : wpAnyH P .any ops Q (InSt cc q w0 l) (fuel + 1) listed a w :=
  have hd : o.dst = d := by rw [hi] at hd0; exact hd0
  wpAnyH_take (v := v) hi hs hf hr (hQ v) (.inl ⟨hw, fun w _ => hrun w⟩) (InSt.of HS hk) (by rw [hd]; exact h)
/-- A struct of the call's own is read. -/
theorem hk_loads (i : Nat) (d : Option Tmp) (hd0 : (ops[i]?).bind (·.dst) = d) (hi : ops[i]? = some o) (hs : Region.noSelect ops = true) (hf : Region.free .any ops listed i = true) (hr : (Region.ready .any ops listed).contains i = true)
    (hQ : ∀ v c a w, Q (.panic c) (a.put o.dst v) w → Q (.panic c) a w) {k : Nat} (HS : Hid (St cc q w0 w L)) (hk : L.drop k = l) (hw : Region.wanted o (yielded ops a.tmps) = true)
    (ty : TypeId) (x : Operand) (ho : o.op = .load ty x) (j b : Nat) (T : TypeId) (cs : List Value) (hl : l[j]? = some (b, T, cs)) (off : Nat) (hx : a.eval x = .pointer (some ⟨b, off, none⟩)) (n : Nat) (hsh : shapeOf P ty = some (true, n)) (vs : List Value) (hn : vs.length = n) (hv : cellsAt cs off vs)
    (h : wpAnyH P .any ops Q (InSt cc q w0 l) fuel (listed.setIfInBounds i true) (a.put d (.agg vs.toArray)) w) : wpAnyH P .any ops Q (InSt cc q w0 l) (fuel + 1) listed a w :=
  have hd : o.dst = d := by rw [hi] at hd0; exact hd0
  wpAnyH_take (v := .agg vs.toArray) hi hs hf hr (hQ _) (.inl ⟨hw, fun w hS => by
    have hB : PBox w b T cs := St.box hS hl
    unfold execOp
    simp only [ho, hx, Instr.loadAt, Instr.sureAddr, Sem.run_bind, Sem.run_pure, Result.andThen_ok, run_load_agg (P := P) hB hsh hn hv]⟩) (InSt.of HS hk) (by rw [hd]; exact h)
theorem hk_load (i : Nat) (d : Option Tmp) (hd0 : (ops[i]?).bind (·.dst) = d) (hi : ops[i]? = some o) (hs : Region.noSelect ops = true) (hf : Region.free .any ops listed i = true) (hr : (Region.ready .any ops listed).contains i = true)
    (hQ : ∀ v c a w, Q (.panic c) (a.put o.dst v) w → Q (.panic c) a w) {k : Nat} (HS : Hid (St cc q w0 w L)) (hk : L.drop k = l) (hw : Region.wanted o (yielded ops a.tmps) = true)
    (ty : TypeId) (x : Operand) (ho : o.op = .load ty x) (j b : Nat) (T : TypeId) (cs : List Value) (hl : l[j]? = some (b, T, cs)) (off : Nat) (hx : a.eval x = .pointer (some ⟨b, off, none⟩)) (n : Nat) (hsh : shapeOf P ty = some (false, n)) (v : Value) (hv : cs[off]? = some v)
    (h : wpAnyH P .any ops Q (InSt cc q w0 l) fuel (listed.setIfInBounds i true) (a.put d v) w) : wpAnyH P .any ops Q (InSt cc q w0 l) (fuel + 1) listed a w :=
  have hd : o.dst = d := by rw [hi] at hd0; exact hd0
  wpAnyH_take (v := v) hi hs hf hr (hQ _) (.inl ⟨hw, fun w hS => by
    have hB : PBox w b T cs := St.box hS hl
    unfold execOp
    simp only [ho, hx, Instr.loadAt, Instr.sureAddr, Sem.run_bind, Sem.run_pure, Result.andThen_ok, run_load_box (P := P) hB hsh hv]⟩) (InSt.of HS hk) (by rw [hd]; exact h)
/-- A large struct of the call's own is read whole. -/
theorem hk_load_all (i : Nat) (d : Option Tmp) (hd0 : (ops[i]?).bind (·.dst) = d) (hi : ops[i]? = some o) (hs : Region.noSelect ops = true) (hf : Region.free .any ops listed i = true) (hr : (Region.ready .any ops listed).contains i = true)
    (hQ : ∀ v c a w, Q (.panic c) (a.put o.dst v) w → Q (.panic c) a w) {k : Nat} (HS : Hid (St cc q w0 w L)) (hk : L.drop k = l) (hw : Region.wanted o (yielded ops a.tmps) = true)
    (ty : TypeId) (x : Operand) (ho : o.op = .load ty x) (j b : Nat) (T : TypeId) (cs : List Value) (hl : l[j]? = some (b, T, cs)) (hx : a.eval x = .pointer (some ⟨b, 0, none⟩)) (n : Nat) (hsh : shapeOf P ty = some (true, n)) (hn : cs.length = n)
    (h : wpAnyH P .any ops Q (InSt cc q w0 l) fuel (listed.setIfInBounds i true) (a.put d (.agg cs.toArray)) w) : wpAnyH P .any ops Q (InSt cc q w0 l) (fuel + 1) listed a w :=
  have hd : o.dst = d := by rw [hi] at hd0; exact hd0
  wpAnyH_take (v := .agg cs.toArray) hi hs hf hr (hQ _) (.inl ⟨hw, fun w hS => by
    have hB : PBox w b T cs := St.box hS hl
    unfold execOp
    simp only [ho, hx, Instr.loadAt, Instr.sureAddr, Sem.run_bind, Sem.run_pure, Result.andThen_ok, run_load_agg (P := P) hB hsh hn (by simpa using cellsAt_self [] cs)]⟩) (InSt.of HS hk) (by rw [hd]; exact h)

/-- What is to be shown of an operation that comes up, and of what follows. -/
def HkX (P : Program) (ops : Array Oper) (Q : Exit → Act → World → Prop) (S : World → Prop) (fuel : Nat) (listed : Array Bool) (a : Act) (w : World) (i : Nat) : Prop :=
  ∃ o, ops[i]? = some o ∧ Region.wanted o (yielded ops a.tmps) = true ∧ o.wp P a w (fun a' w' => S w' ∧ wpAnyH P .any ops Q S fuel (listed.setIfInBounds i true) a' w') Q
theorem HkX.wpOp {S : World → Prop} {i : Nat} (h : HkX P ops Q S fuel listed a w i) : wpOp P ops Q i (fun a' w' => S w' ∧ wpAnyH P .any ops Q S fuel (listed.setIfInBounds i true) a' w') a w := by
  obtain ⟨o, ho, hw, h⟩ := h
  unfold Go.wpOp
  simp only [ho, hw, if_true]
  exact .inl h
theorem hk_x1 {S : World → Prop} (i : Nat) (hr : Region.ready .any ops listed = [i]) (h : HkX P ops Q S fuel listed a w i) : wpAnyH P .any ops Q S (fuel + 1) listed a w :=
  wpAnyH_all hr (by simp) fun j hj => by simp at hj; subst hj; exact h.wpOp
theorem hk_x2 {S : World → Prop} (i j : Nat) (hr : Region.ready .any ops listed = [i, j]) (h : HkX P ops Q S fuel listed a w i) (h2 : HkX P ops Q S fuel listed a w j) : wpAnyH P .any ops Q S (fuel + 1) listed a w :=
  wpAnyH_all hr (by simp) fun k hk => by
    simp at hk
    rcases hk with rfl | rfl
    · exact h.wpOp
    · exact h2.wpOp
theorem hk_call (i : Nat) (d : Option Tmp) (hd0 : (ops[i]?).bind (·.dst) = d) (hi : ops[i]? = some o) (hw : Region.wanted o (yielded ops a.tmps) = true) {k : Nat} (HS : Hid (St cc q w0 w L)) (hk : L.drop k = l) (f : FuncId) (as : List Operand) (ts : Array TypeId)
    (ho : o.op = .call { callee := .value (.func f), args := as.toArray, argTypes := ts }) {fn : Func} (hf : P.funcs[f]? = some fn) (hname : (fn.name == "runtime.NumGoroutine") = false) {c : Code} (hb : fn.body = some c)
    (al : List Value) (v : Value) (hc : Calls P f al.toArray w (fun e w' => e = .returned v ∧ Ext w w')) (hargs : as.map a.eval = al)
    (h : ∀ w', Hid (St cc q w0 w' L) → wpAnyH P .any ops Q (InSt cc q w0 l) fuel (listed.setIfInBounds i true) (a.put d v) w') : HkX P ops Q (InSt cc q w0 l) fuel listed a w i := by
  have hd : o.dst = d := by rw [hi] at hd0; exact hd0
  refine ⟨o, hi, hw, ?_⟩
  unfold Oper.wp execOp
  have hrun : (callFunc f al.toArray).run P w = .ok (.enter f al.toArray) w := by
    have h1 : fn.name ≠ "runtime.NumGoroutine" := by simpa using hname
    simp [callFunc, hf, h1, hb]
  have hfv : a.eval (.func f) = .func (.func f) #[] #[] := rfl
  have hm : as.toArray.map a.eval = al.toArray := by rw [List.map_toArray, hargs]
  simp only [ho, resolve, Deferred.ofValue, invoke, hfv, hm, Sem.run_bind, Sem.run_pure, Result.andThen_ok, Array.empty_append, Array.append_empty, hrun, Oper.upon]
  refine hc.mono fun e w' he => ?_
  obtain ⟨rfl, hx⟩ := he
  have HS' : Hid (St cc q w0 w' L) := HS.out.ext hx
  rw [hd]
  exact ⟨InSt.of HS' hk, h w' HS'⟩
theorem hk_alloc (i : Nat) (d : Option Tmp) (hd0 : (ops[i]?).bind (·.dst) = d) (hi : ops[i]? = some o) (hw : Region.wanted o (yielded ops a.tmps) = true) {k : Nat} (HS : Hid (St cc q w0 w L)) (hk : L.drop k = l) (ty : TypeId) (ho : o.op = .alloc ty) (cs : List Value) (hz : (P.info? ty).bind (·.zero) = some (.agg cs.toArray))
    (h : ∀ w' b, Hid (St cc q w0 w' ((b, ty, cs) :: L)) → wpAnyH P .any ops Q (InSt cc q w0 l) fuel (listed.setIfInBounds i true) (a.put d (.pointer (some ⟨b, 0, none⟩))) w') : HkX P ops Q (InSt cc q w0 l) fuel listed a w i := by
  have hd : o.dst = d := by rw [hi] at hd0; exact hd0
  refine ⟨o, hi, hw, ?_⟩
  obtain ⟨z, hzz⟩ : ∃ z, z = Value.agg cs.toArray := ⟨_, rfl⟩
  rw [← hzz] at hz
  have hcs : z.cells = cs.toArray := by rw [hzz]; rfl
  cases hinf : P.info? ty with
  | none => simp [hinf] at hz
  | some inf =>
    have hz' : inf.zero = some z := by simpa [hinf] using hz
    unfold Oper.wp execOp
    have hr : (Instr.alloc ty true (.tuple #[])).run P w = .ok (.pointer (some ⟨w.heap.size, 0, none⟩)) (w.alloc (.cells z.cells ty)) := by
      simp [Instr.alloc, zeroValue, typeInfo, hinf, hz', newVar, newRow]
    simp only [ho, Sem.run_bind, hr, Result.andThen_ok, Sem.run_pure, Oper.upon]
    have HS' : Hid (St cc q w0 (w.alloc (.cells z.cells ty)) ((w.heap.size, ty, cs) :: L)) := HS.out.new (by have := NewBox.of w ty z.cells; rw [hcs] at this ⊢; exact this)
    rw [hd]
    exact ⟨InSt.of (k := k + 1) HS' (by simpa using hk), h _ _ HS'⟩
/-- A whole struct goes into a new variable. -/
theorem hk_store_all (i : Nat) (hi : ops[i]? = some o) (hw : Region.wanted o (yielded ops a.tmps) = true) {k : Nat} (HS : Hid (St cc q w0 w L)) (hk : L.drop k = l) (ty : TypeId) (x y : Operand) (ho : o.op = .store ty x y) (hd : o.dst = none) (j b : Nat) (T : TypeId) (cs : List Value) (hl : L[j]? = some (b, T, cs)) (hjk : j < k)
    (hx : a.eval x = .pointer (some ⟨b, 0, none⟩)) (cells : List Value) (hy : a.eval y = .agg cells.toArray) (n : Nat) (hsh : shapeOf P ty = some (true, n)) (hn : cells.length = n) (hold : cs.length = cells.length) (h1 : cells.all (·.oneCell') = true)
    (h : ∀ w', Hid (St cc q w0 w' (L.set j (b, T, cells))) → wpAnyH P .any ops Q (InSt cc q w0 l) fuel (listed.setIfInBounds i true) a w') : HkX P ops Q (InSt cc q w0 l) fuel listed a w i := by
  refine ⟨o, hi, hw, ?_⟩
  have hB := HS.out.box hl
  obtain ⟨w', hr, hB', hko, _⟩ := run_storeCells_box (P := P) b T cells 0 0 cs w hB (by omega) (fun u hu => (List.all_eq_true.1 h1) u hu)
  have e := putCells_all [] cs cells hold
  simp only [List.nil_append, List.length_nil] at e
  simp only [Nat.add_zero, e] at hB'
  have HS' : Hid (St cc q w0 w' (L.set j (b, T, cells))) := HS.out.set hl hko hB'
  unfold Oper.wp execOp
  have hrun : (storeVar ty ⟨b, 0, none⟩ (.agg cells.toArray)).run P w = .ok () w' := by
    unfold storeVar
    rw [Sem.run_bind, (shape_agg hsh w).2, Result.andThen_ok]
    simp [Value.cells, hn, hr]
  simp only [ho, hx, hy, Instr.storeAt, Instr.sureAddr, Sem.run_bind, Sem.run_pure, Result.andThen_ok, hrun, Oper.upon, hd, Act.put]
  exact ⟨InSt.of (k := k) HS' (by rw [List.drop_set_of_lt hjk]; exact hk), h _ HS'⟩
theorem run_binop {op : BinOp} {T T2 : TypeId} {x y : Operand} (ho : o.op = .binOp op T x y T2) {u v r : Value} (hx : a.eval x = u) (hy : a.eval y = v) (hg : (eqGuard op T x y u v).run P w = .ok () w) (hb : (binOp op T u v).run P w = .ok r w) : (execOp a.eval o).run P w = .ok (.value r) w := by
  unfold execOp
  simp only [ho, hx, hy, Sem.run_bind, hg, hb, Result.andThen_ok, Sem.run_pure]
theorem hk_done {S : World → Prop} (hr : Region.ready .any ops listed = []) (h : Q .normal a w) : wpAnyH P .any ops Q S fuel listed a w := wpAnyH_done hr h fuel
theorem St.set1 {b : Nat} {T : TypeId} {cs : List Value} (h : St cc q w0 w l) {i : Nat} (hl : l[i]? = some (b, T, cs)) (off : Nat) (v : Value) : St cc q w0 (w.setCell ⟨b, off, none⟩ v) (l.set i (b, T, cs.set off v)) :=
  h.set hl (Only.self_setCell b off w v) ((h.box hl).setCell off v)
end
end Go.Proofs.Ytnfkplohpjfocaa
