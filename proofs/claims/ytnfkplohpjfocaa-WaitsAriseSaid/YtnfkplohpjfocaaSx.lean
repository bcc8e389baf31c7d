/-
  Laws for the walk with a list of the call's own blocks: the world is a name, of which 'St' says what is known. No function of the program is named here.
-/
import Derived.Test.YtnfkplohpjfocaaHeap
set_option linter.unusedVariables false
set_option linter.unusedSimpArgs false
namespace Go.Proofs.Ytnfkplohpjfocaa
open Go.RowKit
section
variable {P : Program}

/-- A type's shape: is it a struct or an array, and how many cells has it? -/
def shapeOf (P : Program) (ty : TypeId) : Option (Bool × Nat) :=
  match P.underlying ty, P.info? ty with
  | some (.struct _), some i => some (true, i.size)
  | some (.array _ _), some i => some (true, i.size)
  | some _, some i => some (false, i.size)
  | _, _ => none

/-- The cells of block b are these. -/
def PBox (w : World) (b : Nat) (T : TypeId) (cs : List Value) : Prop := w.heap[b]? = some (.cells cs.toArray T (0, 0))
section
variable {w w' : World} {b : Nat} {T : TypeId} {cs : List Value}
theorem PBox.of (h : Box w b T cs.toArray) : PBox w b T cs := h
theorem PBox.lt (h : PBox w b T cs) : b < w.heap.size := (Array.getElem?_eq_some_iff.1 h).1
theorem PBox.cell (h : PBox w b T cs) {o : Nat} {v : Value} (hv : cs[o]? = some v) : w.cell? ⟨b, o, none⟩ = some v := by
  rw [cell_of_row w b o cs.toArray T _ h, List.getElem?_toArray]
  exact hv
theorem PBox.free (h : PBox w b T cs) (o : Nat) : w.frozen? ⟨b, o, none⟩ = false := frozen_of_row w b o cs.toArray T h
theorem PBox.same (h : PBox w b T cs) (k : w'.heap[b]? = w.heap[b]?) : PBox w' b T cs := k.trans h
theorem PBox.setCell (h : PBox w b T cs) (o : Nat) (v : Value) : PBox (w.setCell ⟨b, o, none⟩ v) b T (cs.set o v) := by
  have := heap_setCell_same w b o cs.toArray T v h
  unfold PBox
  rw [this, List.setIfInBounds_toArray]
end
/-- The call's own blocks, from 'base' on, no two the same. -/
def Bx (base : Nat) (w : World) : List (Nat × TypeId × List Value) → Prop
  | [] => True
  | x :: l => base ≤ x.1 ∧ PBox w x.1 x.2.1 x.2.2 ∧ (∀ y ∈ l, y.1 ≠ x.1) ∧ Bx base w l
theorem Bx.mem {base : Nat} {w : World} : ∀ {l : List (Nat × TypeId × List Value)}, Bx base w l → ∀ x ∈ l, base ≤ x.1 ∧ PBox w x.1 x.2.1 x.2.2
  | x :: l, ⟨h1, h2, _, h4⟩, y, hy => by
    rcases List.mem_cons.1 hy with rfl | hy
    · exact ⟨h1, h2⟩
    · exact Bx.mem h4 y hy
theorem Bx.get {base : Nat} {w : World} {l : List (Nat × TypeId × List Value)} (h : Bx base w l) {i b : Nat} {T : TypeId} {cs : List Value} (hl : l[i]? = some (b, T, cs)) : base ≤ b ∧ PBox w b T cs :=
  h.mem (b, T, cs) (List.mem_of_getElem? hl)
theorem Bx.same {base : Nat} {w w' : World} : ∀ {l : List (Nat × TypeId × List Value)}, Bx base w l → (∀ x ∈ l, w'.heap[x.1]? = w.heap[x.1]?) → Bx base w' l
  | [], _, _ => trivial
  | x :: l, ⟨h1, h2, h3, h4⟩, hs => ⟨h1, h2.same (hs x (by simp)), h3, Bx.same h4 (fun y hy => hs y (by simp [hy]))⟩
theorem Bx.ext {base : Nat} {w w' : World} {l : List (Nat × TypeId × List Value)} (h : Bx base w l) (k : Ext w w') : Bx base w' l :=
  h.same fun x hx => k.block x.1 ((h.mem x hx).2.lt)
theorem Bx.only {base c : Nat} {w w' : World} {l : List (Nat × TypeId × List Value)} (h : Bx base w l) (k : Only c w w') (hc : c < base) : Bx base w' l :=
  h.same fun x hx => k.block x.1 ((h.mem x hx).2.lt) (by have := (h.mem x hx).1; simp; omega)
theorem Bx.cons {base : Nat} {w w' : World} {l : List (Nat × TypeId × List Value)} (h : Bx base w l) {b : Nat} {T : TypeId} {cs : List Value} (k : NewBox w w' b T cs.toArray) (hb : base ≤ w.heap.size) : Bx base w' ((b, T, cs) :: l) :=
  ⟨by have := k.at_; show base ≤ b; omega, PBox.of k.box, fun y hy => by have h1 := (h.mem y hy).2.lt; have h2 := k.at_; show y.1 ≠ b; omega, h.ext k.ext⟩
theorem Bx.set {base : Nat} {w w' : World} : ∀ {l : List (Nat × TypeId × List Value)}, Bx base w l → ∀ {i b : Nat} {T : TypeId} {cs cs' : List Value}, l[i]? = some (b, T, cs) → Only b w w' → PBox w' b T cs' → Bx base w' (l.set i (b, T, cs'))
  | x :: l, ⟨h1, h2, h3, h4⟩, 0, b, T, cs, cs', hl, hk, hB => by
    simp at hl; subst hl
    refine ⟨h1, hB, h3, h4.same fun y hy => hk.block y.1 ((h4.mem y hy).2.lt) (by simpa using h3 y hy)⟩
  | x :: l, ⟨h1, h2, h3, h4⟩, i + 1, b, T, cs, cs', hl, hk, hB => by
    have hl' : l[i]? = some (b, T, cs) := by simpa using hl
    have hm : (b, T, cs) ∈ l := List.mem_of_getElem? hl'
    have hne : b ≠ x.1 := h3 _ hm
    refine ⟨h1, h2.same (hk.block x.1 h2.lt (by simpa using fun e => hne e.symm)), fun y hy => ?_, Bx.set h4 hl' hk hB⟩
    rcases List.mem_or_eq_of_mem_set hy with hy | rfl
    · exact h3 y hy
    · exact hne

/-- Where a walk stands: since w0 at most block cc has changed of what was there (none: nothing); it holds a row of choices; and these are the call's own blocks. -/
structure St (cc : Option Nat) (q : CodeRow) (w0 w : World) (l : List (Nat × TypeId × List Value)) : Prop where
  fr : w0.grownBy w cc
  codes : ∀ c, cc = some c → CodesAt q w0 c ∧ CodesAt q w c
  own : Bx w0.heap.size w l
  maps : cc = none → ∀ x ∈ q.maps, w0.heap.size ≤ x.1 ∧ MapAt w x.1 x.2
section
variable {cc : Option Nat} {q : CodeRow} {w0 w w' : World} {l : List (Nat × TypeId × List Value)}
theorem St.start (w : World) : St none default w w [] := ⟨⟨rfl, rfl, rfl, Nat.le_refl _, fun _ _ _ => rfl⟩, (fun c h => by cases h), trivial, fun _ x hx => by cases hx⟩
theorem St.startC {c : Nat} (h : CodesAt q w c) : St (some c) q w w [] := ⟨⟨rfl, rfl, rfl, Nat.le_refl _, fun _ _ _ => rfl⟩, (fun c' e => by cases e; exact ⟨h, h⟩), trivial, fun h => by cases h⟩
theorem St.size (h : St cc q w0 w l) : w0.heap.size ≤ w.heap.size := h.fr.size
theorem St.ext (h : St cc q w0 w l) (k : Ext w w') : St cc q w0 w' l :=
  ⟨⟨k.os.trans h.fr.os, k.tape.trans h.fr.tape, k.output.trans h.fr.output, Nat.le_trans h.fr.size k.size, fun i hi hn => (k.block i (Nat.lt_of_lt_of_le hi h.fr.size)).trans (h.fr.block i hi hn)⟩,
   fun c e => ⟨(h.codes c e).1, (h.codes c e).2.ext k⟩, h.own.ext k, fun e x hx => ⟨(h.maps e x hx).1, (h.maps e x hx).2.same (k.block x.1 (h.maps e x hx).2.lt)⟩⟩
theorem St.draws {c : Nat} (h : St (some c) q w0 w l) (k : Only c w w') (hc : CodesAt q w' c) : St (some c) q w0 w' l :=
  ⟨⟨k.os.trans h.fr.os, k.tape.trans h.fr.tape, k.output.trans h.fr.output, Nat.le_trans h.fr.size k.size, fun i hi hn => (k.block i (Nat.lt_of_lt_of_le hi h.fr.size) hn).trans (h.fr.block i hi hn)⟩,
   fun c' e => by cases e; exact ⟨(h.codes c rfl).1, hc⟩, h.own.only k (h.codes c rfl).1.lt, fun h => by cases h⟩
theorem St.drewN (h : St cc q w0 w l) (n : Nat) : St cc q w0 (w.drewN n) l := h.ext ((Ext.refl w).drewN n)
theorem St.drew (h : St cc q w0 w l) : St cc q w0 w.drew l := h.ext ((Ext.refl w).drew)
theorem St.isExt (h : St none q w0 w l) : Ext w0 w := ⟨h.fr.os, h.fr.tape, h.fr.output, h.fr.size, fun i hi => h.fr.block i hi (by simp)⟩
theorem St.isOnly {c : Nat} (h : St (some c) q w0 w l) : Only c w0 w := h.fr
theorem St.code {c : Nat} (h : St (some c) q w0 w l) : CodesAt q w c := (h.codes c rfl).2
theorem St.code0 {c : Nat} (h : St (some c) q w0 w l) : CodesAt q w0 c := (h.codes c rfl).1
theorem St.box (h : St cc q w0 w l) {i b : Nat} {T : TypeId} {cs : List Value} (hl : l[i]? = some (b, T, cs)) : PBox w b T cs := (h.own.get hl).2
theorem St.ge (h : St cc q w0 w l) {i b : Nat} {T : TypeId} {cs : List Value} (hl : l[i]? = some (b, T, cs)) : w0.heap.size ≤ b := (h.own.get hl).1
theorem St.new (h : St cc q w0 w l) {b : Nat} {T : TypeId} {cs : List Value} (k : NewBox w w' b T cs.toArray) : St cc q w0 w' ((b, T, cs) :: l) :=
  ⟨(h.ext k.ext).fr, (h.ext k.ext).codes, h.own.cons k h.fr.size, (h.ext k.ext).maps⟩
theorem St.set (h : St cc q w0 w l) {i b : Nat} {T : TypeId} {cs cs' : List Value} (hl : l[i]? = some (b, T, cs)) (k : Only b w w') (hB : PBox w' b T cs') : St cc q w0 w' (l.set i (b, T, cs')) :=
  ⟨⟨k.os.trans h.fr.os, k.tape.trans h.fr.tape, k.output.trans h.fr.output, Nat.le_trans h.fr.size k.size, fun i hi hn => (k.block i (Nat.lt_of_lt_of_le hi h.fr.size) (by have := h.ge hl; simp; omega)).trans (h.fr.block i hi hn)⟩,
   fun c e => ⟨(h.codes c e).1, (h.codes c e).1.past (h.codes c e).2 k (h.ge hl)⟩, h.own.set hl k hB, fun e x hx => ⟨(h.maps e x hx).1, (h.maps e x hx).2.same (k.block x.1 (h.maps e x hx).2.lt (fun e2 => (h.maps e x hx).2.ne (h.box hl) (by simpa using e2)))⟩⟩
theorem St.drop (h : St cc q w0 w l) (n : Nat) : St cc q w0 w (l.drop n) :=
  ⟨h.fr, h.codes, by
    have h3 := h.own
    clear h
    induction n generalizing l with
    | zero => exact h3
    | succ n ih =>
      cases l with
      | nil => trivial
      | cons x l => exact ih h3.2.2.2, h.maps⟩
end

/-- The cells from off on. -/
def cellsAt (cs : List Value) (off : Nat) : List Value → Prop
  | [] => True
  | v :: vs => cs[off]? = some v ∧ cellsAt cs (off + 1) vs
theorem cellsAt.get {cs : List Value} : ∀ {vs : List Value} {off : Nat}, cellsAt cs off vs → ∀ j v, vs[j]? = some v → cs[off + j]? = some v
  | v :: vs, off, h, 0, u, hj => by simp at hj; subst hj; exact h.1
  | v :: vs, off, h, j + 1, u, hj => by
    have := cellsAt.get h.2 j u (by simpa using hj)
    rw [show off + (j + 1) = off + 1 + j by omega]; exact this
/-- Values are stored one after the other. -/
def putCells (cs : List Value) (off : Nat) : List Value → List Value
  | [] => cs
  | v :: vs => putCells (cs.set off v) (off + 1) vs
theorem addr_add (b off j : Nat) : (⟨b, off, none⟩ : Addr).add j = ⟨b, off + j, none⟩ := by unfold Addr.add; split <;> simp_all
theorem shape_agg {P : Program} {ty : TypeId} {n : Nat} (h : shapeOf P ty = some (true, n)) (w : World) : (isAgg ty).run P w = .ok true w ∧ (sizeOf ty).run P w = .ok n w := by
  unfold shapeOf at h
  cases hu : P.underlying ty with
  | none => simp [hu] at h
  | some d =>
    cases hi : P.info? ty with
    | none => cases d <;> simp [hu, hi] at h
    | some i =>
      cases d <;> simp [hu, hi] at h <;> (subst h; exact ⟨by simp [isAgg, run_underlying hu], by simp [sizeOf, typeInfo, hi]⟩)
theorem shape_one {P : Program} {ty : TypeId} {n : Nat} (h : shapeOf P ty = some (false, n)) (w : World) : (isAgg ty).run P w = .ok false w ∧ (sizeOf ty).run P w = .ok n w := by
  unfold shapeOf at h
  cases hu : P.underlying ty with
  | none => simp [hu] at h
  | some d =>
    cases hi : P.info? ty with
    | none => cases d <;> simp [hu, hi] at h
    | some i =>
      cases d <;> simp [hu, hi] at h <;> (subst h; exact ⟨by simp [isAgg, run_underlying hu], by simp [sizeOf, typeInfo, hi]⟩)
theorem run_load_box {w : World} {b : Nat} {T : TypeId} {cs : List Value} (hB : PBox w b T cs) {ty : TypeId} {n off : Nat} {v : Value} (hs : shapeOf P ty = some (false, n)) (hv : cs[off]? = some v) :
    (loadVar ty ⟨b, off, none⟩).run P w = .ok v w := by
  have hc := hB.cell hv
  simp [loadVar, (shape_one hs w).1, hc, load, Sem.run]
theorem run_load_agg {w : World} {b : Nat} {T : TypeId} {cs : List Value} (hB : PBox w b T cs) {ty : TypeId} {n off : Nat} {vs : List Value} (hs : shapeOf P ty = some (true, n)) (hn : vs.length = n) (hv : cellsAt cs off vs) :
    (loadVar ty ⟨b, off, none⟩).run P w = .ok (.agg vs.toArray) w := by
  subst hn
  have hl := run_loadCells_list (P := P) w ⟨b, off, none⟩ vs (fun j v hj => by rw [addr_add]; exact hB.cell (hv.get j v hj))
  unfold loadVar
  rw [Sem.run_bind, (shape_agg hs w).1, Result.andThen_ok, if_pos rfl, Sem.run_bind, (shape_agg hs w).2, Result.andThen_ok, Sem.run_bind, hl]
  rfl
theorem run_storeCells_box (b : Nat) (T : TypeId) : ∀ (vs : List Value) (i off : Nat) (cs : List Value) (w : World), PBox w b T cs → off + i + vs.length ≤ cs.length → (∀ v ∈ vs, v.oneCell' = true) →
    ∃ w', (storeCells ⟨b, off, none⟩ vs i).run P w = .ok () w' ∧ PBox w' b T (putCells cs (off + i) vs) ∧ Only b w w' ∧ w'.heap.size = w.heap.size
  | [], i, off, cs, w, hB, _, _ => ⟨w, by simp [storeCells], hB, Only.refl b w, rfl⟩
  | v :: vs, i, off, cs, w, hB, hl, h1 => by
    have hlt : off + i < cs.length := by simp at hl; omega
    have hc : w.cell? ⟨b, off + i, none⟩ = some cs[off + i] := hB.cell (List.getElem?_eq_getElem hlt)
    have hst : (store ((⟨b, off, none⟩ : Addr).add i) v).run P w = .ok () (w.setCell ⟨b, off + i, none⟩ v) := by
      rw [addr_add, run_store P w _ v _ (h1 v (by simp)), hc]
      simp [hB.free]
    have hB2 := hB.setCell (off + i) v
    obtain ⟨w', hr, hB', ho, hz⟩ := run_storeCells_box b T vs (i + 1) off (cs.set (off + i) v) (w.setCell ⟨b, off + i, none⟩ v) hB2 (by simp at hl ⊢; omega) (fun x hx => h1 x (by simp [hx]))
    refine ⟨w', ?_, ?_, (Only.self_setCell b _ w v).trans ho, hz.trans (by simp [World.setCell])⟩
    · simp only [storeCells, Sem.run_bind, hst, Result.andThen_ok, hr]
    · exact hB'

section
variable {cc : Option Nat} {q : CodeRow} {w0 w : World} {l : List (Nat × TypeId × List Value)} {ops : Array Oper} {rest : List Oper} {o : Oper} {a : Act} {Q : Exit → Act → World → Prop}
theorem wpList_wanted (hw : Region.wanted o (yielded ops a.tmps) = true) (h : ∀ K : Act → World → Prop, (∀ a w, wpList P ops Q rest a w → K a w) → o.wp P a w K Q) : wpList P ops Q (o :: rest) a w :=
  wpList_step fun K hK => by rw [if_pos hw]; exact h K hK

theorem is_load {ty : TypeId} {x : Operand} (_ : o.op = .load ty x) (h : wpList P ops Q (o :: rest) a w) : wpList P ops Q (o :: rest) a w := h
theorem is_store {ty : TypeId} {x y : Operand} (_ : o.op = .store ty x y) (h : wpList P ops Q (o :: rest) a w) : wpList P ops Q (o :: rest) a w := h
theorem is_alloc {ty : TypeId} (_ : o.op = .alloc ty) (h : wpList P ops Q (o :: rest) a w) : wpList P ops Q (o :: rest) a w := h
/-- A variable of the call's own. -/
theorem sx_alloc (HS : Hid (St cc q w0 w l)) (hw : Region.wanted o (yielded ops a.tmps) = true) (ty : TypeId) (ho : o.op = .alloc ty) (cs : List Value) (hz : (P.info? ty).bind (·.zero) = some (.agg cs.toArray))
    (h : ∀ w' b, Hid (St cc q w0 w' ((b, ty, cs) :: l)) → wpList P ops Q rest (a.put o.dst (.pointer (some ⟨b, 0, none⟩))) w') : wpList P ops Q (o :: rest) a w :=
  wpList_wanted hw fun _ hK => by
    obtain ⟨z, hzz⟩ : ∃ z, z = Value.agg cs.toArray := ⟨_, rfl⟩
    rw [← hzz] at hz
    have hcs : z.cells = cs.toArray := by rw [hzz]; rfl
    cases hi : P.info? ty with
    | none => simp [hi] at hz
    | some i =>
      have hz' : i.zero = some z := by simpa [hi] using hz
      unfold Oper.wp execOp
      simp only [ho]
      have hr : (Instr.alloc ty true (.tuple #[])).run P w = .ok (.pointer (some ⟨w.heap.size, 0, none⟩)) (w.alloc (.cells z.cells ty)) := by
        simp [Instr.alloc, zeroValue, typeInfo, hi, hz', newVar, newRow]
      simp only [Sem.run_bind, hr, Result.andThen_ok, Sem.run_pure]
      exact hK _ _ (h _ _ (HS.out.new (by have := NewBox.of w ty z.cells; rw [hcs] at this ⊢; exact this)))
/-- A variable of the call's own with a value. -/
theorem sx_box (HS : Hid (St cc q w0 w l)) (hw : Region.wanted o (yielded ops a.tmps) = true) (ty : TypeId) (x : Operand) (ho : o.op = .box ty x) (cs : List Value) (hx : a.eval x = .agg cs.toArray)
    (h : ∀ w' b, Hid (St cc q w0 w' ((b, ty, cs) :: l)) → wpList P ops Q rest (a.put o.dst (.pointer (some ⟨b, 0, none⟩))) w') : wpList P ops Q (o :: rest) a w :=
  wpList_wanted hw fun _ hK => by
    have hcs : (a.eval x).cells = cs.toArray := by rw [hx]; rfl
    unfold Oper.wp execOp
    simp only [ho]
    have hr : (Instr.box ty (a.eval x)).run P w = .ok (.pointer (some ⟨w.heap.size, 0, none⟩)) (w.alloc (.cells (a.eval x).cells ty)) := by
      simp [Instr.box, newVar, newRow]
    simp only [Sem.run_bind, hr, Result.andThen_ok, Sem.run_pure]
    exact hK _ _ (h _ _ (HS.out.new (by have := NewBox.of w ty (a.eval x).cells; rw [hcs] at this ⊢; exact this)))
/-- One cell of a block of the call's own is read. -/
theorem sx_load (HS : Hid (St cc q w0 w l)) (hw : Region.wanted o (yielded ops a.tmps) = true) (ty : TypeId) (x : Operand) (ho : o.op = .load ty x) (i b : Nat) (T : TypeId) (cs : List Value) (hl : l[i]? = some (b, T, cs))
    (off : Nat) (hx : a.eval x = .pointer (some ⟨b, off, none⟩)) (n : Nat) (hs : shapeOf P ty = some (false, n)) (v : Value) (hv : cs[off]? = some v)
    (h : wpList P ops Q rest (a.put o.dst v) w) : wpList P ops Q (o :: rest) a w :=
  wpList_wanted hw fun _ hK => by
    unfold Oper.wp execOp
    simp only [ho, hx, Instr.loadAt, Instr.sureAddr, Sem.run_bind, Sem.run_pure, Result.andThen_ok, run_load_box (P := P) (HS.out.box hl) hs hv]
    exact hK _ _ h
/-- A struct in a block of the call's own is read. -/
theorem sx_loads (HS : Hid (St cc q w0 w l)) (hw : Region.wanted o (yielded ops a.tmps) = true) (ty : TypeId) (x : Operand) (ho : o.op = .load ty x) (i b : Nat) (T : TypeId) (cs : List Value) (hl : l[i]? = some (b, T, cs))
    (off : Nat) (hx : a.eval x = .pointer (some ⟨b, off, none⟩)) (n : Nat) (hs : shapeOf P ty = some (true, n)) (vs : List Value) (hn : vs.length = n) (hv : cellsAt cs off vs)
    (h : wpList P ops Q rest (a.put o.dst (.agg vs.toArray)) w) : wpList P ops Q (o :: rest) a w :=
  wpList_wanted hw fun _ hK => by
    unfold Oper.wp execOp
    simp only [ho, hx, Instr.loadAt, Instr.sureAddr, Sem.run_bind, Sem.run_pure, Result.andThen_ok, run_load_agg (P := P) (HS.out.box hl) hs hn hv]
    exact hK _ _ h
/-- A value of one cell is stored into a block of the call's own. -/
theorem sx_store (HS : Hid (St cc q w0 w l)) (hw : Region.wanted o (yielded ops a.tmps) = true) (ty : TypeId) (x y : Operand) (ho : o.op = .store ty x y) (hd : o.dst = none) (i b : Nat) (T : TypeId) (cs : List Value) (hl : l[i]? = some (b, T, cs))
    (off : Nat) (hx : a.eval x = .pointer (some ⟨b, off, none⟩)) (hs : shapeOf P ty = some (false, 1)) (v : Value) (hy : a.eval y = v) (h1 : v.oneCell' = true) (hoff : Nat.ble (off + 1) cs.length = true)
    (h : ∀ w', Hid (St cc q w0 w' (l.set i (b, T, cs.set off v))) → wpList P ops Q rest a w') : wpList P ops Q (o :: rest) a w :=
  wpList_wanted hw fun _ hK => by
    have hB := HS.out.box hl
    obtain ⟨w', hr, hB', hk, _⟩ := run_storeCells_box (P := P) b T [v] 0 off cs w hB (by have := Nat.le_of_ble_eq_true hoff; simp; omega) (fun u hu => by simp at hu; subst hu; exact h1)
    have hc : v.cells = #[v] := by cases v <;> first | rfl | cases h1
    unfold Oper.wp execOp
    have hrun : (storeVar ty ⟨b, off, none⟩ v).run P w = .ok () w' := by
      unfold storeVar
      rw [Sem.run_bind, (shape_one hs w).2, Result.andThen_ok, hc]
      simp [hr]
    simp only [ho, hx, hy, Instr.storeAt, Instr.sureAddr, Sem.run_bind, Sem.run_pure, Result.andThen_ok, hrun]
    have := hK _ _ (h w' (HS.out.set hl hk hB'))
    simp only [Oper.upon, hd, Act.put]
    exact this
/-- A struct is stored into a block of the call's own. -/
theorem sx_stores (HS : Hid (St cc q w0 w l)) (hw : Region.wanted o (yielded ops a.tmps) = true) (ty : TypeId) (x y : Operand) (ho : o.op = .store ty x y) (hd : o.dst = none) (i b : Nat) (T : TypeId) (cs : List Value) (hl : l[i]? = some (b, T, cs))
    (off : Nat) (hx : a.eval x = .pointer (some ⟨b, off, none⟩)) (n : Nat) (hs : shapeOf P ty = some (true, n)) (vs : List Value) (hy : a.eval y = .agg vs.toArray) (hn : vs.length = n) (h1 : vs.all (·.oneCell') = true) (hoff : Nat.ble (off + n) cs.length = true)
    (h : ∀ w', Hid (St cc q w0 w' (l.set i (b, T, putCells cs off vs))) → wpList P ops Q rest a w') : wpList P ops Q (o :: rest) a w :=
  wpList_wanted hw fun _ hK => by
    have hB := HS.out.box hl
    obtain ⟨w', hr, hB', hk, _⟩ := run_storeCells_box (P := P) b T vs 0 off cs w hB (by have := Nat.le_of_ble_eq_true hoff; omega) (fun u hu => (List.all_eq_true.1 h1) u hu)
    unfold Oper.wp execOp
    have hrun : (storeVar ty ⟨b, off, none⟩ (.agg vs.toArray)).run P w = .ok () w' := by
      unfold storeVar
      rw [Sem.run_bind, (shape_agg hs w).2, Result.andThen_ok]
      simp [Value.cells, hn, hr]
    simp only [ho, hx, hy, Instr.storeAt, Instr.sureAddr, Sem.run_bind, Sem.run_pure, Result.andThen_ok, hrun]
    have := hK _ _ (h w' (HS.out.set hl hk hB'))
    simp only [Oper.upon, hd, Act.put]
    exact this
end

section
variable {cc : Option Nat} {q : CodeRow} {w0 w : World} {l : List (Nat × TypeId × List Value)} {ops : Array Oper} {rest : List Oper} {o : Oper} {a : Act} {Q : Exit → Act → World → Prop}
theorem cellsAt_self : ∀ (pre vs : List Value), cellsAt (pre ++ vs) pre.length vs
  | _, [] => trivial
  | pre, v :: vs => ⟨by simp, by
    have := cellsAt_self (pre ++ [v]) vs
    simpa using this⟩
theorem putCells_all : ∀ (pre old vs : List Value), old.length = vs.length → putCells (pre ++ old) pre.length vs = pre ++ vs
  | _, [], [], _ => rfl
  | pre, o :: old, v :: vs, h => by
    have := putCells_all (pre ++ [v]) old vs (by simpa using h)
    simp only [putCells]
    simpa using this
/-- A whole struct, whatever its size, is stored into its block. -/
theorem sx_store_all (HS : Hid (St cc q w0 w l)) (hw : Region.wanted o (yielded ops a.tmps) = true) (ty : TypeId) (x y : Operand) (ho : o.op = .store ty x y) (hd : o.dst = none) (i b : Nat) (T : TypeId) (cs : List Value) (hl : l[i]? = some (b, T, cs))
    (hx : a.eval x = .pointer (some ⟨b, 0, none⟩)) (cells : List Value) (hy : a.eval y = .agg cells.toArray) (n : Nat) (hs : shapeOf P ty = some (true, n)) (hn : cells.length = n) (hold : cs.length = cells.length) (h1 : cells.all (·.oneCell') = true)
    (h : ∀ w', Hid (St cc q w0 w' (l.set i (b, T, cells))) → wpList P ops Q rest a w') : wpList P ops Q (o :: rest) a w := by
  refine sx_stores HS hw ty x y ho hd i b T cs hl 0 hx n hs cells hy hn h1 (Nat.ble_eq_true_of_le (by omega)) fun w' HS' => h w' ?_
  have e := putCells_all [] cs cells hold
  simp only [List.nil_append, List.length_nil] at e
  rw [e] at HS'
  exact HS'
/-- A whole struct, whatever its size, is read out of its block. -/
theorem sx_load_all (HS : Hid (St cc q w0 w l)) (hw : Region.wanted o (yielded ops a.tmps) = true) (ty : TypeId) (x : Operand) (ho : o.op = .load ty x) (i b : Nat) (T : TypeId) (cs : List Value) (hl : l[i]? = some (b, T, cs))
    (hx : a.eval x = .pointer (some ⟨b, 0, none⟩)) (n : Nat) (hs : shapeOf P ty = some (true, n)) (hn : cs.length = n)
    (h : wpList P ops Q rest (a.put o.dst (.agg cs.toArray)) w) : wpList P ops Q (o :: rest) a w :=
  sx_loads HS hw ty x ho i b T cs hl 0 hx n hs cs hn (by simpa using cellsAt_self [] cs) h
end
section
variable {fn : Func} {tmps : Array Value} {w : World}
theorem results_c {t : Tmp} {ty : TypeId} (h : fn.results = #[.cell t ty]) {ad : Addr} {v : Value} (hp : tmps.getD t undef = .pointer (some ad)) (hl : (loadVar ty ad).run P w = .ok v w) : (results fn tmps).run P w = .ok v w := by
  have hp' : tmps[t]?.getD undef = .pointer (some ad) := by simpa using hp
  simp [results, h, hp', asAddr, hl]
theorem results_ct {t u : Tmp} {ty : TypeId} (h : fn.results = #[.cell t ty, .tmp u]) {ad : Addr} {v x : Value} (hp : tmps.getD t undef = .pointer (some ad)) (hl : (loadVar ty ad).run P w = .ok v w) (hu : tmps.getD u undef = x) : (results fn tmps).run P w = .ok (.tuple #[v, x]) w := by
  have hp' : tmps[t]?.getD undef = .pointer (some ad) := by simpa using hp
  have hu' : tmps[u]?.getD undef = x := by simpa using hu
  simp [results, h, hp', asAddr, hl, hu']
theorem results_ctt {t u u2 : Tmp} {ty : TypeId} (h : fn.results = #[.cell t ty, .tmp u, .tmp u2]) {ad : Addr} {v x y : Value} (hp : tmps.getD t undef = .pointer (some ad)) (hl : (loadVar ty ad).run P w = .ok v w) (hu : tmps.getD u undef = x) (hu2 : tmps.getD u2 undef = y) : (results fn tmps).run P w = .ok (.tuple #[v, x, y]) w := by
  have hp' : tmps[t]?.getD undef = .pointer (some ad) := by simpa using hp
  have hu' : tmps[u]?.getD undef = x := by simpa using hu
  have hu2' : tmps[u2]?.getD undef = y := by simpa using hu2
  simp [results, h, hp', asAddr, hl, hu', hu2']
theorem results_cc {t t2 : Tmp} {ty ty2 : TypeId} (h : fn.results = #[.cell t ty, .cell t2 ty2]) {ad ad2 : Addr} {v x : Value} (hp : tmps.getD t undef = .pointer (some ad)) (hl : (loadVar ty ad).run P w = .ok v w) (hp2 : tmps.getD t2 undef = .pointer (some ad2)) (hl2 : (loadVar ty2 ad2).run P w = .ok x w) : (results fn tmps).run P w = .ok (.tuple #[v, x]) w := by
  have hp' : tmps[t]?.getD undef = .pointer (some ad) := by simpa using hp
  have hp2' : tmps[t2]?.getD undef = .pointer (some ad2) := by simpa using hp2
  simp [results, h, hp', asAddr, hl, hp2', hl2]
end
end
end Go.Proofs.Ytnfkplohpjfocaa
