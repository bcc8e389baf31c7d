/-
  Laws for the walk with a list of the call's own blocks: the world is a name, of which 'St' says what is known. No function of the program is named here.
-/
import Derived.Test.YtnfkplohpjfocaaGreatBaA
import Derived.OrdersHeld
import Derived.RegionTactic
import Derived.Maps.AppendAt
set_option linter.unusedVariables false
set_option linter.unusedSimpArgs false
namespace Go.Proofs.YtnfkplohpjfocaaGreat
open Go.RowKit
section
variable {P : Program}

/-- A type's shape: is it a struct or an array, and how many cells has it? -/
def shapeOf (P : Program) (ty : TypeId) : Option (Bool × Nat) :=
  match P.underlying ty, P.info? ty with
  | some (.struct _), some i => some (true, i.size)
  | some (.array _ _), some i => some (true, i.size)
  | some _, some i => some (false, i.size)
  | _, _ => none

/-- The cells of block b are these. -/
def PBox (w : World) (b : Nat) (T : TypeId) (cs : List Value) : Prop := w.heap[b]? = some (.cells cs.toArray T (0, 0))
section
variable {w w' : World} {b : Nat} {T : TypeId} {cs : List Value}
theorem PBox.of (h : Box w b T cs.toArray) : PBox w b T cs := h
theorem PBox.lt (h : PBox w b T cs) : b < w.heap.size := (Array.getElem?_eq_some_iff.1 h).1
theorem PBox.cell (h : PBox w b T cs) {o : Nat} {v : Value} (hv : cs[o]? = some v) : w.cell? ⟨b, o, none⟩ = some v := by
  rw [cell_of_row w b o cs.toArray T _ h, List.getElem?_toArray]
  exact hv
theorem PBox.free (h : PBox w b T cs) (o : Nat) : w.frozen? ⟨b, o, none⟩ = false := frozen_of_row w b o cs.toArray T h
theorem PBox.same (h : PBox w b T cs) (k : w'.heap[b]? = w.heap[b]?) : PBox w' b T cs := k.trans h
theorem PBox.setCell (h : PBox w b T cs) (o : Nat) (v : Value) : PBox (w.setCell ⟨b, o, none⟩ v) b T (cs.set o v) := by
  have := heap_setCell_same w b o cs.toArray T v h
  unfold PBox
  rw [this, List.setIfInBounds_toArray]
end
/-- The call's own blocks, from 'base' on, no two the same. -/
def Bx (base : Nat) (w : World) : List (Nat × TypeId × List Value) → Prop
  | [] => True
  | x :: l => base ≤ x.1 ∧ PBox w x.1 x.2.1 x.2.2 ∧ (∀ y ∈ l, y.1 ≠ x.1) ∧ Bx base w l
theorem Bx.mem {base : Nat} {w : World} : ∀ {l : List (Nat × TypeId × List Value)}, Bx base w l → ∀ x ∈ l, base ≤ x.1 ∧ PBox w x.1 x.2.1 x.2.2
  | x :: l, ⟨h1, h2, _, h4⟩, y, hy => by
    rcases List.mem_cons.1 hy with rfl | hy
    · exact ⟨h1, h2⟩
    · exact Bx.mem h4 y hy
theorem Bx.get {base : Nat} {w : World} {l : List (Nat × TypeId × List Value)} (h : Bx base w l) {i b : Nat} {T : TypeId} {cs : List Value} (hl : l[i]? = some (b, T, cs)) : base ≤ b ∧ PBox w b T cs :=
  h.mem (b, T, cs) (List.mem_of_getElem? hl)
theorem Bx.same {base : Nat} {w w' : World} : ∀ {l : List (Nat × TypeId × List Value)}, Bx base w l → (∀ x ∈ l, w'.heap[x.1]? = w.heap[x.1]?) → Bx base w' l
  | [], _, _ => trivial
  | x :: l, ⟨h1, h2, h3, h4⟩, hs => ⟨h1, h2.same (hs x (by simp)), h3, Bx.same h4 (fun y hy => hs y (by simp [hy]))⟩
theorem Bx.ext {base : Nat} {w w' : World} {l : List (Nat × TypeId × List Value)} (h : Bx base w l) (k : Ext w w') : Bx base w' l :=
  h.same fun x hx => k.block x.1 ((h.mem x hx).2.lt)
theorem Bx.only {base c : Nat} {w w' : World} {l : List (Nat × TypeId × List Value)} (h : Bx base w l) (k : Only c w w') (hc : c < base) : Bx base w' l :=
  h.same fun x hx => k.block x.1 ((h.mem x hx).2.lt) (by have := (h.mem x hx).1; simp; omega)
theorem Bx.cons {base : Nat} {w w' : World} {l : List (Nat × TypeId × List Value)} (h : Bx base w l) {b : Nat} {T : TypeId} {cs : List Value} (k : NewBox w w' b T cs.toArray) (hb : base ≤ w.heap.size) : Bx base w' ((b, T, cs) :: l) :=
  ⟨by have := k.at_; show base ≤ b; omega, PBox.of k.box, fun y hy => by have h1 := (h.mem y hy).2.lt; have h2 := k.at_; show y.1 ≠ b; omega, h.ext k.ext⟩
theorem Bx.set {base : Nat} {w w' : World} : ∀ {l : List (Nat × TypeId × List Value)}, Bx base w l → ∀ {i b : Nat} {T : TypeId} {cs cs' : List Value}, l[i]? = some (b, T, cs) → Only b w w' → PBox w' b T cs' → Bx base w' (l.set i (b, T, cs'))
  | x :: l, ⟨h1, h2, h3, h4⟩, 0, b, T, cs, cs', hl, hk, hB => by
    simp at hl; subst hl
    refine ⟨h1, hB, h3, h4.same fun y hy => hk.block y.1 ((h4.mem y hy).2.lt) (by simpa using h3 y hy)⟩
  | x :: l, ⟨h1, h2, h3, h4⟩, i + 1, b, T, cs, cs', hl, hk, hB => by
    have hl' : l[i]? = some (b, T, cs) := by simpa using hl
    have hm : (b, T, cs) ∈ l := List.mem_of_getElem? hl'
    have hne : b ≠ x.1 := h3 _ hm
    refine ⟨h1, h2.same (hk.block x.1 h2.lt (by simpa using fun e => hne e.symm)), fun y hy => ?_, Bx.set h4 hl' hk hB⟩
    rcases List.mem_or_eq_of_mem_set hy with hy | rfl
    · exact h3 y hy
    · exact hne

/-- Where a walk stands: since w0 at most block cc has changed of what was there (none: nothing); it holds a row of choices; and these are the call's own blocks. -/
structure St (cc : Option Nat) (q : CodeRow) (w0 w : World) (l : List (Nat × TypeId × List Value)) : Prop where
  fr : w0.grownBy w cc
  codes : ∀ c, cc = some c → CodesAt q w0 c ∧ CodesAt q w c
  own : Bx w0.heap.size w l
  maps : cc = none → ∀ x ∈ q.maps, w0.heap.size ≤ x.1 ∧ MapAt w x.1 x.2
section
variable {cc : Option Nat} {q : CodeRow} {w0 w w' : World} {l : List (Nat × TypeId × List Value)}
theorem St.start (w : World) : St none default w w [] := ⟨⟨rfl, rfl, rfl, Nat.le_refl _, fun _ _ _ => rfl⟩, (fun c h => by cases h), trivial, fun _ x hx => by cases hx⟩
theorem St.startC {c : Nat} (h : CodesAt q w c) : St (some c) q w w [] := ⟨⟨rfl, rfl, rfl, Nat.le_refl _, fun _ _ _ => rfl⟩, (fun c' e => by cases e; exact ⟨h, h⟩), trivial, fun h => by cases h⟩
theorem St.size (h : St cc q w0 w l) : w0.heap.size ≤ w.heap.size := h.fr.size
theorem St.ext (h : St cc q w0 w l) (k : Ext w w') : St cc q w0 w' l :=
  ⟨⟨k.os.trans h.fr.os, k.tape.trans h.fr.tape, k.output.trans h.fr.output, Nat.le_trans h.fr.size k.size, fun i hi hn => (k.block i (Nat.lt_of_lt_of_le hi h.fr.size)).trans (h.fr.block i hi hn)⟩,
   fun c e => ⟨(h.codes c e).1, (h.codes c e).2.ext k⟩, h.own.ext k, fun e x hx => ⟨(h.maps e x hx).1, (h.maps e x hx).2.same (k.block x.1 (h.maps e x hx).2.lt)⟩⟩
theorem St.draws {c : Nat} (h : St (some c) q w0 w l) (k : Only c w w') (hc : CodesAt q w' c) : St (some c) q w0 w' l :=
  ⟨⟨k.os.trans h.fr.os, k.tape.trans h.fr.tape, k.output.trans h.fr.output, Nat.le_trans h.fr.size k.size, fun i hi hn => (k.block i (Nat.lt_of_lt_of_le hi h.fr.size) hn).trans (h.fr.block i hi hn)⟩,
   fun c' e => by cases e; exact ⟨(h.codes c rfl).1, hc⟩, h.own.only k (h.codes c rfl).1.lt, fun h => by cases h⟩
theorem St.drewN (h : St cc q w0 w l) (n : Nat) : St cc q w0 (w.drewN n) l := h.ext ((Ext.refl w).drewN n)
theorem St.drew (h : St cc q w0 w l) : St cc q w0 w.drew l := h.ext ((Ext.refl w).drew)
theorem St.isExt (h : St none q w0 w l) : Ext w0 w := ⟨h.fr.os, h.fr.tape, h.fr.output, h.fr.size, fun i hi => h.fr.block i hi (by simp)⟩
theorem St.isOnly {c : Nat} (h : St (some c) q w0 w l) : Only c w0 w := h.fr
theorem St.code {c : Nat} (h : St (some c) q w0 w l) : CodesAt q w c := (h.codes c rfl).2
theorem St.code0 {c : Nat} (h : St (some c) q w0 w l) : CodesAt q w0 c := (h.codes c rfl).1
theorem St.box (h : St cc q w0 w l) {i b : Nat} {T : TypeId} {cs : List Value} (hl : l[i]? = some (b, T, cs)) : PBox w b T cs := (h.own.get hl).2
theorem St.ge (h : St cc q w0 w l) {i b : Nat} {T : TypeId} {cs : List Value} (hl : l[i]? = some (b, T, cs)) : w0.heap.size ≤ b := (h.own.get hl).1
theorem St.new (h : St cc q w0 w l) {b : Nat} {T : TypeId} {cs : List Value} (k : NewBox w w' b T cs.toArray) : St cc q w0 w' ((b, T, cs) :: l) :=
  ⟨(h.ext k.ext).fr, (h.ext k.ext).codes, h.own.cons k h.fr.size, (h.ext k.ext).maps⟩
theorem St.set (h : St cc q w0 w l) {i b : Nat} {T : TypeId} {cs cs' : List Value} (hl : l[i]? = some (b, T, cs)) (k : Only b w w') (hB : PBox w' b T cs') : St cc q w0 w' (l.set i (b, T, cs')) :=
  ⟨⟨k.os.trans h.fr.os, k.tape.trans h.fr.tape, k.output.trans h.fr.output, Nat.le_trans h.fr.size k.size, fun i hi hn => (k.block i (Nat.lt_of_lt_of_le hi h.fr.size) (by have := h.ge hl; simp; omega)).trans (h.fr.block i hi hn)⟩,
   fun c e => ⟨(h.codes c e).1, (h.codes c e).1.past (h.codes c e).2 k (h.ge hl)⟩, h.own.set hl k hB, fun e x hx => ⟨(h.maps e x hx).1, (h.maps e x hx).2.same (k.block x.1 (h.maps e x hx).2.lt (fun e2 => (h.maps e x hx).2.ne (h.box hl) (by simpa using e2)))⟩⟩
theorem St.drop (h : St cc q w0 w l) (n : Nat) : St cc q w0 w (l.drop n) :=
  ⟨h.fr, h.codes, by
    have h3 := h.own
    clear h
    induction n generalizing l with
    | zero => exact h3
    | succ n ih =>
      cases l with
      | nil => trivial
      | cons x l => exact ih h3.2.2.2, h.maps⟩
end

/-- The cells from off on. -/
def cellsAt (cs : List Value) (off : Nat) : List Value → Prop
  | [] => True
  | v :: vs => cs[off]? = some v ∧ cellsAt cs (off + 1) vs
theorem cellsAt.get {cs : List Value} : ∀ {vs : List Value} {off : Nat}, cellsAt cs off vs → ∀ j v, vs[j]? = some v → cs[off + j]? = some v
  | v :: vs, off, h, 0, u, hj => by simp at hj; subst hj; exact h.1
  | v :: vs, off, h, j + 1, u, hj => by
    have := cellsAt.get h.2 j u (by simpa using hj)
    rw [show off + (j + 1) = off + 1 + j by omega]; exact this
/-- Values are stored one after the other. -/
def putCells (cs : List Value) (off : Nat) : List Value → List Value
  | [] => cs
  | v :: vs => putCells (cs.set off v) (off + 1) vs
theorem addr_add (b off j : Nat) : (⟨b, off, none⟩ : Addr).add j = ⟨b, off + j, none⟩ := by unfold Addr.add; split <;> simp_all
theorem shape_agg {P : Program} {ty : TypeId} {n : Nat} (h : shapeOf P ty = some (true, n)) (w : World) : (isAgg ty).run P w = .ok true w ∧ (sizeOf ty).run P w = .ok n w := by
  unfold shapeOf at h
  cases hu : P.underlying ty with
  | none => simp [hu] at h
  | some d =>
    cases hi : P.info? ty with
    | none => cases d <;> simp [hu, hi] at h
    | some i =>
      cases d <;> simp [hu, hi] at h <;> (subst h; exact ⟨by simp [isAgg, run_underlying hu], by simp [sizeOf, typeInfo, hi]⟩)
theorem shape_one {P : Program} {ty : TypeId} {n : Nat} (h : shapeOf P ty = some (false, n)) (w : World) : (isAgg ty).run P w = .ok false w ∧ (sizeOf ty).run P w = .ok n w := by
  unfold shapeOf at h
  cases hu : P.underlying ty with
  | none => simp [hu] at h
  | some d =>
    cases hi : P.info? ty with
    | none => cases d <;> simp [hu, hi] at h
    | some i =>
      cases d <;> simp [hu, hi] at h <;> (subst h; exact ⟨by simp [isAgg, run_underlying hu], by simp [sizeOf, typeInfo, hi]⟩)
theorem run_load_box {w : World} {b : Nat} {T : TypeId} {cs : List Value} (hB : PBox w b T cs) {ty : TypeId} {n off : Nat} {v : Value} (hs : shapeOf P ty = some (false, n)) (hv : cs[off]? = some v) :
    (loadVar ty ⟨b, off, none⟩).run P w = .ok v w := by
  have hc := hB.cell hv
  simp [loadVar, (shape_one hs w).1, hc, load, Sem.run]
theorem run_load_agg {w : World} {b : Nat} {T : TypeId} {cs : List Value} (hB : PBox w b T cs) {ty : TypeId} {n off : Nat} {vs : List Value} (hs : shapeOf P ty = some (true, n)) (hn : vs.length = n) (hv : cellsAt cs off vs) :
    (loadVar ty ⟨b, off, none⟩).run P w = .ok (.agg vs.toArray) w := by
  subst hn
  have hl := run_loadCells_list (P := P) w ⟨b, off, none⟩ vs (fun j v hj => by rw [addr_add]; exact hB.cell (hv.get j v hj))
  unfold loadVar
  rw [Sem.run_bind, (shape_agg hs w).1, Result.andThen_ok, if_pos rfl, Sem.run_bind, (shape_agg hs w).2, Result.andThen_ok, Sem.run_bind, hl]
  rfl
theorem run_storeCells_box (b : Nat) (T : TypeId) : ∀ (vs : List Value) (i off : Nat) (cs : List Value) (w : World), PBox w b T cs → off + i + vs.length ≤ cs.length → (∀ v ∈ vs, v.oneCell' = true) →
    ∃ w', (storeCells ⟨b, off, none⟩ vs i).run P w = .ok () w' ∧ PBox w' b T (putCells cs (off + i) vs) ∧ Only b w w' ∧ w'.heap.size = w.heap.size
  | [], i, off, cs, w, hB, _, _ => ⟨w, by simp [storeCells], hB, Only.refl b w, rfl⟩
  | v :: vs, i, off, cs, w, hB, hl, h1 => by
    have hlt : off + i < cs.length := by simp at hl; omega
    have hc : w.cell? ⟨b, off + i, none⟩ = some cs[off + i] := hB.cell (List.getElem?_eq_getElem hlt)
    have hst : (store ((⟨b, off, none⟩ : Addr).add i) v).run P w = .ok () (w.setCell ⟨b, off + i, none⟩ v) := by
      rw [addr_add, run_store P w _ v _ (h1 v (by simp)), hc]
      simp [hB.free]
    have hB2 := hB.setCell (off + i) v
    obtain ⟨w', hr, hB', ho, hz⟩ := run_storeCells_box b T vs (i + 1) off (cs.set (off + i) v) (w.setCell ⟨b, off + i, none⟩ v) hB2 (by simp at hl ⊢; omega) (fun x hx => h1 x (by simp [hx]))
    refine ⟨w', ?_, ?_, (Only.self_setCell b _ w v).trans ho, hz.trans (by simp [World.setCell])⟩
    · simp only [storeCells, Sem.run_bind, hst, Result.andThen_ok, hr]
    · exact hB'

section
variable {cc : Option Nat} {q : CodeRow} {w0 w : World} {l : List (Nat × TypeId × List Value)} {ops : Array Oper} {rest : List Oper} {o : Oper} {a : Act} {Q : Exit → Act → World → Prop}
theorem wpList_wanted (hw : Region.wanted o (yielded ops a.tmps) = true) (h : ∀ K : Act → World → Prop, (∀ a w, wpList P ops Q rest a w → K a w) → o.wp P a w K Q) : wpList P ops Q (o :: rest) a w :=
  wpList_step fun K hK => by rw [if_pos hw]; exact h K hK

theorem is_load {ty : TypeId} {x : Operand} (_ : o.op = .load ty x) (h : wpList P ops Q (o :: rest) a w) : wpList P ops Q (o :: rest) a w := h
theorem is_store {ty : TypeId} {x y : Operand} (_ : o.op = .store ty x y) (h : wpList P ops Q (o :: rest) a w) : wpList P ops Q (o :: rest) a w := h
theorem is_alloc {ty : TypeId} (_ : o.op = .alloc ty) (h : wpList P ops Q (o :: rest) a w) : wpList P ops Q (o :: rest) a w := h
/-- A variable of the call's own. -/
theorem sx_alloc (HS : Hid (St cc q w0 w l)) (hw : Region.wanted o (yielded ops a.tmps) = true) (ty : TypeId) (ho : o.op = .alloc ty) (cs : List Value) (hz : (P.info? ty).bind (·.zero) = some (.agg cs.toArray))
    (h : ∀ w' b, Hid (St cc q w0 w' ((b, ty, cs) :: l)) → wpList P ops Q rest (a.put o.dst (.pointer (some ⟨b, 0, none⟩))) w') : wpList P ops Q (o :: rest) a w :=
  wpList_wanted hw fun _ hK => by
    obtain ⟨z, hzz⟩ : ∃ z, z = Value.agg cs.toArray := ⟨_, rfl⟩
    rw [← hzz] at hz
    have hcs : z.cells = cs.toArray := by rw [hzz]; rfl
    cases hi : P.info? ty with
    | none => simp [hi] at hz
    | some i =>
      have hz' : i.zero = some z := by simpa [hi] using hz
      unfold Oper.wp execOp
      simp only [ho]
      have hr : (Instr.alloc ty true (.tuple #[])).run P w = .ok (.pointer (some ⟨w.heap.size, 0, none⟩)) (w.alloc (.cells z.cells ty)) := by
        simp [Instr.alloc, zeroValue, typeInfo, hi, hz', newVar, newRow]
      simp only [Sem.run_bind, hr, Result.andThen_ok, Sem.run_pure]
      exact hK _ _ (h _ _ (HS.out.new (by have := NewBox.of w ty z.cells; rw [hcs] at this ⊢; exact this)))
/-- A variable of the call's own with a value. -/
theorem sx_box (HS : Hid (St cc q w0 w l)) (hw : Region.wanted o (yielded ops a.tmps) = true) (ty : TypeId) (x : Operand) (ho : o.op = .box ty x) (cs : List Value) (hx : a.eval x = .agg cs.toArray)
    (h : ∀ w' b, Hid (St cc q w0 w' ((b, ty, cs) :: l)) → wpList P ops Q rest (a.put o.dst (.pointer (some ⟨b, 0, none⟩))) w') : wpList P ops Q (o :: rest) a w :=
  wpList_wanted hw fun _ hK => by
    have hcs : (a.eval x).cells = cs.toArray := by rw [hx]; rfl
    unfold Oper.wp execOp
    simp only [ho]
    have hr : (Instr.box ty (a.eval x)).run P w = .ok (.pointer (some ⟨w.heap.size, 0, none⟩)) (w.alloc (.cells (a.eval x).cells ty)) := by
      simp [Instr.box, newVar, newRow]
    simp only [Sem.run_bind, hr, Result.andThen_ok, Sem.run_pure]
    exact hK _ _ (h _ _ (HS.out.new (by have := NewBox.of w ty (a.eval x).cells; rw [hcs] at this ⊢; exact this)))
/-- One cell of a block of the call's own is read. -/
theorem sx_load (HS : Hid (St cc q w0 w l)) (hw : Region.wanted o (yielded ops a.tmps) = true) (ty : TypeId) (x : Operand) (ho : o.op = .load ty x) (i b : Nat) (T : TypeId) (cs : List Value) (hl : l[i]? = some (b, T, cs))
    (off : Nat) (hx : a.eval x = .pointer (some ⟨b, off, none⟩)) (n : Nat) (hs : shapeOf P ty = some (false, n)) (v : Value) (hv : cs[off]? = some v)
    (h : wpList P ops Q rest (a.put o.dst v) w) : wpList P ops Q (o :: rest) a w :=
  wpList_wanted hw fun _ hK => by
    unfold Oper.wp execOp
    simp only [ho, hx, Instr.loadAt, Instr.sureAddr, Sem.run_bind, Sem.run_pure, Result.andThen_ok, run_load_box (P := P) (HS.out.box hl) hs hv]
    exact hK _ _ h
/-- A struct in a block of the call's own is read. -/
theorem sx_loads (HS : Hid (St cc q w0 w l)) (hw : Region.wanted o (yielded ops a.tmps) = true) (ty : TypeId) (x : Operand) (ho : o.op = .load ty x) (i b : Nat) (T : TypeId) (cs : List Value) (hl : l[i]? = some (b, T, cs))
    (off : Nat) (hx : a.eval x = .pointer (some ⟨b, off, none⟩)) (n : Nat) (hs : shapeOf P ty = some (true, n)) (vs : List Value) (hn : vs.length = n) (hv : cellsAt cs off vs)
    (h : wpList P ops Q rest (a.put o.dst (.agg vs.toArray)) w) : wpList P ops Q (o :: rest) a w :=
  wpList_wanted hw fun _ hK => by
    unfold Oper.wp execOp
    simp only [ho, hx, Instr.loadAt, Instr.sureAddr, Sem.run_bind, Sem.run_pure, Result.andThen_ok, run_load_agg (P := P) (HS.out.box hl) hs hn hv]
    exact hK _ _ h
/-- A value of one cell is stored into a block of the call's own. -/
theorem sx_store (HS : Hid (St cc q w0 w l)) (hw : Region.wanted o (yielded ops a.tmps) = true) (ty : TypeId) (x y : Operand) (ho : o.op = .store ty x y) (hd : o.dst = none) (i b : Nat) (T : TypeId) (cs : List Value) (hl : l[i]? = some (b, T, cs))
    (off : Nat) (hx : a.eval x = .pointer (some ⟨b, off, none⟩)) (hs : shapeOf P ty = some (false, 1)) (v : Value) (hy : a.eval y = v) (h1 : v.oneCell' = true) (hoff : Nat.ble (off + 1) cs.length = true)
    (h : ∀ w', Hid (St cc q w0 w' (l.set i (b, T, cs.set off v))) → wpList P ops Q rest a w') : wpList P ops Q (o :: rest) a w :=
  wpList_wanted hw fun _ hK => by
    have hB := HS.out.box hl
    obtain ⟨w', hr, hB', hk, _⟩ := run_storeCells_box (P := P) b T [v] 0 off cs w hB (by have := Nat.le_of_ble_eq_true hoff; simp; omega) (fun u hu => by simp at hu; subst hu; exact h1)
    have hc : v.cells = #[v] := by cases v <;> first | rfl | cases h1
    unfold Oper.wp execOp
    have hrun : (storeVar ty ⟨b, off, none⟩ v).run P w = .ok () w' := by
      unfold storeVar
      rw [Sem.run_bind, (shape_one hs w).2, Result.andThen_ok, hc]
      simp [hr]
    simp only [ho, hx, hy, Instr.storeAt, Instr.sureAddr, Sem.run_bind, Sem.run_pure, Result.andThen_ok, hrun]
    have := hK _ _ (h w' (HS.out.set hl hk hB'))
    simp only [Oper.upon, hd, Act.put]
    exact this
/-- A struct is stored into a block of the call's own. -/
theorem sx_stores (HS : Hid (St cc q w0 w l)) (hw : Region.wanted o (yielded ops a.tmps) = true) (ty : TypeId) (x y : Operand) (ho : o.op = .store ty x y) (hd : o.dst = none) (i b : Nat) (T : TypeId) (cs : List Value) (hl : l[i]? = some (b, T, cs))
    (off : Nat) (hx : a.eval x = .pointer (some ⟨b, off, none⟩)) (n : Nat) (hs : shapeOf P ty = some (true, n)) (vs : List Value) (hy : a.eval y = .agg vs.toArray) (hn : vs.length = n) (h1 : vs.all (·.oneCell') = true) (hoff : Nat.ble (off + n) cs.length = true)
    (h : ∀ w', Hid (St cc q w0 w' (l.set i (b, T, putCells cs off vs))) → wpList P ops Q rest a w') : wpList P ops Q (o :: rest) a w :=
  wpList_wanted hw fun _ hK => by
    have hB := HS.out.box hl
    obtain ⟨w', hr, hB', hk, _⟩ := run_storeCells_box (P := P) b T vs 0 off cs w hB (by have := Nat.le_of_ble_eq_true hoff; omega) (fun u hu => (List.all_eq_true.1 h1) u hu)
    unfold Oper.wp execOp
    have hrun : (storeVar ty ⟨b, off, none⟩ (.agg vs.toArray)).run P w = .ok () w' := by
      unfold storeVar
      rw [Sem.run_bind, (shape_agg hs w).2, Result.andThen_ok]
      simp [Value.cells, hn, hr]
    simp only [ho, hx, hy, Instr.storeAt, Instr.sureAddr, Sem.run_bind, Sem.run_pure, Result.andThen_ok, hrun]
    have := hK _ _ (h w' (HS.out.set hl hk hB'))
    simp only [Oper.upon, hd, Act.put]
    exact this
end

section
variable {cc : Option Nat} {q : CodeRow} {w0 w : World} {l : List (Nat × TypeId × List Value)} {ops : Array Oper} {rest : List Oper} {o : Oper} {a : Act} {Q : Exit → Act → World → Prop}
theorem cellsAt_self : ∀ (pre vs : List Value), cellsAt (pre ++ vs) pre.length vs
  | _, [] => trivial
  | pre, v :: vs => ⟨by simp, by
    have := cellsAt_self (pre ++ [v]) vs
    simpa using this⟩
theorem putCells_all : ∀ (pre old vs : List Value), old.length = vs.length → putCells (pre ++ old) pre.length vs = pre ++ vs
  | _, [], [], _ => rfl
  | pre, o :: old, v :: vs, h => by
    have := putCells_all (pre ++ [v]) old vs (by simpa using h)
    simp only [putCells]
    simpa using this
/-- A whole struct, whatever its size, is stored into its block. -/
theorem sx_store_all (HS : Hid (St cc q w0 w l)) (hw : Region.wanted o (yielded ops a.tmps) = true) (ty : TypeId) (x y : Operand) (ho : o.op = .store ty x y) (hd : o.dst = none) (i b : Nat) (T : TypeId) (cs : List Value) (hl : l[i]? = some (b, T, cs))
    (hx : a.eval x = .pointer (some ⟨b, 0, none⟩)) (cells : List Value) (hy : a.eval y = .agg cells.toArray) (n : Nat) (hs : shapeOf P ty = some (true, n)) (hn : cells.length = n) (hold : cs.length = cells.length) (h1 : cells.all (·.oneCell') = true)
    (h : ∀ w', Hid (St cc q w0 w' (l.set i (b, T, cells))) → wpList P ops Q rest a w') : wpList P ops Q (o :: rest) a w := by
  refine sx_stores HS hw ty x y ho hd i b T cs hl 0 hx n hs cells hy hn h1 (Nat.ble_eq_true_of_le (by omega)) fun w' HS' => h w' ?_
  have e := putCells_all [] cs cells hold
  simp only [List.nil_append, List.length_nil] at e
  rw [e] at HS'
  exact HS'
/-- A whole struct, whatever its size, is read out of its block. -/
theorem sx_load_all (HS : Hid (St cc q w0 w l)) (hw : Region.wanted o (yielded ops a.tmps) = true) (ty : TypeId) (x : Operand) (ho : o.op = .load ty x) (i b : Nat) (T : TypeId) (cs : List Value) (hl : l[i]? = some (b, T, cs))
    (hx : a.eval x = .pointer (some ⟨b, 0, none⟩)) (n : Nat) (hs : shapeOf P ty = some (true, n)) (hn : cs.length = n)
    (h : wpList P ops Q rest (a.put o.dst (.agg cs.toArray)) w) : wpList P ops Q (o :: rest) a w :=
  sx_loads HS hw ty x ho i b T cs hl 0 hx n hs cs hn (by simpa using cellsAt_self [] cs) h
end
section
variable {fn : Func} {tmps : Array Value} {w : World}
theorem results_c {t : Tmp} {ty : TypeId} (h : fn.results = #[.cell t ty]) {ad : Addr} {v : Value} (hp : tmps.getD t undef = .pointer (some ad)) (hl : (loadVar ty ad).run P w = .ok v w) : (results fn tmps).run P w = .ok v w := by
  have hp' : tmps[t]?.getD undef = .pointer (some ad) := by simpa using hp
  simp [results, h, hp', asAddr, hl]
theorem results_ct {t u : Tmp} {ty : TypeId} (h : fn.results = #[.cell t ty, .tmp u]) {ad : Addr} {v x : Value} (hp : tmps.getD t undef = .pointer (some ad)) (hl : (loadVar ty ad).run P w = .ok v w) (hu : tmps.getD u undef = x) : (results fn tmps).run P w = .ok (.tuple #[v, x]) w := by
  have hp' : tmps[t]?.getD undef = .pointer (some ad) := by simpa using hp
  have hu' : tmps[u]?.getD undef = x := by simpa using hu
  simp [results, h, hp', asAddr, hl, hu']
theorem results_ctt {t u u2 : Tmp} {ty : TypeId} (h : fn.results = #[.cell t ty, .tmp u, .tmp u2]) {ad : Addr} {v x y : Value} (hp : tmps.getD t undef = .pointer (some ad)) (hl : (loadVar ty ad).run P w = .ok v w) (hu : tmps.getD u undef = x) (hu2 : tmps.getD u2 undef = y) : (results fn tmps).run P w = .ok (.tuple #[v, x, y]) w := by
  have hp' : tmps[t]?.getD undef = .pointer (some ad) := by simpa using hp
  have hu' : tmps[u]?.getD undef = x := by simpa using hu
  have hu2' : tmps[u2]?.getD undef = y := by simpa using hu2
  simp [results, h, hp', asAddr, hl, hu', hu2']
theorem results_cc {t t2 : Tmp} {ty ty2 : TypeId} (h : fn.results = #[.cell t ty, .cell t2 ty2]) {ad ad2 : Addr} {v x : Value} (hp : tmps.getD t undef = .pointer (some ad)) (hl : (loadVar ty ad).run P w = .ok v w) (hp2 : tmps.getD t2 undef = .pointer (some ad2)) (hl2 : (loadVar ty2 ad2).run P w = .ok x w) : (results fn tmps).run P w = .ok (.tuple #[v, x]) w := by
  have hp' : tmps[t]?.getD undef = .pointer (some ad) := by simpa using hp
  have hp2' : tmps[t2]?.getD undef = .pointer (some ad2) := by simpa using hp2
  simp [results, h, hp', asAddr, hl, hp2', hl2]
end
end
end Go.Proofs.YtnfkplohpjfocaaGreat

namespace Go.Proofs.YtnfkplohpjfocaaGreat
open Go.RowKit
section
variable {P : Program} {ops : Array Oper} {Q : Exit → Act → World → Prop} {a : Act} {w : World} {cc : Option Nat} {q : CodeRow} {w0 : World} {l L : List (Nat × TypeId × List Value)} {fuel : Nat} {listed : Array Bool} {o : Oper}

/-- The class of worlds in which the call's own blocks are these. -/
def InSt (cc : Option Nat) (q : CodeRow) (w0 : World) (l : List (Nat × TypeId × List Value)) : World → Prop := fun w' => St cc q w0 w' l
theorem InSt.of {k : Nat} (HS : Hid (St cc q w0 w L)) (hk : L.drop k = l) : InSt cc q w0 l w := by
  have := HS.out.drop k
  rw [hk] at this
  exact this

theorem hk_begin {id : Nat} (HS : Hid (St cc q w0 w l)) (hm : P.follows .mixedOrders = true)
    (h : ∀ w', Hid (St cc q w0 w' l) → wpAnyH P .any ops Q (InSt cc q w0 l) ops.size (Array.replicate ops.size false) a w') : (Code.region id ops true).wp P Q a w :=
  wp_region_held hm (h _ HS.out.drew)

/-- An operation that yields its value in whatever world. -/
theorem hk_reg (i : Nat) (d : Option Tmp) (hd0 : (ops[i]?).bind (·.dst) = d) (hi : ops[i]? = some o) (hs : Region.noSelect ops = true) (hf : Region.free .any ops listed i = true) (hr : (Region.ready .any ops listed).contains i = true)
    (hQ : ∀ v c a w, Q (.panic c) (a.put o.dst v) w → Q (.panic c) a w) {k : Nat} (HS : Hid (St cc q w0 w L)) (hk : L.drop k = l) (v : Value) (hw : Region.wanted o (yielded ops a.tmps) = true)
    (hrun : ∀ w, (execOp a.eval o).run P w = .ok (.value v) w) (h : wpAnyH P .any ops Q (InSt cc q w0 l) fuel (listed.setIfInBounds i true) (a.put d v) w) : wpAnyH P .any ops Q (InSt cc q w0 l) (fuel + 1) listed a w :=
  have hd : o.dst = d := by rw [hi] at hd0; exact hd0
  wpAnyH_take (v := v) hi hs hf hr (hQ v) (.inl ⟨hw, fun w _ => hrun w⟩) (InSt.of HS hk) (by rw [hd]; exact h)
/-- A struct of the call's own is read. -/
theorem hk_loads (i : Nat) (d : Option Tmp) (hd0 : (ops[i]?).bind (·.dst) = d) (hi : ops[i]? = some o) (hs : Region.noSelect ops = true) (hf : Region.free .any ops listed i = true) (hr : (Region.ready .any ops listed).contains i = true)
    (hQ : ∀ v c a w, Q (.panic c) (a.put o.dst v) w → Q (.panic c) a w) {k : Nat} (HS : Hid (St cc q w0 w L)) (hk : L.drop k = l) (hw : Region.wanted o (yielded ops a.tmps) = true)
    (ty : TypeId) (x : Operand) (ho : o.op = .load ty x) (j b : Nat) (T : TypeId) (cs : List Value) (hl : l[j]? = some (b, T, cs)) (off : Nat) (hx : a.eval x = .pointer (some ⟨b, off, none⟩)) (n : Nat) (hsh : shapeOf P ty = some (true, n)) (vs : List Value) (hn : vs.length = n) (hv : cellsAt cs off vs)
    (h : wpAnyH P .any ops Q (InSt cc q w0 l) fuel (listed.setIfInBounds i true) (a.put d (.agg vs.toArray)) w) : wpAnyH P .any ops Q (InSt cc q w0 l) (fuel + 1) listed a w :=
  have hd : o.dst = d := by rw [hi] at hd0; exact hd0
  wpAnyH_take (v := .agg vs.toArray) hi hs hf hr (hQ _) (.inl ⟨hw, fun w hS => by
    have hB : PBox w b T cs := St.box hS hl
    unfold execOp
    simp only [ho, hx, Instr.loadAt, Instr.sureAddr, Sem.run_bind, Sem.run_pure, Result.andThen_ok, run_load_agg (P := P) hB hsh hn hv]⟩) (InSt.of HS hk) (by rw [hd]; exact h)
theorem hk_load (i : Nat) (d : Option Tmp) (hd0 : (ops[i]?).bind (·.dst) = d) (hi : ops[i]? = some o) (hs : Region.noSelect ops = true) (hf : Region.free .any ops listed i = true) (hr : (Region.ready .any ops listed).contains i = true)
    (hQ : ∀ v c a w, Q (.panic c) (a.put o.dst v) w → Q (.panic c) a w) {k : Nat} (HS : Hid (St cc q w0 w L)) (hk : L.drop k = l) (hw : Region.wanted o (yielded ops a.tmps) = true)
    (ty : TypeId) (x : Operand) (ho : o.op = .load ty x) (j b : Nat) (T : TypeId) (cs : List Value) (hl : l[j]? = some (b, T, cs)) (off : Nat) (hx : a.eval x = .pointer (some ⟨b, off, none⟩)) (n : Nat) (hsh : shapeOf P ty = some (false, n)) (v : Value) (hv : cs[off]? = some v)
    (h : wpAnyH P .any ops Q (InSt cc q w0 l) fuel (listed.setIfInBounds i true) (a.put d v) w) : wpAnyH P .any ops Q (InSt cc q w0 l) (fuel + 1) listed a w :=
  have hd : o.dst = d := by rw [hi] at hd0; exact hd0
  wpAnyH_take (v := v) hi hs hf hr (hQ _) (.inl ⟨hw, fun w hS => by
    have hB : PBox w b T cs := St.box hS hl
    unfold execOp
    simp only [ho, hx, Instr.loadAt, Instr.sureAddr, Sem.run_bind, Sem.run_pure, Result.andThen_ok, run_load_box (P := P) hB hsh hv]⟩) (InSt.of HS hk) (by rw [hd]; exact h)
/-- A large struct of the call's own is read whole. -/
theorem hk_load_all (i : Nat) (d : Option Tmp) (hd0 : (ops[i]?).bind (·.dst) = d) (hi : ops[i]? = some o) (hs : Region.noSelect ops = true) (hf : Region.free .any ops listed i = true) (hr : (Region.ready .any ops listed).contains i = true)
    (hQ : ∀ v c a w, Q (.panic c) (a.put o.dst v) w → Q (.panic c) a w) {k : Nat} (HS : Hid (St cc q w0 w L)) (hk : L.drop k = l) (hw : Region.wanted o (yielded ops a.tmps) = true)
    (ty : TypeId) (x : Operand) (ho : o.op = .load ty x) (j b : Nat) (T : TypeId) (cs : List Value) (hl : l[j]? = some (b, T, cs)) (hx : a.eval x = .pointer (some ⟨b, 0, none⟩)) (n : Nat) (hsh : shapeOf P ty = some (true, n)) (hn : cs.length = n)
    (h : wpAnyH P .any ops Q (InSt cc q w0 l) fuel (listed.setIfInBounds i true) (a.put d (.agg cs.toArray)) w) : wpAnyH P .any ops Q (InSt cc q w0 l) (fuel + 1) listed a w :=
  have hd : o.dst = d := by rw [hi] at hd0; exact hd0
  wpAnyH_take (v := .agg cs.toArray) hi hs hf hr (hQ _) (.inl ⟨hw, fun w hS => by
    have hB : PBox w b T cs := St.box hS hl
    unfold execOp
    simp only [ho, hx, Instr.loadAt, Instr.sureAddr, Sem.run_bind, Sem.run_pure, Result.andThen_ok, run_load_agg (P := P) hB hsh hn (by simpa using cellsAt_self [] cs)]⟩) (InSt.of HS hk) (by rw [hd]; exact h)

/-- What is to be shown of an operation that comes up, and of what follows. -/
def HkX (P : Program) (ops : Array Oper) (Q : Exit → Act → World → Prop) (S : World → Prop) (fuel : Nat) (listed : Array Bool) (a : Act) (w : World) (i : Nat) : Prop :=
  ∃ o, ops[i]? = some o ∧ Region.wanted o (yielded ops a.tmps) = true ∧ o.wp P a w (fun a' w' => S w' ∧ wpAnyH P .any ops Q S fuel (listed.setIfInBounds i true) a' w') Q
theorem HkX.wpOp {S : World → Prop} {i : Nat} (h : HkX P ops Q S fuel listed a w i) : wpOp P ops Q i (fun a' w' => S w' ∧ wpAnyH P .any ops Q S fuel (listed.setIfInBounds i true) a' w') a w := by
  obtain ⟨o, ho, hw, h⟩ := h
  unfold Go.wpOp
  simp only [ho, hw, if_true]
  exact .inl h
theorem hk_x1 {S : World → Prop} (i : Nat) (hr : Region.ready .any ops listed = [i]) (h : HkX P ops Q S fuel listed a w i) : wpAnyH P .any ops Q S (fuel + 1) listed a w :=
  wpAnyH_all hr (by simp) fun j hj => by simp at hj; subst hj; exact h.wpOp
theorem hk_x2 {S : World → Prop} (i j : Nat) (hr : Region.ready .any ops listed = [i, j]) (h : HkX P ops Q S fuel listed a w i) (h2 : HkX P ops Q S fuel listed a w j) : wpAnyH P .any ops Q S (fuel + 1) listed a w :=
  wpAnyH_all hr (by simp) fun k hk => by
    simp at hk
    rcases hk with rfl | rfl
    · exact h.wpOp
    · exact h2.wpOp
theorem hk_call (i : Nat) (d : Option Tmp) (hd0 : (ops[i]?).bind (·.dst) = d) (hi : ops[i]? = some o) (hw : Region.wanted o (yielded ops a.tmps) = true) {k : Nat} (HS : Hid (St cc q w0 w L)) (hk : L.drop k = l) (f : FuncId) (as : List Operand) (ts : Array TypeId)
    (ho : o.op = .call { callee := .value (.func f), args := as.toArray, argTypes := ts }) {fn : Func} (hf : P.funcs[f]? = some fn) (hname : (fn.name == "runtime.NumGoroutine") = false) {c : Code} (hb : fn.body = some c)
    (al : List Value) (v : Value) (hc : Calls P f al.toArray w (fun e w' => e = .returned v ∧ Ext w w')) (hargs : as.map a.eval = al)
    (h : ∀ w', Hid (St cc q w0 w' L) → wpAnyH P .any ops Q (InSt cc q w0 l) fuel (listed.setIfInBounds i true) (a.put d v) w') : HkX P ops Q (InSt cc q w0 l) fuel listed a w i := by
  have hd : o.dst = d := by rw [hi] at hd0; exact hd0
  refine ⟨o, hi, hw, ?_⟩
  unfold Oper.wp execOp
  have hrun : (callFunc f al.toArray).run P w = .ok (.enter f al.toArray) w := by
    have h1 : fn.name ≠ "runtime.NumGoroutine" := by simpa using hname
    simp [callFunc, hf, h1, hb]
  have hfv : a.eval (.func f) = .func (.func f) #[] #[] := rfl
  have hm : as.toArray.map a.eval = al.toArray := by rw [List.map_toArray, hargs]
  simp only [ho, resolve, Deferred.ofValue, invoke, hfv, hm, Sem.run_bind, Sem.run_pure, Result.andThen_ok, Array.empty_append, Array.append_empty, hrun, Oper.upon]
  refine hc.mono fun e w' he => ?_
  obtain ⟨rfl, hx⟩ := he
  have HS' : Hid (St cc q w0 w' L) := HS.out.ext hx
  rw [hd]
  exact ⟨InSt.of HS' hk, h w' HS'⟩
theorem hk_alloc (i : Nat) (d : Option Tmp) (hd0 : (ops[i]?).bind (·.dst) = d) (hi : ops[i]? = some o) (hw : Region.wanted o (yielded ops a.tmps) = true) {k : Nat} (HS : Hid (St cc q w0 w L)) (hk : L.drop k = l) (ty : TypeId) (ho : o.op = .alloc ty) (cs : List Value) (hz : (P.info? ty).bind (·.zero) = some (.agg cs.toArray))
    (h : ∀ w' b, Hid (St cc q w0 w' ((b, ty, cs) :: L)) → wpAnyH P .any ops Q (InSt cc q w0 l) fuel (listed.setIfInBounds i true) (a.put d (.pointer (some ⟨b, 0, none⟩))) w') : HkX P ops Q (InSt cc q w0 l) fuel listed a w i := by
  have hd : o.dst = d := by rw [hi] at hd0; exact hd0
  refine ⟨o, hi, hw, ?_⟩
  obtain ⟨z, hzz⟩ : ∃ z, z = Value.agg cs.toArray := ⟨_, rfl⟩
  rw [← hzz] at hz
  have hcs : z.cells = cs.toArray := by rw [hzz]; rfl
  cases hinf : P.info? ty with
  | none => simp [hinf] at hz
  | some inf =>
    have hz' : inf.zero = some z := by simpa [hinf] using hz
    unfold Oper.wp execOp
    have hr : (Instr.alloc ty true (.tuple #[])).run P w = .ok (.pointer (some ⟨w.heap.size, 0, none⟩)) (w.alloc (.cells z.cells ty)) := by
      simp [Instr.alloc, zeroValue, typeInfo, hinf, hz', newVar, newRow]
    simp only [ho, Sem.run_bind, hr, Result.andThen_ok, Sem.run_pure, Oper.upon]
    have HS' : Hid (St cc q w0 (w.alloc (.cells z.cells ty)) ((w.heap.size, ty, cs) :: L)) := HS.out.new (by have := NewBox.of w ty z.cells; rw [hcs] at this ⊢; exact this)
    rw [hd]
    exact ⟨InSt.of (k := k + 1) HS' (by simpa using hk), h _ _ HS'⟩
/-- A whole struct goes into a new variable. -/
theorem hk_store_all (i : Nat) (hi : ops[i]? = some o) (hw : Region.wanted o (yielded ops a.tmps) = true) {k : Nat} (HS : Hid (St cc q w0 w L)) (hk : L.drop k = l) (ty : TypeId) (x y : Operand) (ho : o.op = .store ty x y) (hd : o.dst = none) (j b : Nat) (T : TypeId) (cs : List Value) (hl : L[j]? = some (b, T, cs)) (hjk : j < k)
    (hx : a.eval x = .pointer (some ⟨b, 0, none⟩)) (cells : List Value) (hy : a.eval y = .agg cells.toArray) (n : Nat) (hsh : shapeOf P ty = some (true, n)) (hn : cells.length = n) (hold : cs.length = cells.length) (h1 : cells.all (·.oneCell') = true)
    (h : ∀ w', Hid (St cc q w0 w' (L.set j (b, T, cells))) → wpAnyH P .any ops Q (InSt cc q w0 l) fuel (listed.setIfInBounds i true) a w') : HkX P ops Q (InSt cc q w0 l) fuel listed a w i := by
  refine ⟨o, hi, hw, ?_⟩
  have hB := HS.out.box hl
  obtain ⟨w', hr, hB', hko, _⟩ := run_storeCells_box (P := P) b T cells 0 0 cs w hB (by omega) (fun u hu => (List.all_eq_true.1 h1) u hu)
  have e := putCells_all [] cs cells hold
  simp only [List.nil_append, List.length_nil] at e
  simp only [Nat.add_zero, e] at hB'
  have HS' : Hid (St cc q w0 w' (L.set j (b, T, cells))) := HS.out.set hl hko hB'
  unfold Oper.wp execOp
  have hrun : (storeVar ty ⟨b, 0, none⟩ (.agg cells.toArray)).run P w = .ok () w' := by
    unfold storeVar
    rw [Sem.run_bind, (shape_agg hsh w).2, Result.andThen_ok]
    simp [Value.cells, hn, hr]
  simp only [ho, hx, hy, Instr.storeAt, Instr.sureAddr, Sem.run_bind, Sem.run_pure, Result.andThen_ok, hrun, Oper.upon, hd, Act.put]
  exact ⟨InSt.of (k := k) HS' (by rw [List.drop_set_of_lt hjk]; exact hk), h _ HS'⟩
theorem run_binop {op : BinOp} {T T2 : TypeId} {x y : Operand} (ho : o.op = .binOp op T x y T2) {u v r : Value} (hx : a.eval x = u) (hy : a.eval y = v) (hg : (eqGuard op T x y u v).run P w = .ok () w) (hb : (binOp op T u v).run P w = .ok r w) : (execOp a.eval o).run P w = .ok (.value r) w := by
  unfold execOp
  simp only [ho, hx, hy, Sem.run_bind, hg, hb, Result.andThen_ok, Sem.run_pure]
theorem hk_done {S : World → Prop} (hr : Region.ready .any ops listed = []) (h : Q .normal a w) : wpAnyH P .any ops Q S fuel listed a w := wpAnyH_done hr h fuel
theorem St.set1 {b : Nat} {T : TypeId} {cs : List Value} (h : St cc q w0 w l) {i : Nat} (hl : l[i]? = some (b, T, cs)) (off : Nat) (v : Value) : St cc q w0 (w.setCell ⟨b, off, none⟩ v) (l.set i (b, T, cs.set off v)) :=
  h.set hl (Only.self_setCell b off w v) ((h.box hl).setCell off v)
end
end Go.Proofs.YtnfkplohpjfocaaGreat

namespace Go.Proofs.YtnfkplohpjfocaaGreat
open Go.RowKit
section
variable {base : Nat} {w : World} {l : List (Nat × TypeId × List Value)}
theorem Bx_iff : ∀ {l : List (Nat × TypeId × List Value)}, Bx base w l ↔ (∀ x ∈ l, base ≤ x.1 ∧ PBox w x.1 x.2.1 x.2.2) ∧ l.Pairwise (fun x y => y.1 ≠ x.1)
  | [] => by simp [Bx]
  | x :: l => by
    simp only [Bx, Bx_iff (l := l), List.mem_cons, forall_eq_or_imp, List.pairwise_cons]
    constructor
    · rintro ⟨h1, h2, h3, h4, h5⟩
      exact ⟨⟨⟨h1, h2⟩, h4⟩, h3, h5⟩
    · rintro ⟨⟨⟨h1, h2⟩, h4⟩, h3, h5⟩
      exact ⟨h1, h2, h3, h4, h5⟩
end
section
variable {cc : Option Nat} {q : CodeRow} {w0 w w' : World} {l L lr front : List (Nat × TypeId × List Value)} {E : TypeId} {size n m : Nat} {v v' : Value} {xs news : List Value}
theorem St.sub (h : St cc q w0 w L) (hs : l.Sublist L) : St cc q w0 w l :=
  ⟨h.fr, h.codes, Bx_iff.2 ⟨fun x hx => (Bx_iff.1 h.own).1 x (hs.subset hx), (Bx_iff.1 h.own).2.sublist hs⟩, h.maps⟩
/-- A row of the call's own: nothing yet, or one entry. -/
def RowEnt (E : TypeId) (size : Nat) (lr : List (Nat × TypeId × List Value)) (v : Value) (n : Nat) (xs : List Value) : Prop :=
  xs.length = n * size ∧ ((lr = [] ∧ v = .slice none 0 0 ∧ n = 0) ∨ ∃ g cap junk, lr = [(g, E, xs ++ junk)] ∧ v = .slice (some ⟨g, 0, none⟩) n cap ∧ n ≤ cap ∧ cap ≤ maxLen ∧ (xs ++ junk).length = cap * size)
theorem RowEnt.nil : RowEnt E size [] (.slice none 0 0) 0 [] := ⟨by simp, .inl ⟨rfl, rfl, rfl⟩⟩
theorem RowEnt.pos (h : RowEnt E size lr v n xs) (hn : 0 < n) : ∃ g cap junk, lr = [(g, E, xs ++ junk)] ∧ v = .slice (some ⟨g, 0, none⟩) n cap ∧ n ≤ cap ∧ cap ≤ maxLen := by
  rcases h.2 with ⟨_, _, h3⟩ | ⟨g, cap, junk, h1, h2, h3, h4, _⟩
  · omega
  · exact ⟨g, cap, junk, h1, h2, h3, h4⟩
theorem RowEnt.owns (h : St cc q w0 w (front ++ (lr ++ l))) (hr : RowEnt E size lr v n xs) : w.ownsRow w0.heap.size E size v n xs := by
  refine ⟨hr.1, ?_⟩
  rcases hr.2 with ⟨_, h2, h3⟩ | ⟨g, cap, junk, rfl, rfl, h1, h2, h3⟩
  · exact .inl ⟨h2, h3⟩
  · have hb := (Bx_iff.1 h.own).1 (g, E, xs ++ junk) (by simp)
    refine .inr ⟨g, cap, (xs ++ junk).toArray, rfl, hb.1, hb.2, h1, h2, by simpa using h3, ?_⟩
    rw [← hr.1]
    simp
theorem St.append (h : St cc q w0 w (front ++ (lr ++ l))) (hr : RowEnt E size lr v n xs) (hown : w'.ownsRow w0.heap.size E size v' (n + m) (xs ++ news)) (hg : w.grownBy w' v.ownBlock) (hat : v'.ownBlock = v.ownBlock ∨ v'.ownBlock = some w.heap.size) :
    ∃ lr', St cc q w0 w' (front ++ (lr' ++ l)) ∧ RowEnt E size lr' v' (n + m) (xs ++ news) := by
  obtain ⟨hm, hp⟩ := Bx_iff.1 h.own
  have hsz := h.size
  have hge : ∀ g, v.ownBlock = some g → w0.heap.size ≤ g ∧ ∀ x ∈ front ++ l, x.1 ≠ g := by
    intro g hv
    rcases hr.2 with ⟨_, rfl, _⟩ | ⟨g', cap, junk, rfl, rfl, _⟩
    · simp [Value.ownBlock] at hv
    · simp [Value.ownBlock] at hv
      subst hv
      refine ⟨(hm (g', E, xs ++ junk) (by simp)).1, ?_⟩
      intro x hx
      simp only [List.pairwise_append, List.pairwise_cons, List.mem_append, List.mem_cons, List.not_mem_nil, or_false, List.singleton_append] at hp
      rcases List.mem_append.1 hx with hx | hx
      · exact fun e => hp.2.2 x hx _ (.inl rfl) e.symm
      · exact hp.2.1.1 x hx
  have hfr : w0.grownBy w' cc := ⟨hg.os.trans h.fr.os, hg.tape.trans h.fr.tape, hg.output.trans h.fr.output, Nat.le_trans h.fr.size hg.size, fun i hi hn => (hg.block i (Nat.lt_of_lt_of_le hi h.fr.size) (fun e => by have := (hge i e.symm).1; omega)).trans (h.fr.block i hi hn)⟩
  have hcd : ∀ c, cc = some c → CodesAt q w0 c ∧ CodesAt q w' c := fun c e => ⟨(h.codes c e).1, (h.codes c e).1.kept (h.codes c e).2 hg (fun i hi => (hge i hi).1)⟩
  have hmaps : cc = none → ∀ x ∈ q.maps, w0.heap.size ≤ x.1 ∧ MapAt w' x.1 x.2 := fun e x hx => by
    have hx' := h.maps e x hx
    refine ⟨hx'.1, hx'.2.same (hg.block x.1 hx'.2.lt (fun e2 => ?_))⟩
    rcases hr.2 with ⟨_, rfl, _⟩ | ⟨g', cap, junk, rfl, rfl, _⟩
    · simp [Value.ownBlock] at e2
    · simp [Value.ownBlock] at e2
      exact hx'.2.ne (hm (g', E, xs ++ junk) (by simp)).2 e2
  have hold : ∀ x ∈ front ++ l, w0.heap.size ≤ x.1 ∧ PBox w' x.1 x.2.1 x.2.2 := fun x hx => by
    have hx' := hm x (by simp only [List.mem_append] at hx ⊢; rcases hx with hx | hx <;> simp [hx])
    exact ⟨hx'.1, hx'.2.same (hg.block x.1 hx'.2.lt (fun e => (hge x.1 e.symm).2 x hx rfl))⟩
  have hlt : ∀ x ∈ front ++ l, x.1 < w.heap.size := fun x hx => (hm x (by simp only [List.mem_append] at hx ⊢; rcases hx with hx | hx <;> simp [hx])).2.lt
  have hpo : (front ++ l).Pairwise (fun x y => y.1 ≠ x.1) := by
    refine hp.sublist ?_
    exact List.Sublist.append_left (List.sublist_append_right lr l) front
  rcases hown.2 with ⟨hv, hn⟩ | ⟨g, cap, cur, hv, hb, hgg, h1, h2, h3, h4⟩
  · exact ⟨[], ⟨hfr, hcd, Bx_iff.2 ⟨by simpa using hold, by simpa using hpo⟩, hmaps⟩, hown.1, .inl ⟨rfl, hv, hn⟩⟩
  · have hne : ∀ x ∈ front ++ l, x.1 ≠ g := fun x hx => by
      rw [hv] at hat
      rcases hat with e | e
      · exact (hge g (by rw [← e]; rfl)).2 x hx
      · have := hlt x hx
        simp [Value.ownBlock] at e
        omega
    have hcur : cur.toList = (xs ++ news) ++ cur.toList.drop ((n + m) * size) := by rw [← h4, List.take_append_drop]
    refine ⟨[(g, E, (xs ++ news) ++ cur.toList.drop ((n + m) * size))], ⟨hfr, hcd, Bx_iff.2 ⟨?_, ?_⟩, hmaps⟩, hown.1, .inr ⟨g, cap, _, rfl, hv, h1, h2, ?_⟩⟩
    · intro x hx
      simp only [List.mem_append, List.mem_singleton] at hx
      rcases hx with hx | rfl | hx
      · exact hold x (by simp [hx])
      · refine ⟨hb, ?_⟩
        unfold PBox
        rw [← hcur]
        simpa using hgg
      · exact hold x (by simp [hx])
    · rw [List.pairwise_append] at hpo ⊢
      refine ⟨hpo.1, ?_, ?_⟩
      · simp only [List.singleton_append, List.pairwise_cons]
        exact ⟨fun y hy => hne y (by simp [hy]), hpo.2.1⟩
      · intro x hx y hy
        simp only [List.singleton_append, List.mem_cons] at hy
        rcases hy with rfl | hy
        · exact fun e => hne x (by simp [hx]) e.symm
        · exact hpo.2.2 x hx y hy
    · rw [← hcur, Array.length_toList, h3]
end
section
variable {P : Program} {ops : Array Oper} {Q : Exit → Act → World → Prop} {a : Act} {w : World} {cc : Option Nat} {q : CodeRow} {w0 : World} {l L : List (Nat × TypeId × List Value)} {fuel : Nat} {listed : Array Bool} {o : Oper}
theorem hg_begin (l : List (Nat × TypeId × List Value)) {id : Nat} (HS : Hid (St cc q w0 w L)) (hm : P.follows .mixedOrders = true)
    (h : ∀ w', Hid (St cc q w0 w' L) → wpAnyH P .any ops Q (InSt cc q w0 l) ops.size (Array.replicate ops.size false) a w') : (Code.region id ops true).wp P Q a w :=
  wp_region_held hm (h _ HS.out.drew)
/-- An operation that yields its value in whatever world. -/
theorem hg_reg (i : Nat) (d : Option Tmp) (hd0 : (ops[i]?).bind (·.dst) = d) (hi : ops[i]? = some o) (hs : Region.noSelect ops = true) (hf : Region.free .any ops listed i = true) (hr : (Region.ready .any ops listed).contains i = true)
    (hQ : ∀ v c a w, Q (.panic c) (a.put o.dst v) w → Q (.panic c) a w) (HS : Hid (St cc q w0 w L)) (hk : l.Sublist L) (v : Value) (hw : Region.wanted o (yielded ops a.tmps) = true)
    (hrun : ∀ w, (execOp a.eval o).run P w = .ok (.value v) w) (h : wpAnyH P .any ops Q (InSt cc q w0 l) fuel (listed.setIfInBounds i true) (a.put d v) w) : wpAnyH P .any ops Q (InSt cc q w0 l) (fuel + 1) listed a w :=
  have hd : o.dst = d := by rw [hi] at hd0; exact hd0
  wpAnyH_take (v := v) hi hs hf hr (hQ v) (.inl ⟨hw, fun w _ => hrun w⟩) (HS.out.sub hk) (by rw [hd]; exact h)
/-- A struct of the call's own is read. -/
theorem hg_loads (i : Nat) (d : Option Tmp) (hd0 : (ops[i]?).bind (·.dst) = d) (hi : ops[i]? = some o) (hs : Region.noSelect ops = true) (hf : Region.free .any ops listed i = true) (hr : (Region.ready .any ops listed).contains i = true)
    (hQ : ∀ v c a w, Q (.panic c) (a.put o.dst v) w → Q (.panic c) a w) (HS : Hid (St cc q w0 w L)) (hk : l.Sublist L) (hw : Region.wanted o (yielded ops a.tmps) = true)
    (ty : TypeId) (x : Operand) (ho : o.op = .load ty x) (j b : Nat) (T : TypeId) (cs : List Value) (hl : l[j]? = some (b, T, cs)) (off : Nat) (hx : a.eval x = .pointer (some ⟨b, off, none⟩)) (n : Nat) (hsh : shapeOf P ty = some (true, n)) (vs : List Value) (hn : vs.length = n) (hv : cellsAt cs off vs)
    (h : wpAnyH P .any ops Q (InSt cc q w0 l) fuel (listed.setIfInBounds i true) (a.put d (.agg vs.toArray)) w) : wpAnyH P .any ops Q (InSt cc q w0 l) (fuel + 1) listed a w :=
  have hd : o.dst = d := by rw [hi] at hd0; exact hd0
  wpAnyH_take (v := .agg vs.toArray) hi hs hf hr (hQ _) (.inl ⟨hw, fun w hS => by
    have hB : PBox w b T cs := St.box hS hl
    unfold execOp
    simp only [ho, hx, Instr.loadAt, Instr.sureAddr, Sem.run_bind, Sem.run_pure, Result.andThen_ok, run_load_agg (P := P) hB hsh hn hv]⟩) (HS.out.sub hk) (by rw [hd]; exact h)
/-- A call that leaves the call's own blocks as they are. -/
theorem hg_call (i : Nat) (d : Option Tmp) (hd0 : (ops[i]?).bind (·.dst) = d) (hi : ops[i]? = some o) (hw : Region.wanted o (yielded ops a.tmps) = true) (_HS : Hid (St cc q w0 w L)) (hk : l.Sublist L) (f : FuncId) (as : List Operand) (ts : Array TypeId)
    (ho : o.op = .call { callee := .value (.func f), args := as.toArray, argTypes := ts }) {fn : Func} (hf : P.funcs[f]? = some fn) (hname : (fn.name == "runtime.NumGoroutine") = false) {c : Code} (hb : fn.body = some c)
    (al : List Value) (R : Value → Prop) (hc : Calls P f al.toArray w (fun e w' => ∃ v, e = .returned v ∧ R v ∧ St cc q w0 w' L)) (hargs : as.map a.eval = al)
    (h : ∀ v w', R v → Hid (St cc q w0 w' L) → wpAnyH P .any ops Q (InSt cc q w0 l) fuel (listed.setIfInBounds i true) (a.put d v) w') : HkX P ops Q (InSt cc q w0 l) fuel listed a w i := by
  have hd : o.dst = d := by rw [hi] at hd0; exact hd0
  refine ⟨o, hi, hw, ?_⟩
  unfold Oper.wp execOp
  have hrun : (callFunc f al.toArray).run P w = .ok (.enter f al.toArray) w := by
    have h1 : fn.name ≠ "runtime.NumGoroutine" := by simpa using hname
    simp [callFunc, hf, h1, hb]
  have hfv : a.eval (.func f) = .func (.func f) #[] #[] := rfl
  have hm : as.toArray.map a.eval = al.toArray := by rw [List.map_toArray, hargs]
  simp only [ho, resolve, Deferred.ofValue, invoke, hfv, hm, Sem.run_bind, Sem.run_pure, Result.andThen_ok, Array.empty_append, Array.append_empty, hrun, Oper.upon]
  refine hc.mono fun e w' he => ?_
  obtain ⟨v, rfl, hv, hx⟩ := he
  rw [hd]
  exact ⟨St.sub hx hk, h v w' hv hx⟩
theorem hg_alloc (i : Nat) (d : Option Tmp) (hd0 : (ops[i]?).bind (·.dst) = d) (hi : ops[i]? = some o) (hw : Region.wanted o (yielded ops a.tmps) = true) (HS : Hid (St cc q w0 w L)) (hk : l.Sublist L) (ty : TypeId) (ho : o.op = .alloc ty) (cs : List Value) (hz : (P.info? ty).bind (·.zero) = some (.agg cs.toArray))
    (h : ∀ w' b, Hid (St cc q w0 w' ((b, ty, cs) :: L)) → wpAnyH P .any ops Q (InSt cc q w0 l) fuel (listed.setIfInBounds i true) (a.put d (.pointer (some ⟨b, 0, none⟩))) w') : HkX P ops Q (InSt cc q w0 l) fuel listed a w i := by
  have hd : o.dst = d := by rw [hi] at hd0; exact hd0
  refine ⟨o, hi, hw, ?_⟩
  obtain ⟨z, hzz⟩ : ∃ z, z = Value.agg cs.toArray := ⟨_, rfl⟩
  rw [← hzz] at hz
  have hcs : z.cells = cs.toArray := by rw [hzz]; rfl
  cases hinf : P.info? ty with
  | none => simp [hinf] at hz
  | some inf =>
    have hz' : inf.zero = some z := by simpa [hinf] using hz
    unfold Oper.wp execOp
    have hr : (Instr.alloc ty true (.tuple #[])).run P w = .ok (.pointer (some ⟨w.heap.size, 0, none⟩)) (w.alloc (.cells z.cells ty)) := by
      simp [Instr.alloc, zeroValue, typeInfo, hinf, hz', newVar, newRow]
    simp only [ho, Sem.run_bind, hr, Result.andThen_ok, Sem.run_pure, Oper.upon]
    have HS' : Hid (St cc q w0 (w.alloc (.cells z.cells ty)) ((w.heap.size, ty, cs) :: L)) := HS.out.new (by have := NewBox.of w ty z.cells; rw [hcs] at this ⊢; exact this)
    rw [hd]
    exact ⟨HS'.out.sub (hk.cons _), h _ _ HS'⟩
/-- A struct goes into a block of the call's own that the region does not read. -/
theorem hg_stores (i : Nat) (hi : ops[i]? = some o) (hw : Region.wanted o (yielded ops a.tmps) = true) (HS : Hid (St cc q w0 w L)) (ty : TypeId) (x y : Operand) (ho : o.op = .store ty x y) (hd : o.dst = none) (j b : Nat) (T : TypeId) (cs : List Value) (hl : L[j]? = some (b, T, cs))
    (off : Nat) (hx : a.eval x = .pointer (some ⟨b, off, none⟩)) (cells : List Value) (hy : a.eval y = .agg cells.toArray) (n : Nat) (hsh : shapeOf P ty = some (true, n)) (hn : cells.length = n) (hoff : Nat.ble (off + n) cs.length = true) (h1 : cells.all (·.oneCell') = true) (hk : l.Sublist (L.set j (b, T, putCells cs off cells)))
    (h : ∀ w', Hid (St cc q w0 w' (L.set j (b, T, putCells cs off cells))) → wpAnyH P .any ops Q (InSt cc q w0 l) fuel (listed.setIfInBounds i true) a w') : HkX P ops Q (InSt cc q w0 l) fuel listed a w i := by
  refine ⟨o, hi, hw, ?_⟩
  have hB := HS.out.box hl
  obtain ⟨w', hr, hB', hko, _⟩ := run_storeCells_box (P := P) b T cells 0 off cs w hB (by have := Nat.le_of_ble_eq_true hoff; omega) (fun u hu => (List.all_eq_true.1 h1) u hu)
  simp only [Nat.add_zero] at hB'
  have HS' : Hid (St cc q w0 w' (L.set j (b, T, putCells cs off cells))) := HS.out.set hl hko hB'
  unfold Oper.wp execOp
  have hrun : (storeVar ty ⟨b, off, none⟩ (.agg cells.toArray)).run P w = .ok () w' := by
    unfold storeVar
    rw [Sem.run_bind, (shape_agg hsh w).2, Result.andThen_ok]
    simp [Value.cells, hn, hr]
  simp only [ho, hx, hy, Instr.storeAt, Instr.sureAddr, Sem.run_bind, Sem.run_pure, Result.andThen_ok, hrun, Oper.upon, hd, Act.put]
  exact ⟨HS'.out.sub hk, h _ HS'⟩
/-- A slice of literal parts. -/
theorem hg_build (i : Nat) (d : Option Tmp) (hd0 : (ops[i]?).bind (·.dst) = d) (hi : ops[i]? = some o) (hw : Region.wanted o (yielded ops a.tmps) = true) (HS : Hid (St cc q w0 w L)) (hk : l.Sublist L) (t E : TypeId) (len : Nat) (parts : List (Nat × Operand)) (ho : o.op = .buildSlice t len parts.toArray) (pl : List (Nat × Value)) (hpl : (parts.map fun x => (x.1, a.eval x.2)) = pl) (cs : List Value)
    (hrun : ∀ w : World, (Instr.buildSlice t len pl.toArray).run P w = .ok (.slice (some ⟨w.heap.size, 0, none⟩) len len) (w.alloc (.cells cs.toArray E)))
    (h : ∀ w' b, Hid (St cc q w0 w' ((b, E, cs) :: L)) → wpAnyH P .any ops Q (InSt cc q w0 l) fuel (listed.setIfInBounds i true) (a.put d (.slice (some ⟨b, 0, none⟩) len len)) w') : HkX P ops Q (InSt cc q w0 l) fuel listed a w i := by
  have hd : o.dst = d := by rw [hi] at hd0; exact hd0
  refine ⟨o, hi, hw, ?_⟩
  unfold Oper.wp execOp
  have HS' : Hid (St cc q w0 (w.alloc (.cells cs.toArray E)) ((w.heap.size, E, cs) :: L)) := HS.out.new (NewBox.of w E cs.toArray)
  have hm : (parts.toArray.map fun x => (x.1, a.eval x.2)) = pl.toArray := by rw [List.map_toArray, hpl]
  have hr := hrun w
  simp only [ho, hm, Sem.run_bind, hr, Result.andThen_ok, Sem.run_pure, Oper.upon]
  rw [hd]
  exact ⟨HS'.out.sub (hk.cons _), h _ _ HS'⟩
/-- A slice of the call's own grows by what another block of its own holds. -/
theorem hg_append (i : Nat) (d : Option Tmp) (hd0 : (ops[i]?).bind (·.dst) = d) (hi : ops[i]? = some o) (hw : Region.wanted o (yielded ops a.tmps) = true) {front lr ll : List (Nat × TypeId × List Value)} (HS : Hid (St cc q w0 w (front ++ (lr ++ ll)))) (hk : ∀ lr' : List (Nat × TypeId × List Value), l.Sublist (front ++ (lr' ++ ll)))
    (s x : Operand) (t : TypeId) (ho : o.op = .call { callee := .builtin .append, args := #[s, x], argTypes := #[t, t] })
    (E : TypeId) (ie : TypeInfo) (z : Value) (size bytes : Nat) (ht : P.underlying t = some (.slice E)) (hie : P.info? E = some ie) (hz : ie.zero = some z) (hsize : ie.size = size) (hby : ie.bytes = bytes) (hzs : z.cells.size = size) (hsz : 0 < size)
    (v : Value) (n : Nat) (xs : List Value) (hs : a.eval s = v) (hr : RowEnt E size lr v n xs) (j b m : Nat) (T : TypeId) (c : Nat) (news : List Value) (hl : (front ++ (lr ++ ll))[j]? = some (b, T, news)) (hx : a.eval x = .slice (some ⟨b, 0, none⟩) m c) (hlen : news.length = m * size) (h1 : news.all (·.oneCell') = true)
    (h63 : n + m ≤ maxLen) (hbytes : (n + m) * bytes ≤ 140737488355328)
    (h : ∀ v' w' lr', Hid (St cc q w0 w' (front ++ (lr' ++ ll))) → Hid (RowEnt E size lr' v' (n + m) (xs ++ news)) → wpAnyH P .any ops Q (InSt cc q w0 l) fuel (listed.setIfInBounds i true) (a.put d v') w') : HkX P ops Q (InSt cc q w0 l) fuel listed a w i := by
  have hd : o.dst = d := by rw [hi] at hd0; exact hd0
  refine ⟨o, hi, hw, ?_⟩
  have hB := HS.out.box hl
  obtain ⟨v', w', hrun, h2, h3, _, h5⟩ := run_append_own_at (P := P) w w0.heap.size t o.type E ie z size bytes ht hie hz hsize hby hzs hsz v n xs (RowEnt.owns HS.out hr) ⟨b, 0, none⟩ m c news hlen (fun j u hj => by rw [addr_add]; exact hB.cell (by simpa using hj)) (fun u hu => (List.all_eq_true.1 h1) u hu) h63 hbytes HS.out.size
  obtain ⟨lr', h6, h7⟩ := St.append HS.out hr h2 h3 h5
  unfold Oper.wp execOp
  simp only [ho, resolve, invoke, builtin, Sem.run_bind, Sem.run_pure, Result.andThen_ok, List.map_toArray, List.map_cons, List.map_nil, hs, hx, hrun, Oper.upon]
  rw [hd]
  exact ⟨St.sub h6 (hk lr'), h v' w' lr' h6 h7⟩
/-- An operation whose run is known. -/
theorem sx_run {rest : List Oper} (hw : Region.wanted o (yielded ops a.tmps) = true) (v : Value) (hrun : (execOp a.eval o).run P w = .ok (.value v) w) (h : wpList P ops Q rest (a.put o.dst v) w) : wpList P ops Q (o :: rest) a w :=
  wpList_wanted hw fun _ hK => by
    unfold Oper.wp
    rw [hrun]
    exact hK _ _ h
end
end Go.Proofs.YtnfkplohpjfocaaGreat
