/-
  Base, Page, Heap, Sx in one.
-/
import Derived.WalkKit
import Derived.WalkLawsBesides
import Derived.WalkSpells
import Derived.BigQuiet
import Derived.Deep.QuietTactic
import Derived.Lib.Hide
import Derived.IntWalk
import Derived.OwnWalk
import Derived.Laws.IdiomStrings
import Derived.Lib.BufferRead
import Derived.Great.BuildSlice
set_option linter.unusedVariables false
set_option linter.unusedSimpArgs false
namespace Go.Proofs.YtnofmmceafkkoaaGreat
open Go.RowKit
def Ext (w w' : World) : Prop := Below w.heap.size w w'
theorem Ext.below {w w' : World} (h : Ext w w') : Below w.heap.size w w' := h
theorem Ext.refl (w : World) : Ext w w := Below.refl _ _
theorem Ext.size {w w' : World} (h : Ext w w') : w.heap.size ≤ w'.heap.size := Below.size h
theorem Ext.trans {a b c : World} (h : Ext a b) (k : Ext b c) : Ext a c := Below.trans h (Below.mono k h.size)
theorem Ext.alloc {a b : World} (h : Ext a b) (o : Obj) : Ext a (b.alloc o) := Below.alloc h h.size o
theorem Ext.drew {a b : World} (h : Ext a b) : Ext a b.drew := Below.drew h
theorem Ext.drewN {a b : World} (h : Ext a b) (n : Nat) : Ext a (b.drewN n) := ⟨h.os, h.tape, h.output, h.size, h.block⟩
theorem Ext.setCell {a b : World} (h : Ext a b) {p : Addr} (hp : a.heap.size ≤ p.block) (u : Value) : Ext a (b.setCell p u) := Below.setCell h hp u
theorem Ext.facts {w w' : World} (h : Ext w w') : (∀ b o, b < w.heap.size → w'.cell? ⟨b, o, none⟩ = w.cell? ⟨b, o, none⟩) ∧ (∀ b o, b < w.heap.size → w'.frozen? ⟨b, o, none⟩ = w.frozen? ⟨b, o, none⟩) ∧ w.heap.size ≤ w'.heap.size :=
  ⟨fun b o hb => Below.cell (p := ⟨b, o, none⟩) h hb, fun b o hb => Below.frozen (p := ⟨b, o, none⟩) h hb, h.size⟩
def Only (c : Nat) (w w' : World) : Prop := w.grownBy w' (some c)
theorem Only.size {c : Nat} {w w' : World} (h : Only c w w') : w.heap.size ≤ w'.heap.size := World.grownBy.size h
theorem Only.refl (c : Nat) (w : World) : Only c w w := ⟨rfl, rfl, rfl, Nat.le_refl _, fun _ _ _ => rfl⟩
theorem Only.trans {c : Nat} {x y z : World} (h : Only c x y) (k : Only c y z) : Only c x z :=
  ⟨k.os.trans h.os, k.tape.trans h.tape, k.output.trans h.output, Nat.le_trans h.size k.size, fun i hi hn => (k.block i (Nat.lt_of_lt_of_le hi h.size) hn).trans (h.block i hi hn)⟩
theorem Only.of_ext {c : Nat} {w w' : World} (h : Ext w w') : Only c w w' := ⟨h.os, h.tape, h.output, h.size, fun i hi _ => h.block i hi⟩
theorem Only.drew {c : Nat} {x y : World} (h : Only c x y) : Only c x y.drew := ⟨h.os, h.tape, h.output, h.size, h.block⟩
theorem Only.drewN {c : Nat} {x y : World} (h : Only c x y) (n : Nat) : Only c x (y.drewN n) := ⟨h.os, h.tape, h.output, h.size, h.block⟩
theorem Only.alloc {c : Nat} {x y : World} (h : Only c x y) (o : Obj) : Only c x (y.alloc o) := h.trans (Only.of_ext ((Ext.refl y).alloc o))
theorem Only.setCell {c : Nat} {x y : World} (h : Only c x y) {p : Addr} (hp : p.block = c ∨ x.heap.size ≤ p.block) (u : Value) : Only c x (y.setCell p u) :=
  ⟨h.os, h.tape, h.output, by simpa [World.setCell] using h.size, fun i hi hne => (Below.heap_setCell y p u i (by
    rintro rfl
    rcases hp with hp | hp
    · exact hne (by rw [hp])
    · omega)).trans (h.block i hi hne)⟩
theorem Only.cell {c : Nat} {w w' : World} (h : Only c w w') {b o : Nat} (hb : b < w.heap.size) (hne : b ≠ c) : w'.cell? ⟨b, o, none⟩ = w.cell? ⟨b, o, none⟩ :=
  World.cell?_of_block (w := w) (h.block b hb (by simpa using hne))
theorem Only.frozen {c : Nat} {w w' : World} (h : Only c w w') {b o : Nat} (hb : b < w.heap.size) (hne : b ≠ c) : w'.frozen? ⟨b, o, none⟩ = w.frozen? ⟨b, o, none⟩ :=
  World.frozen?_of_block (w := w) (h.block b hb (by simpa using hne))
theorem Only.facts {c : Nat} {w w' : World} (h : Only c w w') : (∀ b o, b < w.heap.size → c < b → w'.cell? ⟨b, o, none⟩ = w.cell? ⟨b, o, none⟩) ∧ (∀ b o, b < w.heap.size → c < b → w'.frozen? ⟨b, o, none⟩ = w.frozen? ⟨b, o, none⟩) ∧ w.heap.size ≤ w'.heap.size :=
  ⟨fun b o hb hc => h.cell hb (by omega), fun b o hb hc => h.frozen hb (by omega), h.size⟩
theorem Ext.only {a b z : World} {c : Nat} (h : Ext a b) (k : Only c b z) (hc : a.heap.size ≤ c) : Ext a z :=
  ⟨k.os.trans h.os, k.tape.trans h.tape, k.output.trans h.output, Nat.le_trans h.size k.size, fun i hi => (k.block i (Nat.lt_of_lt_of_le hi h.size) (by simp; omega)).trans (h.block i hi)⟩
structure CodeRow where
  a : Option Addr
  len : Nat
  cap : Nat
  maps : List (Nat × List Int)
instance : Inhabited CodeRow := ⟨⟨none, 0, 0, []⟩⟩
def MapAt (w : World) (b : Nat) (ks : List Int) : Prop := ∃ es clock, w.heap[b]? = some (.map es clock) ∧ es.toList.map (fun e => (e.key, e.val)) = ks.map (fun k => (Value.int .i64 k, Value.bool true))
theorem MapAt.lt {w : World} {b : Nat} {ks : List Int} (h : MapAt w b ks) : b < w.heap.size := by obtain ⟨es, clock, hh, _⟩ := h; exact (Array.getElem?_eq_some_iff.1 hh).1
theorem MapAt.same {w w' : World} {b : Nat} {ks : List Int} (h : MapAt w b ks) (k : w'.heap[b]? = w.heap[b]?) : MapAt w' b ks := by obtain ⟨es, clock, hh, he⟩ := h; exact ⟨es, clock, k.trans hh, he⟩
theorem MapAt.ne {w : World} {b g : Nat} {ks : List Int} {cs : Array Value} {T : TypeId} (h : MapAt w b ks) (hg : w.heap[g]? = some (.cells cs T (0, 0))) : b ≠ g := by
  rintro rfl
  obtain ⟨es, clock, hh, _⟩ := h
  rw [hh] at hg
  cases hg
def CodesAt (q : CodeRow) (w : World) (c : Nat) : Prop :=
  ∃ (pos : Nat) (T : TypeId), w.heap[c]? = some (.cells #[.slice q.a q.len q.cap, .int .i64 pos] T (0, 0)) ∧ pos ≤ q.len ∧ q.len ≤ 65536 ∧
    (0 < q.len → ∃ blk off, q.a = some ⟨blk, off, none⟩ ∧ blk ≠ c ∧ ∀ i, i < q.len → ∃ n : Nat, n < 256 ∧ w.cell? ⟨blk, off + i, none⟩ = some (.int .u8 n))
section
variable {q : CodeRow} {w w' w0 : World} {c : Nat}
theorem CodesAt.lt (h : CodesAt q w c) : c < w.heap.size := by
  obtain ⟨pos, T, hh, _⟩ := h
  exact (Array.getElem?_eq_some_iff.1 hh).1
theorem CodesAt.kept (h0 : CodesAt q w0 c) (h : CodesAt q w c) {row : Option Nat} (k : w.grownBy w' row) (hrow : ∀ g, row = some g → w0.heap.size ≤ g) : CodesAt q w' c := by
  have hc := h.lt
  have hc0 := h0.lt
  obtain ⟨pos0, T0, hh0, _, _, hx0⟩ := h0
  obtain ⟨pos, T, hh, hp, hl, hx⟩ := h
  refine ⟨pos, T, (k.block c hc (fun e => by have := hrow c e.symm; omega)).trans hh, hp, hl, fun hl0 => ?_⟩
  obtain ⟨blk0, off0, e0, hnb0, hi0⟩ := hx0 hl0
  obtain ⟨blk, off, ha, hnb, hi⟩ := hx hl0
  refine ⟨blk, off, ha, hnb, fun i hil => ?_⟩
  obtain ⟨n, hn, hcell⟩ := hi i hil
  refine ⟨n, hn, ?_⟩
  obtain ⟨_, _, hcell0⟩ := hi0 i hil
  have e : blk = blk0 := by rw [e0] at ha; simp at ha; exact ha.1.symm
  have hlt := block_lt_of_cell (a := ⟨blk0, off0 + i, none⟩) hcell0
  simp only at hlt
  exact (World.cell?_of_block (w := w) (k.block blk (block_lt_of_cell (a := ⟨blk, off + i, none⟩) hcell) (fun e' => by have := hrow blk e'.symm; omega))).trans hcell
theorem CodesAt.ext (h : CodesAt q w c) (k : Ext w w') : CodesAt q w' c :=
  h.kept h (row := none) ⟨k.os, k.tape, k.output, k.size, fun i hi _ => k.block i hi⟩ (fun g hg => by cases hg)
theorem CodesAt.alloc (h : CodesAt q w c) (o : Obj) : CodesAt q (w.alloc o) c := h.ext ((Ext.refl w).alloc o)
theorem CodesAt.drew (h : CodesAt q w c) : CodesAt q w.drew c := h
theorem CodesAt.drewN (h : CodesAt q w c) (n : Nat) : CodesAt q (w.drewN n) c := h
theorem CodesAt.setCell (h0 : CodesAt q w0 c) (h : CodesAt q w c) {p : Addr} (hp : w0.heap.size ≤ p.block) (u : Value) : CodesAt q (w.setCell p u) c :=
  h0.kept h (row := some p.block) ((Only.refl p.block w).setCell (.inl rfl) u) (fun g hg => by simp at hg; omega)
end
theorem Only.grown {c : Nat} {w0 w w' : World} {base : Nat} {e : TypeId} {size : Nat} {v : Value} {n : Nat} {xs : List Value} (h : Only c w0 w) (hown : w.ownsRow base e size v n xs) (k : w.grownBy w' v.ownBlock) (hb : w0.heap.size ≤ base) : Only c w0 w' :=
  ⟨k.os.trans h.os, k.tape.trans h.tape, k.output.trans h.output, Nat.le_trans h.size k.size, fun i hi hn => (k.block i (Nat.lt_of_lt_of_le hi h.size) (fun e => by have := (hown.lt i e.symm).1; omega)).trans (h.block i hi hn)⟩
theorem Ext.grown {w0 w w' : World} {base : Nat} {e : TypeId} {size : Nat} {v : Value} {n : Nat} {xs : List Value} (h : Ext w0 w) (hown : w.ownsRow base e size v n xs) (k : w.grownBy w' v.ownBlock) (hb : w0.heap.size ≤ base) : Ext w0 w' :=
  ⟨k.os.trans h.os, k.tape.trans h.tape, k.output.trans h.output, Nat.le_trans h.size k.size, fun i hi => (k.block i (Nat.lt_of_lt_of_le hi h.size) (fun e => by have := (hown.lt i e.symm).1; omega)).trans (h.block i hi)⟩
theorem CodesAt.grown {q : CodeRow} {c : Nat} {w0 w w' : World} {base : Nat} {e : TypeId} {size : Nat} {v : Value} {n : Nat} {xs : List Value} (h0 : CodesAt q w0 c) (h : CodesAt q w c) (hown : w.ownsRow base e size v n xs) (k : w.grownBy w' v.ownBlock) (hb : w0.heap.size ≤ base) : CodesAt q w' c :=
  h0.kept h k (fun g hg => by have := (hown.lt g hg).1; omega)
end Go.Proofs.YtnofmmceafkkoaaGreat
set_option linter.unusedVariables false
set_option linter.unusedSimpArgs false
namespace Go.Proofs.YtnofmmceafkkoaaGreat
open Go.RowKit
def cellVals (l : List (Bool × ByteArray)) : List Value := l.flatMap fun x => [.bool x.1, .string x.2]
def pgLst (id lsn : Int) (l : List (Bool × ByteArray)) : List Value := Value.int .i64 id :: Value.int .i64 lsn :: cellVals l
abbrev pgArr (id lsn : Int) (l : List (Bool × ByteArray)) : Array Value := (pgLst id lsn l).toArray
theorem cellVals_length (l : List (Bool × ByteArray)) : (cellVals l).length = 2 * l.length := by
  induction l with
  | nil => rfl
  | cons x l ih => simp only [cellVals, List.flatMap_cons, List.length_append, List.length_cons, List.length_nil] at *; omega
theorem list_get_of_lt {α : Type} (l : List α) (i n : Nat) (h : l.length = n) (hi : i < n) : ∃ x, l[i]? = some x := ⟨l[i]'(by omega), List.getElem?_eq_getElem (by omega)⟩
end Go.Proofs.YtnofmmceafkkoaaGreat
set_option linter.unusedVariables false
set_option linter.unusedSimpArgs false
namespace Go.Proofs.YtnofmmceafkkoaaGreat
open Go.RowKit
section
variable {P : Program}
def Box (w : World) (b : Nat) (T : TypeId) (cs : Array Value) : Prop := w.heap[b]? = some (.cells cs T (0, 0))
theorem Box.lt {w : World} {b : Nat} {T : TypeId} {cs : Array Value} (h : Box w b T cs) : b < w.heap.size := (Array.getElem?_eq_some_iff.1 h).1
theorem Box.ext {w w' : World} {b : Nat} {T : TypeId} {cs : Array Value} (h : Box w b T cs) (k : Ext w w') : Box w' b T cs := (k.block b h.lt).trans h
theorem Box.only {w w' : World} {b c : Nat} {T : TypeId} {cs : Array Value} (h : Box w b T cs) (k : Only c w w') (hne : b ≠ c) : Box w' b T cs := (k.block b h.lt (by simpa using hne)).trans h
theorem Box.cell {w : World} {b : Nat} {T : TypeId} {cs : Array Value} (h : Box w b T cs) (o : Nat) : w.cell? ⟨b, o, none⟩ = cs[o]? := cell_of_row w b o cs T _ h
theorem Box.free {w : World} {b : Nat} {T : TypeId} {cs : Array Value} (h : Box w b T cs) (o : Nat) : w.frozen? ⟨b, o, none⟩ = false := frozen_of_row w b o cs T h
theorem Box.alloc (w : World) (T : TypeId) (cs : Array Value) : Box (w.alloc (.cells cs T)) w.heap.size T cs := heap_alloc_new w _
theorem Box.setRow {w : World} {b : Nat} {T : TypeId} {cs : Array Value} (h : Box w b T cs) (cs' : Array Value) : Box (w.setRow b cs') b T cs' := setRow_heap w b cs cs' T _ h
theorem Box.setCell {w : World} {b : Nat} {T : TypeId} {cs : Array Value} (h : Box w b T cs) (o : Nat) (v : Value) : Box (w.setCell ⟨b, o, none⟩ v) b T (cs.setIfInBounds o v) := heap_setCell_same w b o cs T v h
theorem Only.self_setCell (g o : Nat) (y : World) (v : Value) : Only g y (y.setCell ⟨g, o, none⟩ v) := (Only.refl g y).setCell (.inl rfl) v
theorem Only.past {c g : Nat} {x y z : World} (h : Only c x y) (k : Only g y z) (hg : x.heap.size ≤ g) : Only c x z :=
  ⟨k.os.trans h.os, k.tape.trans h.tape, k.output.trans h.output, Nat.le_trans h.size k.size, fun i hi hn => (k.block i (Nat.lt_of_lt_of_le hi h.size) (by simp; omega)).trans (h.block i hi hn)⟩
theorem CodesAt.past {q : CodeRow} {c g : Nat} {x y z : World} (h0 : CodesAt q x c) (h : CodesAt q y c) (k : Only g y z) (hg : x.heap.size ≤ g) : CodesAt q z c :=
  h0.kept h k (fun i hi => by simp at hi; omega)
structure NewBox (w w' : World) (b : Nat) (T : TypeId) (cs : Array Value) : Prop where
  at_ : b = w.heap.size
  box : Box w' b T cs
  ext : Ext w w'
  size : w'.heap.size = w.heap.size + 1
theorem NewBox.of (w : World) (T : TypeId) (cs : Array Value) : NewBox w (w.alloc (.cells cs T)) w.heap.size T cs := ⟨rfl, Box.alloc w T cs, (Ext.refl w).alloc _, by simp⟩
section
variable {ops : Array Oper} {rest : List Oper} {o : Oper} {a : Act} {w : World} {Q : Exit → Act → World → Prop}
end
end
end Go.Proofs.YtnofmmceafkkoaaGreat
set_option linter.unusedVariables false
set_option linter.unusedSimpArgs false
namespace Go.Proofs.YtnofmmceafkkoaaGreat
open Go.RowKit
section
variable {P : Program}
def shapeOf (P : Program) (ty : TypeId) : Option (Bool × Nat) :=
  match P.underlying ty, P.info? ty with
  | some (.struct _), some i => some (true, i.size)
  | some (.array _ _), some i => some (true, i.size)
  | some _, some i => some (false, i.size)
  | _, _ => none
def PBox (w : World) (b : Nat) (T : TypeId) (cs : List Value) : Prop := w.heap[b]? = some (.cells cs.toArray T (0, 0))
section
variable {w w' : World} {b : Nat} {T : TypeId} {cs : List Value}
theorem PBox.of (h : Box w b T cs.toArray) : PBox w b T cs := h
theorem PBox.lt (h : PBox w b T cs) : b < w.heap.size := (Array.getElem?_eq_some_iff.1 h).1
theorem PBox.cell (h : PBox w b T cs) {o : Nat} {v : Value} (hv : cs[o]? = some v) : w.cell? ⟨b, o, none⟩ = some v := by
  rw [cell_of_row w b o cs.toArray T _ h, List.getElem?_toArray]
  exact hv
theorem PBox.free (h : PBox w b T cs) (o : Nat) : w.frozen? ⟨b, o, none⟩ = false := frozen_of_row w b o cs.toArray T h
theorem PBox.same (h : PBox w b T cs) (k : w'.heap[b]? = w.heap[b]?) : PBox w' b T cs := k.trans h
theorem PBox.setCell (h : PBox w b T cs) (o : Nat) (v : Value) : PBox (w.setCell ⟨b, o, none⟩ v) b T (cs.set o v) := by
  have := heap_setCell_same w b o cs.toArray T v h
  unfold PBox
  rw [this, List.setIfInBounds_toArray]
end
def Bx (base : Nat) (w : World) : List (Nat × TypeId × List Value) → Prop
  | [] => True
  | x :: l => base ≤ x.1 ∧ PBox w x.1 x.2.1 x.2.2 ∧ (∀ y ∈ l, y.1 ≠ x.1) ∧ Bx base w l
theorem Bx.mem {base : Nat} {w : World} : ∀ {l : List (Nat × TypeId × List Value)}, Bx base w l → ∀ x ∈ l, base ≤ x.1 ∧ PBox w x.1 x.2.1 x.2.2
  | x :: l, ⟨h1, h2, _, h4⟩, y, hy => by
    rcases List.mem_cons.1 hy with rfl | hy
    · exact ⟨h1, h2⟩
    · exact Bx.mem h4 y hy
theorem Bx.get {base : Nat} {w : World} {l : List (Nat × TypeId × List Value)} (h : Bx base w l) {i b : Nat} {T : TypeId} {cs : List Value} (hl : l[i]? = some (b, T, cs)) : base ≤ b ∧ PBox w b T cs :=
  h.mem (b, T, cs) (List.mem_of_getElem? hl)
theorem Bx.same {base : Nat} {w w' : World} : ∀ {l : List (Nat × TypeId × List Value)}, Bx base w l → (∀ x ∈ l, w'.heap[x.1]? = w.heap[x.1]?) → Bx base w' l
  | [], _, _ => trivial
  | x :: l, ⟨h1, h2, h3, h4⟩, hs => ⟨h1, h2.same (hs x (by simp)), h3, Bx.same h4 (fun y hy => hs y (by simp [hy]))⟩
theorem Bx.ext {base : Nat} {w w' : World} {l : List (Nat × TypeId × List Value)} (h : Bx base w l) (k : Ext w w') : Bx base w' l :=
  h.same fun x hx => k.block x.1 ((h.mem x hx).2.lt)
theorem Bx.only {base c : Nat} {w w' : World} {l : List (Nat × TypeId × List Value)} (h : Bx base w l) (k : Only c w w') (hc : c < base) : Bx base w' l :=
  h.same fun x hx => k.block x.1 ((h.mem x hx).2.lt) (by have := (h.mem x hx).1; simp; omega)
theorem Bx.cons {base : Nat} {w w' : World} {l : List (Nat × TypeId × List Value)} (h : Bx base w l) {b : Nat} {T : TypeId} {cs : List Value} (k : NewBox w w' b T cs.toArray) (hb : base ≤ w.heap.size) : Bx base w' ((b, T, cs) :: l) :=
  ⟨by have := k.at_; show base ≤ b; omega, PBox.of k.box, fun y hy => by have h1 := (h.mem y hy).2.lt; have h2 := k.at_; show y.1 ≠ b; omega, h.ext k.ext⟩
theorem Bx.set {base : Nat} {w w' : World} : ∀ {l : List (Nat × TypeId × List Value)}, Bx base w l → ∀ {i b : Nat} {T : TypeId} {cs cs' : List Value}, l[i]? = some (b, T, cs) → Only b w w' → PBox w' b T cs' → Bx base w' (l.set i (b, T, cs'))
  | x :: l, ⟨h1, h2, h3, h4⟩, 0, b, T, cs, cs', hl, hk, hB => by
    simp at hl; subst hl
    refine ⟨h1, hB, h3, h4.same fun y hy => hk.block y.1 ((h4.mem y hy).2.lt) (by simpa using h3 y hy)⟩
  | x :: l, ⟨h1, h2, h3, h4⟩, i + 1, b, T, cs, cs', hl, hk, hB => by
    have hl' : l[i]? = some (b, T, cs) := by simpa using hl
    have hm : (b, T, cs) ∈ l := List.mem_of_getElem? hl'
    have hne : b ≠ x.1 := h3 _ hm
    refine ⟨h1, h2.same (hk.block x.1 h2.lt (by simpa using fun e => hne e.symm)), fun y hy => ?_, Bx.set h4 hl' hk hB⟩
    rcases List.mem_or_eq_of_mem_set hy with hy | rfl
    · exact h3 y hy
    · exact hne
structure St (cc : Option Nat) (q : CodeRow) (w0 w : World) (l : List (Nat × TypeId × List Value)) : Prop where
  fr : w0.grownBy w cc
  codes : ∀ c, cc = some c → CodesAt q w0 c ∧ CodesAt q w c
  own : Bx w0.heap.size w l
  maps : cc = none → ∀ x ∈ q.maps, w0.heap.size ≤ x.1 ∧ MapAt w x.1 x.2
section
variable {cc : Option Nat} {q : CodeRow} {w0 w w' : World} {l : List (Nat × TypeId × List Value)}
theorem St.start (w : World) : St none default w w [] := ⟨⟨rfl, rfl, rfl, Nat.le_refl _, fun _ _ _ => rfl⟩, (fun c h => by cases h), trivial, fun _ x hx => by cases hx⟩
theorem St.size (h : St cc q w0 w l) : w0.heap.size ≤ w.heap.size := h.fr.size
theorem St.ext (h : St cc q w0 w l) (k : Ext w w') : St cc q w0 w' l :=
  ⟨⟨k.os.trans h.fr.os, k.tape.trans h.fr.tape, k.output.trans h.fr.output, Nat.le_trans h.fr.size k.size, fun i hi hn => (k.block i (Nat.lt_of_lt_of_le hi h.fr.size)).trans (h.fr.block i hi hn)⟩,
   fun c e => ⟨(h.codes c e).1, (h.codes c e).2.ext k⟩, h.own.ext k, fun e x hx => ⟨(h.maps e x hx).1, (h.maps e x hx).2.same (k.block x.1 (h.maps e x hx).2.lt)⟩⟩
theorem St.draws {c : Nat} (h : St (some c) q w0 w l) (k : Only c w w') (hc : CodesAt q w' c) : St (some c) q w0 w' l :=
  ⟨⟨k.os.trans h.fr.os, k.tape.trans h.fr.tape, k.output.trans h.fr.output, Nat.le_trans h.fr.size k.size, fun i hi hn => (k.block i (Nat.lt_of_lt_of_le hi h.fr.size) hn).trans (h.fr.block i hi hn)⟩,
   fun c' e => by cases e; exact ⟨(h.codes c rfl).1, hc⟩, h.own.only k (h.codes c rfl).1.lt, fun h => by cases h⟩
theorem St.drewN (h : St cc q w0 w l) (n : Nat) : St cc q w0 (w.drewN n) l := h.ext ((Ext.refl w).drewN n)
theorem St.drew (h : St cc q w0 w l) : St cc q w0 w.drew l := h.ext ((Ext.refl w).drew)
theorem St.isExt (h : St none q w0 w l) : Ext w0 w := ⟨h.fr.os, h.fr.tape, h.fr.output, h.fr.size, fun i hi => h.fr.block i hi (by simp)⟩
theorem St.code {c : Nat} (h : St (some c) q w0 w l) : CodesAt q w c := (h.codes c rfl).2
theorem St.box (h : St cc q w0 w l) {i b : Nat} {T : TypeId} {cs : List Value} (hl : l[i]? = some (b, T, cs)) : PBox w b T cs := (h.own.get hl).2
theorem St.ge (h : St cc q w0 w l) {i b : Nat} {T : TypeId} {cs : List Value} (hl : l[i]? = some (b, T, cs)) : w0.heap.size ≤ b := (h.own.get hl).1
theorem St.new (h : St cc q w0 w l) {b : Nat} {T : TypeId} {cs : List Value} (k : NewBox w w' b T cs.toArray) : St cc q w0 w' ((b, T, cs) :: l) :=
  ⟨(h.ext k.ext).fr, (h.ext k.ext).codes, h.own.cons k h.fr.size, (h.ext k.ext).maps⟩
theorem St.set (h : St cc q w0 w l) {i b : Nat} {T : TypeId} {cs cs' : List Value} (hl : l[i]? = some (b, T, cs)) (k : Only b w w') (hB : PBox w' b T cs') : St cc q w0 w' (l.set i (b, T, cs')) :=
  ⟨⟨k.os.trans h.fr.os, k.tape.trans h.fr.tape, k.output.trans h.fr.output, Nat.le_trans h.fr.size k.size, fun i hi hn => (k.block i (Nat.lt_of_lt_of_le hi h.fr.size) (by have := h.ge hl; simp; omega)).trans (h.fr.block i hi hn)⟩,
   fun c e => ⟨(h.codes c e).1, (h.codes c e).1.past (h.codes c e).2 k (h.ge hl)⟩, h.own.set hl k hB, fun e x hx => ⟨(h.maps e x hx).1, (h.maps e x hx).2.same (k.block x.1 (h.maps e x hx).2.lt (fun e2 => (h.maps e x hx).2.ne (h.box hl) (by simpa using e2)))⟩⟩
theorem St.drop (h : St cc q w0 w l) (n : Nat) : St cc q w0 w (l.drop n) :=
  ⟨h.fr, h.codes, by
    have h3 := h.own
    clear h
    induction n generalizing l with
    | zero => exact h3
    | succ n ih =>
      cases l with
      | nil => trivial
      | cons x l => exact ih h3.2.2.2, h.maps⟩
end
def cellsAt (cs : List Value) (off : Nat) : List Value → Prop
  | [] => True
  | v :: vs => cs[off]? = some v ∧ cellsAt cs (off + 1) vs
theorem cellsAt.get {cs : List Value} : ∀ {vs : List Value} {off : Nat}, cellsAt cs off vs → ∀ j v, vs[j]? = some v → cs[off + j]? = some v
  | v :: vs, off, h, 0, u, hj => by simp at hj; subst hj; exact h.1
  | v :: vs, off, h, j + 1, u, hj => by
    have := cellsAt.get h.2 j u (by simpa using hj)
    rw [show off + (j + 1) = off + 1 + j by omega]; exact this
def putCells (cs : List Value) (off : Nat) : List Value → List Value
  | [] => cs
  | v :: vs => putCells (cs.set off v) (off + 1) vs
theorem addr_add (b off j : Nat) : (⟨b, off, none⟩ : Addr).add j = ⟨b, off + j, none⟩ := by unfold Addr.add; split <;> simp_all
theorem shape_agg {P : Program} {ty : TypeId} {n : Nat} (h : shapeOf P ty = some (true, n)) (w : World) : (isAgg ty).run P w = .ok true w ∧ (sizeOf ty).run P w = .ok n w := by
  unfold shapeOf at h
  cases hu : P.underlying ty with
  | none => simp [hu] at h
  | some d =>
    cases hi : P.info? ty with
    | none => cases d <;> simp [hu, hi] at h
    | some i =>
      cases d <;> simp [hu, hi] at h <;> (subst h; exact ⟨by simp [isAgg, run_underlying hu], by simp [sizeOf, typeInfo, hi]⟩)
theorem shape_one {P : Program} {ty : TypeId} {n : Nat} (h : shapeOf P ty = some (false, n)) (w : World) : (isAgg ty).run P w = .ok false w ∧ (sizeOf ty).run P w = .ok n w := by
  unfold shapeOf at h
  cases hu : P.underlying ty with
  | none => simp [hu] at h
  | some d =>
    cases hi : P.info? ty with
    | none => cases d <;> simp [hu, hi] at h
    | some i =>
      cases d <;> simp [hu, hi] at h <;> (subst h; exact ⟨by simp [isAgg, run_underlying hu], by simp [sizeOf, typeInfo, hi]⟩)
theorem run_load_box {w : World} {b : Nat} {T : TypeId} {cs : List Value} (hB : PBox w b T cs) {ty : TypeId} {n off : Nat} {v : Value} (hs : shapeOf P ty = some (false, n)) (hv : cs[off]? = some v) :
    (loadVar ty ⟨b, off, none⟩).run P w = .ok v w := by
  have hc := hB.cell hv
  simp [loadVar, (shape_one hs w).1, hc, load, Sem.run]
theorem run_load_agg {w : World} {b : Nat} {T : TypeId} {cs : List Value} (hB : PBox w b T cs) {ty : TypeId} {n off : Nat} {vs : List Value} (hs : shapeOf P ty = some (true, n)) (hn : vs.length = n) (hv : cellsAt cs off vs) :
    (loadVar ty ⟨b, off, none⟩).run P w = .ok (.agg vs.toArray) w := by
  subst hn
  have hl := run_loadCells_list (P := P) w ⟨b, off, none⟩ vs (fun j v hj => by rw [addr_add]; exact hB.cell (hv.get j v hj))
  unfold loadVar
  rw [Sem.run_bind, (shape_agg hs w).1, Result.andThen_ok, if_pos rfl, Sem.run_bind, (shape_agg hs w).2, Result.andThen_ok, Sem.run_bind, hl]
  rfl
theorem run_storeCells_box (b : Nat) (T : TypeId) : ∀ (vs : List Value) (i off : Nat) (cs : List Value) (w : World), PBox w b T cs → off + i + vs.length ≤ cs.length → (∀ v ∈ vs, v.oneCell' = true) →
    ∃ w', (storeCells ⟨b, off, none⟩ vs i).run P w = .ok () w' ∧ PBox w' b T (putCells cs (off + i) vs) ∧ Only b w w' ∧ w'.heap.size = w.heap.size
  | [], i, off, cs, w, hB, _, _ => ⟨w, by simp [storeCells], hB, Only.refl b w, rfl⟩
  | v :: vs, i, off, cs, w, hB, hl, h1 => by
    have hlt : off + i < cs.length := by simp at hl; omega
    have hc : w.cell? ⟨b, off + i, none⟩ = some cs[off + i] := hB.cell (List.getElem?_eq_getElem hlt)
    have hst : (store ((⟨b, off, none⟩ : Addr).add i) v).run P w = .ok () (w.setCell ⟨b, off + i, none⟩ v) := by
      rw [addr_add, run_store P w _ v _ (h1 v (by simp)), hc]
      simp [hB.free]
    have hB2 := hB.setCell (off + i) v
    obtain ⟨w', hr, hB', ho, hz⟩ := run_storeCells_box b T vs (i + 1) off (cs.set (off + i) v) (w.setCell ⟨b, off + i, none⟩ v) hB2 (by simp at hl ⊢; omega) (fun x hx => h1 x (by simp [hx]))
    refine ⟨w', ?_, ?_, (Only.self_setCell b _ w v).trans ho, hz.trans (by simp [World.setCell])⟩
    · simp only [storeCells, Sem.run_bind, hst, Result.andThen_ok, hr]
    · exact hB'
section
variable {cc : Option Nat} {q : CodeRow} {w0 w : World} {l : List (Nat × TypeId × List Value)} {ops : Array Oper} {rest : List Oper} {o : Oper} {a : Act} {Q : Exit → Act → World → Prop}
theorem wpList_wanted (hw : Region.wanted o (yielded ops a.tmps) = true) (h : ∀ K : Act → World → Prop, (∀ a w, wpList P ops Q rest a w → K a w) → o.wp P a w K Q) : wpList P ops Q (o :: rest) a w :=
  wpList_step fun K hK => by rw [if_pos hw]; exact h K hK
theorem sx_alloc (HS : Hid (St cc q w0 w l)) (hw : Region.wanted o (yielded ops a.tmps) = true) (ty : TypeId) (ho : o.op = .alloc ty) (cs : List Value) (hz : (P.info? ty).bind (·.zero) = some (.agg cs.toArray))
    (h : ∀ w' b, Hid (St cc q w0 w' ((b, ty, cs) :: l)) → wpList P ops Q rest (a.put o.dst (.pointer (some ⟨b, 0, none⟩))) w') : wpList P ops Q (o :: rest) a w :=
  wpList_wanted hw fun _ hK => by
    obtain ⟨z, hzz⟩ : ∃ z, z = Value.agg cs.toArray := ⟨_, rfl⟩
    rw [← hzz] at hz
    have hcs : z.cells = cs.toArray := by rw [hzz]; rfl
    cases hi : P.info? ty with
    | none => simp [hi] at hz
    | some i =>
      have hz' : i.zero = some z := by simpa [hi] using hz
      unfold Oper.wp execOp
      simp only [ho]
      have hr : (Instr.alloc ty true (.tuple #[])).run P w = .ok (.pointer (some ⟨w.heap.size, 0, none⟩)) (w.alloc (.cells z.cells ty)) := by
        simp [Instr.alloc, zeroValue, typeInfo, hi, hz', newVar, newRow]
      simp only [Sem.run_bind, hr, Result.andThen_ok, Sem.run_pure]
      exact hK _ _ (h _ _ (HS.out.new (by have := NewBox.of w ty z.cells; rw [hcs] at this ⊢; exact this)))
theorem sx_box (HS : Hid (St cc q w0 w l)) (hw : Region.wanted o (yielded ops a.tmps) = true) (ty : TypeId) (x : Operand) (ho : o.op = .box ty x) (cs : List Value) (hx : a.eval x = .agg cs.toArray)
    (h : ∀ w' b, Hid (St cc q w0 w' ((b, ty, cs) :: l)) → wpList P ops Q rest (a.put o.dst (.pointer (some ⟨b, 0, none⟩))) w') : wpList P ops Q (o :: rest) a w :=
  wpList_wanted hw fun _ hK => by
    have hcs : (a.eval x).cells = cs.toArray := by rw [hx]; rfl
    unfold Oper.wp execOp
    simp only [ho]
    have hr : (Instr.box ty (a.eval x)).run P w = .ok (.pointer (some ⟨w.heap.size, 0, none⟩)) (w.alloc (.cells (a.eval x).cells ty)) := by
      simp [Instr.box, newVar, newRow]
    simp only [Sem.run_bind, hr, Result.andThen_ok, Sem.run_pure]
    exact hK _ _ (h _ _ (HS.out.new (by have := NewBox.of w ty (a.eval x).cells; rw [hcs] at this ⊢; exact this)))
theorem sx_load (HS : Hid (St cc q w0 w l)) (hw : Region.wanted o (yielded ops a.tmps) = true) (ty : TypeId) (x : Operand) (ho : o.op = .load ty x) (i b : Nat) (T : TypeId) (cs : List Value) (hl : l[i]? = some (b, T, cs))
    (off : Nat) (hx : a.eval x = .pointer (some ⟨b, off, none⟩)) (n : Nat) (hs : shapeOf P ty = some (false, n)) (v : Value) (hv : cs[off]? = some v)
    (h : wpList P ops Q rest (a.put o.dst v) w) : wpList P ops Q (o :: rest) a w :=
  wpList_wanted hw fun _ hK => by
    unfold Oper.wp execOp
    simp only [ho, hx, Instr.loadAt, Instr.sureAddr, Sem.run_bind, Sem.run_pure, Result.andThen_ok, run_load_box (P := P) (HS.out.box hl) hs hv]
    exact hK _ _ h
theorem sx_loads (HS : Hid (St cc q w0 w l)) (hw : Region.wanted o (yielded ops a.tmps) = true) (ty : TypeId) (x : Operand) (ho : o.op = .load ty x) (i b : Nat) (T : TypeId) (cs : List Value) (hl : l[i]? = some (b, T, cs))
    (off : Nat) (hx : a.eval x = .pointer (some ⟨b, off, none⟩)) (n : Nat) (hs : shapeOf P ty = some (true, n)) (vs : List Value) (hn : vs.length = n) (hv : cellsAt cs off vs)
    (h : wpList P ops Q rest (a.put o.dst (.agg vs.toArray)) w) : wpList P ops Q (o :: rest) a w :=
  wpList_wanted hw fun _ hK => by
    unfold Oper.wp execOp
    simp only [ho, hx, Instr.loadAt, Instr.sureAddr, Sem.run_bind, Sem.run_pure, Result.andThen_ok, run_load_agg (P := P) (HS.out.box hl) hs hn hv]
    exact hK _ _ h
theorem sx_stores (HS : Hid (St cc q w0 w l)) (hw : Region.wanted o (yielded ops a.tmps) = true) (ty : TypeId) (x y : Operand) (ho : o.op = .store ty x y) (hd : o.dst = none) (i b : Nat) (T : TypeId) (cs : List Value) (hl : l[i]? = some (b, T, cs))
    (off : Nat) (hx : a.eval x = .pointer (some ⟨b, off, none⟩)) (n : Nat) (hs : shapeOf P ty = some (true, n)) (vs : List Value) (hy : a.eval y = .agg vs.toArray) (hn : vs.length = n) (h1 : vs.all (·.oneCell') = true) (hoff : Nat.ble (off + n) cs.length = true)
    (h : ∀ w', Hid (St cc q w0 w' (l.set i (b, T, putCells cs off vs))) → wpList P ops Q rest a w') : wpList P ops Q (o :: rest) a w :=
  wpList_wanted hw fun _ hK => by
    have hB := HS.out.box hl
    obtain ⟨w', hr, hB', hk, _⟩ := run_storeCells_box (P := P) b T vs 0 off cs w hB (by have := Nat.le_of_ble_eq_true hoff; omega) (fun u hu => (List.all_eq_true.1 h1) u hu)
    unfold Oper.wp execOp
    have hrun : (storeVar ty ⟨b, off, none⟩ (.agg vs.toArray)).run P w = .ok () w' := by
      unfold storeVar
      rw [Sem.run_bind, (shape_agg hs w).2, Result.andThen_ok]
      simp [Value.cells, hn, hr]
    simp only [ho, hx, hy, Instr.storeAt, Instr.sureAddr, Sem.run_bind, Sem.run_pure, Result.andThen_ok, hrun]
    have := hK _ _ (h w' (HS.out.set hl hk hB'))
    simp only [Oper.upon, hd, Act.put]
    exact this
end
section
variable {cc : Option Nat} {q : CodeRow} {w0 w : World} {l : List (Nat × TypeId × List Value)} {ops : Array Oper} {rest : List Oper} {o : Oper} {a : Act} {Q : Exit → Act → World → Prop}
theorem cellsAt_self : ∀ (pre vs : List Value), cellsAt (pre ++ vs) pre.length vs
  | _, [] => trivial
  | pre, v :: vs => ⟨by simp, by
    have := cellsAt_self (pre ++ [v]) vs
    simpa using this⟩
end
section
variable {fn : Func} {tmps : Array Value} {w : World}
end
end
end Go.Proofs.YtnofmmceafkkoaaGreat
