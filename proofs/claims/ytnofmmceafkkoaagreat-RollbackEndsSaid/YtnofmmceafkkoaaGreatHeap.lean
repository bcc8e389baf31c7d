/-
  Laws for the walk over large structs: the world behind an allocation or a store is a new name, of which one block is known. No function of the program is named here.
-/
import Derived.Test.YtnofmmceafkkoaaGreatBase
import Derived.Great.BuildSlice
set_option linter.unusedVariables false
set_option linter.unusedSimpArgs false
namespace Go.Proofs.YtnofmmceafkkoaaGreat
open Go.RowKit
section
variable {P : Program}
def Box (w : World) (b : Nat) (T : TypeId) (cs : Array Value) : Prop := w.heap[b]? = some (.cells cs T (0, 0))
theorem Box.lt {w : World} {b : Nat} {T : TypeId} {cs : Array Value} (h : Box w b T cs) : b < w.heap.size := (Array.getElem?_eq_some_iff.1 h).1
theorem Box.ext {w w' : World} {b : Nat} {T : TypeId} {cs : Array Value} (h : Box w b T cs) (k : Ext w w') : Box w' b T cs := (k.block b h.lt).trans h
theorem Box.only {w w' : World} {b c : Nat} {T : TypeId} {cs : Array Value} (h : Box w b T cs) (k : Only c w w') (hne : b ≠ c) : Box w' b T cs := (k.block b h.lt (by simpa using hne)).trans h
theorem Box.cell {w : World} {b : Nat} {T : TypeId} {cs : Array Value} (h : Box w b T cs) (o : Nat) : w.cell? ⟨b, o, none⟩ = cs[o]? := cell_of_row w b o cs T _ h
theorem Box.free {w : World} {b : Nat} {T : TypeId} {cs : Array Value} (h : Box w b T cs) (o : Nat) : w.frozen? ⟨b, o, none⟩ = false := frozen_of_row w b o cs T h
theorem Box.alloc (w : World) (T : TypeId) (cs : Array Value) : Box (w.alloc (.cells cs T)) w.heap.size T cs := heap_alloc_new w _
theorem Box.setRow {w : World} {b : Nat} {T : TypeId} {cs : Array Value} (h : Box w b T cs) (cs' : Array Value) : Box (w.setRow b cs') b T cs' := setRow_heap w b cs cs' T _ h
theorem Box.setCell {w : World} {b : Nat} {T : TypeId} {cs : Array Value} (h : Box w b T cs) (o : Nat) (v : Value) : Box (w.setCell ⟨b, o, none⟩ v) b T (cs.setIfInBounds o v) := heap_setCell_same w b o cs T v h
theorem Only.self_setCell (g o : Nat) (y : World) (v : Value) : Only g y (y.setCell ⟨g, o, none⟩ v) := (Only.refl g y).setCell (.inl rfl) v
theorem Only.past {c g : Nat} {x y z : World} (h : Only c x y) (k : Only g y z) (hg : x.heap.size ≤ g) : Only c x z :=
  ⟨k.os.trans h.os, k.tape.trans h.tape, k.output.trans h.output, Nat.le_trans h.size k.size, fun i hi hn => (k.block i (Nat.lt_of_lt_of_le hi h.size) (by simp; omega)).trans (h.block i hi hn)⟩
theorem CodesAt.past {q : CodeRow} {c g : Nat} {x y z : World} (h0 : CodesAt q x c) (h : CodesAt q y c) (k : Only g y z) (hg : x.heap.size ≤ g) : CodesAt q z c :=
  h0.kept h k (fun i hi => by simp at hi; omega)
structure NewBox (w w' : World) (b : Nat) (T : TypeId) (cs : Array Value) : Prop where
  at_ : b = w.heap.size
  box : Box w' b T cs
  ext : Ext w w'
  size : w'.heap.size = w.heap.size + 1
theorem NewBox.of (w : World) (T : TypeId) (cs : Array Value) : NewBox w (w.alloc (.cells cs T)) w.heap.size T cs := ⟨rfl, Box.alloc w T cs, (Ext.refl w).alloc _, by simp⟩
section
variable {ops : Array Oper} {rest : List Oper} {o : Oper} {a : Act} {w : World} {Q : Exit → Act → World → Prop}
end
end
end Go.Proofs.YtnofmmceafkkoaaGreat
