/-
  Laws for the walk over large structs: the world behind an allocation or a store is a new name, of which one block is known. No function of the program is named here.
-/
import Derived.Test.YtnfkplohpjfocaaBase
import Derived.Great.BuildSlice
set_option linter.unusedVariables false
set_option linter.unusedSimpArgs false
namespace Go.Proofs.Ytnfkplohpjfocaa
open Go.RowKit
section
variable {P : Program}
/-- Block b holds these cells. -/
def Box (w : World) (b : Nat) (T : TypeId) (cs : Array Value) : Prop := w.heap[b]? = some (.cells cs T (0, 0))
theorem Box.lt {w : World} {b : Nat} {T : TypeId} {cs : Array Value} (h : Box w b T cs) : b < w.heap.size := (Array.getElem?_eq_some_iff.1 h).1
theorem Box.ext {w w' : World} {b : Nat} {T : TypeId} {cs : Array Value} (h : Box w b T cs) (k : Ext w w') : Box w' b T cs := (k.block b h.lt).trans h
theorem Box.only {w w' : World} {b c : Nat} {T : TypeId} {cs : Array Value} (h : Box w b T cs) (k : Only c w w') (hne : b ≠ c) : Box w' b T cs := (k.block b h.lt (by simpa using hne)).trans h
theorem Box.cell {w : World} {b : Nat} {T : TypeId} {cs : Array Value} (h : Box w b T cs) (o : Nat) : w.cell? ⟨b, o, none⟩ = cs[o]? := cell_of_row w b o cs T _ h
theorem Box.free {w : World} {b : Nat} {T : TypeId} {cs : Array Value} (h : Box w b T cs) (o : Nat) : w.frozen? ⟨b, o, none⟩ = false := frozen_of_row w b o cs T h
theorem Box.alloc (w : World) (T : TypeId) (cs : Array Value) : Box (w.alloc (.cells cs T)) w.heap.size T cs := heap_alloc_new w _
theorem Box.setRow {w : World} {b : Nat} {T : TypeId} {cs : Array Value} (h : Box w b T cs) (cs' : Array Value) : Box (w.setRow b cs') b T cs' := setRow_heap w b cs cs' T _ h
theorem Box.setCell {w : World} {b : Nat} {T : TypeId} {cs : Array Value} (h : Box w b T cs) (o : Nat) (v : Value) : Box (w.setCell ⟨b, o, none⟩ v) b T (cs.setIfInBounds o v) := heap_setCell_same w b o cs T v h
theorem Box.set2 {w : World} {b : Nat} {T : TypeId} {cs : Array Value} (h : Box w b T cs) (o p : Nat) (u v : Value) : Box ((w.setCell ⟨b, o, none⟩ u).setCell ⟨b, p, none⟩ v) b T ((cs.setIfInBounds o u).setIfInBounds p v) := (h.setCell o u).setCell p v
theorem Only.self_setRow (g : Nat) (y : World) (cs : Array Value) : Only g y (y.setRow g cs) :=
  ⟨rfl, rfl, rfl, by simp, fun i _ hne => setRow_other y g i cs (fun e => hne (by rw [e]))⟩
theorem Only.self_setCell (g o : Nat) (y : World) (v : Value) : Only g y (y.setCell ⟨g, o, none⟩ v) := (Only.refl g y).setCell (.inl rfl) v
/-- A change of block g, which is new since x. -/
theorem Only.past {c g : Nat} {x y z : World} (h : Only c x y) (k : Only g y z) (hg : x.heap.size ≤ g) : Only c x z :=
  ⟨k.os.trans h.os, k.tape.trans h.tape, k.output.trans h.output, Nat.le_trans h.size k.size, fun i hi hn => (k.block i (Nat.lt_of_lt_of_le hi h.size) (by simp; omega)).trans (h.block i hi hn)⟩
theorem CodesAt.past {q : CodeRow} {c g : Nat} {x y z : World} (h0 : CodesAt q x c) (h : CodesAt q y c) (k : Only g y z) (hg : x.heap.size ≤ g) : CodesAt q z c :=
  h0.kept h k (fun i hi => by simp at hi; omega)

/-- What an allocation leaves. -/
structure NewBox (w w' : World) (b : Nat) (T : TypeId) (cs : Array Value) : Prop where
  at_ : b = w.heap.size
  box : Box w' b T cs
  ext : Ext w w'
  size : w'.heap.size = w.heap.size + 1
theorem NewBox.of (w : World) (T : TypeId) (cs : Array Value) : NewBox w (w.alloc (.cells cs T)) w.heap.size T cs := ⟨rfl, Box.alloc w T cs, (Ext.refl w).alloc _, by simp⟩

section
variable {ops : Array Oper} {rest : List Oper} {o : Oper} {a : Act} {w : World} {Q : Exit → Act → World → Prop}
theorem wl_alloc (hgd : o.guard = none) (ty : TypeId) (ho : o.op = .alloc ty) (z : Value) (cs : Array Value) (hz : (P.info? ty).bind (·.zero) = some z) (hcs : z.cells = cs)
    (h : ∀ w' b, NewBox w w' b ty cs → wpList P ops Q rest (a.put o.dst (.pointer (some ⟨b, 0, none⟩))) w') : wpList P ops Q (o :: rest) a w :=
  wpList_plain hgd fun _ hK => by
    subst hcs
    cases hi : P.info? ty with
    | none => simp [hi] at hz
    | some i =>
      have hz' : i.zero = some z := by simpa [hi] using hz
      unfold Oper.wp execOp
      simp only [ho]
      have hr : (Instr.alloc ty true (.tuple #[])).run P w = .ok (.pointer (some ⟨w.heap.size, 0, none⟩)) (w.alloc (.cells z.cells ty)) := by
        simp [Instr.alloc, zeroValue, typeInfo, hi, hz', newVar, newRow]
      simp only [Sem.run_bind, hr, Result.andThen_ok, Sem.run_pure]
      exact hK _ _ (h _ _ (NewBox.of w ty z.cells))
theorem wl_box (hgd : o.guard = none) (ty : TypeId) (x : Operand) (ho : o.op = .box ty x) (cs : Array Value) (hcs : (a.eval x).cells = cs)
    (h : ∀ w' b, NewBox w w' b ty cs → wpList P ops Q rest (a.put o.dst (.pointer (some ⟨b, 0, none⟩))) w') : wpList P ops Q (o :: rest) a w :=
  wpList_plain hgd fun _ hK => by
    subst hcs
    unfold Oper.wp execOp
    simp only [ho]
    have hr : (Instr.box ty (a.eval x)).run P w = .ok (.pointer (some ⟨w.heap.size, 0, none⟩)) (w.alloc (.cells (a.eval x).cells ty)) := by
      simp [Instr.box, newVar, newRow]
    simp only [Sem.run_bind, hr, Result.andThen_ok, Sem.run_pure]
    exact hK _ _ (h _ _ (NewBox.of w ty _))
/-- A whole struct is stored into its block. -/
theorem wl_store (hgd : o.guard = none) (ty : TypeId) (x y : Operand) (ho : o.op = .store ty x y) (hd : o.dst = none)
    (g : Nat) (cells : Array Value) (hx : a.eval x = .pointer (some ⟨g, 0, none⟩)) (hy : a.eval y = .agg cells)
    (t : TypeId) (old : Array Value) (hg : Box w g t old) (hi : (P.info? ty).map (·.size) = some cells.size)
    (hold : old.size = cells.size) (h1 : cells.all (·.oneCell') = true)
    (h : ∀ w', Box w' g t cells → Only g w w' → w'.heap.size = w.heap.size → wpList P ops Q rest a w') : wpList P ops Q (o :: rest) a w :=
  wpList_store_rowTo hgd ty x y ho hd g cells hx hy t old hg hi hold h1 (h _ (hg.setRow cells) (Only.self_setRow g w cells) (by simp))
/-- A whole struct is read out of its block. -/
theorem wl_load (hgd : o.guard = none) (ty : TypeId) (x : Operand) (ho : o.op = .load ty x)
    (g : Nat) (hx : a.eval x = .pointer (some ⟨g, 0, none⟩)) (t : TypeId) (cs : Array Value) (d : TypeDesc) (hg : Box w g t cs)
    (hu : P.underlying ty = some d) (hd : (match d with | .struct _ | .array _ _ => true | _ => false) = true) (hi : (P.info? ty).map (·.size) = some cs.size)
    (h : wpList P ops Q rest (a.put o.dst (.agg cs)) w) : wpList P ops Q (o :: rest) a w :=
  wpList_load_row hgd ty x ho g hx t cs _ d hg hu hd hi h
end
end
end Go.Proofs.Ytnfkplohpjfocaa
