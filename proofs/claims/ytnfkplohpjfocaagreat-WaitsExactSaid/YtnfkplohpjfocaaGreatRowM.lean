/-
  Stores into a block that stands in the middle; the cells of rows of grants. No function of the program is named here.
-/
import Derived.Test.YtnfkplohpjfocaaGreatInsA
set_option linter.unusedVariables false
set_option linter.unusedSimpArgs false
namespace Go.Proofs.YtnfkplohpjfocaaGreat
open Go.RowKit
section
variable {P : Program} {ops : Array Oper} {Q : Exit → Act → World → Prop} {a : Act} {w : World} {cc : Option Nat} {q : CodeRow} {w0 : World} {o : Oper} {rest : List Oper}
/-- A struct goes into a block that stands in the middle. -/
theorem sx_storesM {front ll : List (Nat × TypeId × List Value)} {g : Nat} {E : TypeId} {cs : List Value} (HS : Hid (St cc q w0 w (front ++ ([(g, E, cs)] ++ ll)))) (hw : Region.wanted o (yielded ops a.tmps) = true) (ty : TypeId) (x y : Operand) (ho : o.op = .store ty x y) (hd : o.dst = none)
    (off : Nat) (hx : a.eval x = .pointer (some ⟨g, off, none⟩)) (n : Nat) (hs : shapeOf P ty = some (true, n)) (vs : List Value) (hy : a.eval y = .agg vs.toArray) (hn : vs.length = n) (h1 : vs.all (·.oneCell') = true) (hoff : off + n ≤ cs.length) (cs' : List Value) (hcs : putCells cs off vs = cs')
    (h : ∀ w', Hid (St cc q w0 w' (front ++ ([(g, E, cs')] ++ ll))) → wpList P ops Q rest a w') : wpList P ops Q (o :: rest) a w :=
  sx_stores HS hw ty x y ho hd front.length g E cs (by simp) off hx n hs vs hy hn h1 (Nat.ble_eq_true_of_le hoff) fun w' HS' => h w' (by
    subst hcs
    refine Lib.hid ?_
    have h2 := HS'.out
    rw [List.set_append_right _ _ (Nat.le_refl _)] at h2
    simpa using h2)
theorem sx_storeM {front ll : List (Nat × TypeId × List Value)} {g : Nat} {E : TypeId} {cs : List Value} (HS : Hid (St cc q w0 w (front ++ ([(g, E, cs)] ++ ll)))) (hw : Region.wanted o (yielded ops a.tmps) = true) (ty : TypeId) (x y : Operand) (ho : o.op = .store ty x y) (hd : o.dst = none)
    (off : Nat) (hx : a.eval x = .pointer (some ⟨g, off, none⟩)) (hs : shapeOf P ty = some (false, 1)) (v : Value) (hy : a.eval y = v) (h1 : v.oneCell' = true) (hoff : off + 1 ≤ cs.length) (cs' : List Value) (hcs : cs.set off v = cs')
    (h : ∀ w', Hid (St cc q w0 w' (front ++ ([(g, E, cs')] ++ ll))) → wpList P ops Q rest a w') : wpList P ops Q (o :: rest) a w :=
  sx_store HS hw ty x y ho hd front.length g E cs (by simp) off hx hs v hy h1 (Nat.ble_eq_true_of_le hoff) fun w' HS' => h w' (by
    subst hcs
    refine Lib.hid ?_
    have h2 := HS'.out
    rw [List.set_append_right _ _ (Nat.le_refl _)] at h2
    simpa using h2)
end
theorem gL_get {gs : List G} {i j : Nat} {x : G} {u : Value} (hx : gs[i]? = some x) (hu : x.lst[j]? = some u) : (gL gs)[i * 4 + j]? = some u := by
  have h0 : (gs.map G.lst)[i]? = some x.lst := by rw [List.getElem?_map, hx]; rfl
  exact flatten_at (gl4 gs) h0 j u hu
/-- The cells of one row, in its block. -/
theorem row_cells {front ll : List (Nat × TypeId × List Value)} {cc : Option Nat} {q : CodeRow} {w0 w : World} {g : Nat} {E : TypeId} {pre junk : List Value} {ys : List G} (HS : St cc q w0 w (front ++ ([(g, E, pre ++ (gL ys ++ junk))] ++ ll))) {off i : Nat} (hoff : off = pre.length) {x : G} (hx : ys[i]? = some x) : ∀ (j : Nat) (u : Value), x.lst[j]? = some u → w.cell? ⟨g, off + i * 4 + j, none⟩ = some u := by
  intro j u hj
  have h := part_cells HS hoff (i * 4 + j) u (gL_get hx hj)
  rw [addr_add, ← Nat.add_assoc] at h
  exact h
theorem gL_set {pre junk : List Value} {ys : List G} {i : Nat} {x : G} (hi : i < ys.length) : putCells (pre ++ (gL ys ++ junk)) (pre.length + i * 4) x.lst = pre ++ (gL (ys.set i x) ++ junk) := by
  have h1 := gL_cut hi
  have hl : (gL (ys.take i)).length = i * 4 := by rw [gL_len, List.length_take]; congr 1; omega
  have e : ys.set i x = ys.take i ++ x :: ys.drop (i + 1) := List.set_eq_take_append_cons_drop.trans (by rw [if_pos hi])
  rw [e, h1, gL_append, gL_cons]
  have := putCells_mid (pre ++ gL (ys.take i)) ys[i].lst (gL (ys.drop (i + 1)) ++ junk) x.lst rfl
  rw [List.length_append, hl] at this
  simpa using this
theorem Pred.mono {w0 w1 : World} {gs : List G} {K : FuncId} {caps : List Value} {p : G → Bool} (h : Pred w0 gs K caps p) (k : Ext w0 w1) : Pred w1 gs K caps p :=
  ⟨h.fn, fun x hx w e => h.says x hx w (k.trans e)⟩
end Go.Proofs.YtnfkplohpjfocaaGreat
