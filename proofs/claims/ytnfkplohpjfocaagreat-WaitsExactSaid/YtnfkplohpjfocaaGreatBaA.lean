/-
  Words that every walk of this seat uses: 'Ext' (old memory is as it was), 'Only c' (of old memory at most block c has changed), and the row of choices ('CodesAt'). No function of the program is named here.
-/
import Derived.WalkKit
import Derived.WalkLawsBesides
import Derived.WalkSpells
import Derived.BigQuiet
import Derived.Deep.QuietTactic
import Derived.Lib.Hide
import Derived.IntWalk
import Derived.OwnWalk
import Derived.Laws.IdiomStrings
import Derived.Lib.BufferRead
import Derived.Great.BuildSlice
set_option linter.unusedVariables false
set_option linter.unusedSimpArgs false
namespace Go.Proofs.YtnfkplohpjfocaaGreat
open Go.RowKit

/-- All memory that was there is as it was. -/
def Ext (w w' : World) : Prop := Below w.heap.size w w'
theorem Ext.below {w w' : World} (h : Ext w w') : Below w.heap.size w w' := h
theorem Ext.refl (w : World) : Ext w w := Below.refl _ _
theorem Ext.size {w w' : World} (h : Ext w w') : w.heap.size ≤ w'.heap.size := Below.size h
theorem Ext.trans {a b c : World} (h : Ext a b) (k : Ext b c) : Ext a c := Below.trans h (Below.mono k h.size)
theorem Ext.alloc {a b : World} (h : Ext a b) (o : Obj) : Ext a (b.alloc o) := Below.alloc h h.size o
theorem Ext.drew {a b : World} (h : Ext a b) : Ext a b.drew := Below.drew h
theorem Ext.drewN {a b : World} (h : Ext a b) (n : Nat) : Ext a (b.drewN n) := ⟨h.os, h.tape, h.output, h.size, h.block⟩
theorem Ext.setCell {a b : World} (h : Ext a b) {p : Addr} (hp : a.heap.size ≤ p.block) (u : Value) : Ext a (b.setCell p u) := Below.setCell h hp u
theorem Ext.setAt {a b : World} (h : Ext a b) {g o : Nat} (hp : a.heap.size ≤ g) (u : Value) : Ext a (b.setCell ⟨g, o, none⟩ u) := Below.setCell h hp u
theorem Ext.facts {w w' : World} (h : Ext w w') : (∀ b o, b < w.heap.size → w'.cell? ⟨b, o, none⟩ = w.cell? ⟨b, o, none⟩) ∧ (∀ b o, b < w.heap.size → w'.frozen? ⟨b, o, none⟩ = w.frozen? ⟨b, o, none⟩) ∧ w.heap.size ≤ w'.heap.size :=
  ⟨fun b o hb => Below.cell (p := ⟨b, o, none⟩) h hb, fun b o hb => Below.frozen (p := ⟨b, o, none⟩) h hb, h.size⟩

/-- Of the memory that was there at most block c has changed. -/
def Only (c : Nat) (w w' : World) : Prop := w.grownBy w' (some c)
theorem Only.size {c : Nat} {w w' : World} (h : Only c w w') : w.heap.size ≤ w'.heap.size := World.grownBy.size h
theorem Only.refl (c : Nat) (w : World) : Only c w w := ⟨rfl, rfl, rfl, Nat.le_refl _, fun _ _ _ => rfl⟩
theorem Only.trans {c : Nat} {x y z : World} (h : Only c x y) (k : Only c y z) : Only c x z :=
  ⟨k.os.trans h.os, k.tape.trans h.tape, k.output.trans h.output, Nat.le_trans h.size k.size, fun i hi hn => (k.block i (Nat.lt_of_lt_of_le hi h.size) hn).trans (h.block i hi hn)⟩
theorem Only.of_ext {c : Nat} {w w' : World} (h : Ext w w') : Only c w w' := ⟨h.os, h.tape, h.output, h.size, fun i hi _ => h.block i hi⟩
theorem Only.drew {c : Nat} {x y : World} (h : Only c x y) : Only c x y.drew := ⟨h.os, h.tape, h.output, h.size, h.block⟩
theorem Only.drewN {c : Nat} {x y : World} (h : Only c x y) (n : Nat) : Only c x (y.drewN n) := ⟨h.os, h.tape, h.output, h.size, h.block⟩
theorem Only.alloc {c : Nat} {x y : World} (h : Only c x y) (o : Obj) : Only c x (y.alloc o) := h.trans (Only.of_ext ((Ext.refl y).alloc o))
theorem Only.setCell {c : Nat} {x y : World} (h : Only c x y) {p : Addr} (hp : p.block = c ∨ x.heap.size ≤ p.block) (u : Value) : Only c x (y.setCell p u) :=
  ⟨h.os, h.tape, h.output, by simpa [World.setCell] using h.size, fun i hi hne => (Below.heap_setCell y p u i (by
    rintro rfl
    rcases hp with hp | hp
    · exact hne (by rw [hp])
    · omega)).trans (h.block i hi hne)⟩
theorem Only.cell {c : Nat} {w w' : World} (h : Only c w w') {b o : Nat} (hb : b < w.heap.size) (hne : b ≠ c) : w'.cell? ⟨b, o, none⟩ = w.cell? ⟨b, o, none⟩ :=
  World.cell?_of_block (w := w) (h.block b hb (by simpa using hne))
theorem Only.frozen {c : Nat} {w w' : World} (h : Only c w w') {b o : Nat} (hb : b < w.heap.size) (hne : b ≠ c) : w'.frozen? ⟨b, o, none⟩ = w.frozen? ⟨b, o, none⟩ :=
  World.frozen?_of_block (w := w) (h.block b hb (by simpa using hne))
theorem Only.facts {c : Nat} {w w' : World} (h : Only c w w') : (∀ b o, b < w.heap.size → c < b → w'.cell? ⟨b, o, none⟩ = w.cell? ⟨b, o, none⟩) ∧ (∀ b o, b < w.heap.size → c < b → w'.frozen? ⟨b, o, none⟩ = w.frozen? ⟨b, o, none⟩) ∧ w.heap.size ≤ w'.heap.size :=
  ⟨fun b o hb hc => h.cell hb (by omega), fun b o hb hc => h.frozen hb (by omega), h.size⟩
/-- A call changed block c alone, and c is new: so nothing old has changed. -/
theorem Ext.only {a b z : World} {c : Nat} (h : Ext a b) (k : Only c b z) (hc : a.heap.size ≤ c) : Ext a z :=
  ⟨k.os.trans h.os, k.tape.trans h.tape, k.output.trans h.output, Nat.le_trans h.size k.size, fun i hi => (k.block i (Nat.lt_of_lt_of_le hi h.size) (by simp; omega)).trans (h.block i hi)⟩

/-- The bytes of a row of choices. -/
structure CodeRow where
  a : Option Addr
  len : Nat
  cap : Nat
  maps : List (Nat × List Int)
instance : Inhabited CodeRow := ⟨⟨none, 0, 0, []⟩⟩
/-- Block b is a map that has exactly these keys, each with 'true'. -/
def MapAt (w : World) (b : Nat) (ks : List Int) : Prop := ∃ es clock, w.heap[b]? = some (.map es clock) ∧ es.toList.map (fun e => (e.key, e.val)) = ks.map (fun k => (Value.int .i64 k, Value.bool true))
theorem MapAt.lt {w : World} {b : Nat} {ks : List Int} (h : MapAt w b ks) : b < w.heap.size := by obtain ⟨es, clock, hh, _⟩ := h; exact (Array.getElem?_eq_some_iff.1 hh).1
theorem MapAt.same {w w' : World} {b : Nat} {ks : List Int} (h : MapAt w b ks) (k : w'.heap[b]? = w.heap[b]?) : MapAt w' b ks := by obtain ⟨es, clock, hh, he⟩ := h; exact ⟨es, clock, k.trans hh, he⟩
theorem MapAt.ne {w : World} {b g : Nat} {ks : List Int} {cs : Array Value} {T : TypeId} (h : MapAt w b ks) (hg : w.heap[g]? = some (.cells cs T (0, 0))) : b ≠ g := by
  rintro rfl
  obtain ⟨es, clock, hh, _⟩ := h
  rw [hh] at hg
  cases hg
/-- Block c holds a row of choices: a slice of bytes, and how many of them are used. -/
def CodesAt (q : CodeRow) (w : World) (c : Nat) : Prop :=
  ∃ (pos : Nat) (T : TypeId), w.heap[c]? = some (.cells #[.slice q.a q.len q.cap, .int .i64 pos] T (0, 0)) ∧ pos ≤ q.len ∧ q.len ≤ 65536 ∧
    (0 < q.len → ∃ blk off, q.a = some ⟨blk, off, none⟩ ∧ blk ≠ c ∧ ∀ i, i < q.len → ∃ n : Nat, n < 256 ∧ w.cell? ⟨blk, off + i, none⟩ = some (.int .u8 n))
section
variable {q : CodeRow} {w w' w0 : World} {c : Nat}
theorem CodesAt.lt (h : CodesAt q w c) : c < w.heap.size := by
  obtain ⟨pos, T, hh, _⟩ := h
  exact (Array.getElem?_eq_some_iff.1 hh).1
/-- The choices stay what they were while other blocks are written that were not there when the choices were. -/
theorem CodesAt.kept (h0 : CodesAt q w0 c) (h : CodesAt q w c) {row : Option Nat} (k : w.grownBy w' row) (hrow : ∀ g, row = some g → w0.heap.size ≤ g) : CodesAt q w' c := by
  have hc := h.lt
  have hc0 := h0.lt
  obtain ⟨pos0, T0, hh0, _, _, hx0⟩ := h0
  obtain ⟨pos, T, hh, hp, hl, hx⟩ := h
  refine ⟨pos, T, (k.block c hc (fun e => by have := hrow c e.symm; omega)).trans hh, hp, hl, fun hl0 => ?_⟩
  obtain ⟨blk0, off0, e0, hnb0, hi0⟩ := hx0 hl0
  obtain ⟨blk, off, ha, hnb, hi⟩ := hx hl0
  refine ⟨blk, off, ha, hnb, fun i hil => ?_⟩
  obtain ⟨n, hn, hcell⟩ := hi i hil
  refine ⟨n, hn, ?_⟩
  obtain ⟨_, _, hcell0⟩ := hi0 i hil
  have e : blk = blk0 := by rw [e0] at ha; simp at ha; exact ha.1.symm
  have hlt := block_lt_of_cell (a := ⟨blk0, off0 + i, none⟩) hcell0
  simp only at hlt
  exact (World.cell?_of_block (w := w) (k.block blk (block_lt_of_cell (a := ⟨blk, off + i, none⟩) hcell) (fun e' => by have := hrow blk e'.symm; omega))).trans hcell
theorem CodesAt.ext (h : CodesAt q w c) (k : Ext w w') : CodesAt q w' c :=
  h.kept h (row := none) ⟨k.os, k.tape, k.output, k.size, fun i hi _ => k.block i hi⟩ (fun g hg => by cases hg)
theorem CodesAt.alloc (h : CodesAt q w c) (o : Obj) : CodesAt q (w.alloc o) c := h.ext ((Ext.refl w).alloc o)
theorem CodesAt.drew (h : CodesAt q w c) : CodesAt q w.drew c := h
theorem CodesAt.drewN (h : CodesAt q w c) (n : Nat) : CodesAt q (w.drewN n) c := h
theorem CodesAt.setCell (h0 : CodesAt q w0 c) (h : CodesAt q w c) {p : Addr} (hp : w0.heap.size ≤ p.block) (u : Value) : CodesAt q (w.setCell p u) c :=
  h0.kept h (row := some p.block) ((Only.refl p.block w).setCell (.inl rfl) u) (fun g hg => by simp at hg; omega)
/-- The count of used choices is stored. -/
theorem CodesAt.advance {pos : Nat} {T : TypeId} (hh : w.heap[c]? = some (.cells #[.slice q.a q.len q.cap, .int .i64 pos] T (0, 0))) (hp : pos < q.len) (hl : q.len ≤ 65536)
    (hd : 0 < q.len → ∃ blk off, q.a = some ⟨blk, off, none⟩ ∧ blk ≠ c ∧ ∀ i, i < q.len → ∃ n : Nat, n < 256 ∧ w.cell? ⟨blk, off + i, none⟩ = some (.int .u8 n)) :
    CodesAt q (w.setCell ⟨c, 1, none⟩ (.int .i64 ((pos : Int) + 1))) c := by
  refine ⟨pos + 1, T, ?_, by omega, hl, fun h0 => ?_⟩
  · rw [heap_setCell_same w c 1 _ T _ hh]; simp
  · obtain ⟨blk, off, ha, hnb, hi⟩ := hd h0
    refine ⟨blk, off, ha, hnb, fun i hl => ?_⟩
    obtain ⟨n, hn, hcell⟩ := hi i hl
    refine ⟨n, hn, ?_⟩
    rw [World.cell?_of_block (w := w) (Below.heap_setCell w ⟨c, 1, none⟩ _ blk hnb)]
    exact hcell
end

theorem ownsRow_only {w w' : World} {base c : Nat} {e : TypeId} {size : Nat} {v : Value} {n : Nat} {xs : List Value} (h : w.ownsRow base e size v n xs) (k : Only c w w') (hc : c < base) : w'.ownsRow base e size v n xs :=
  h.kept k (by
    cases hv : v.ownBlock with
    | none => exact .inl rfl
    | some g => refine .inr ?_; have h1 := (h.lt g hv).1; simp; omega)
theorem ownsRow_ext {w w' : World} {base : Nat} {e : TypeId} {size : Nat} {v : Value} {n : Nat} {xs : List Value} (h : w.ownsRow base e size v n xs) (k : Ext w w') : w'.ownsRow base e size v n xs :=
  h.kept (row := none) ⟨k.os, k.tape, k.output, k.size, fun i hi _ => k.block i hi⟩ (by
    cases hv : v.ownBlock with
    | none => exact .inl rfl
    | some g => exact .inr (by simp))
/-- An append to a row of the call's own changes nothing old. -/
theorem Only.grown {c : Nat} {w0 w w' : World} {base : Nat} {e : TypeId} {size : Nat} {v : Value} {n : Nat} {xs : List Value} (h : Only c w0 w) (hown : w.ownsRow base e size v n xs) (k : w.grownBy w' v.ownBlock) (hb : w0.heap.size ≤ base) : Only c w0 w' :=
  ⟨k.os.trans h.os, k.tape.trans h.tape, k.output.trans h.output, Nat.le_trans h.size k.size, fun i hi hn => (k.block i (Nat.lt_of_lt_of_le hi h.size) (fun e => by have := (hown.lt i e.symm).1; omega)).trans (h.block i hi hn)⟩
theorem Ext.grown {w0 w w' : World} {base : Nat} {e : TypeId} {size : Nat} {v : Value} {n : Nat} {xs : List Value} (h : Ext w0 w) (hown : w.ownsRow base e size v n xs) (k : w.grownBy w' v.ownBlock) (hb : w0.heap.size ≤ base) : Ext w0 w' :=
  ⟨k.os.trans h.os, k.tape.trans h.tape, k.output.trans h.output, Nat.le_trans h.size k.size, fun i hi => (k.block i (Nat.lt_of_lt_of_le hi h.size) (fun e => by have := (hown.lt i e.symm).1; omega)).trans (h.block i hi)⟩
theorem CodesAt.grown {q : CodeRow} {c : Nat} {w0 w w' : World} {base : Nat} {e : TypeId} {size : Nat} {v : Value} {n : Nat} {xs : List Value} (h0 : CodesAt q w0 c) (h : CodesAt q w c) (hown : w.ownsRow base e size v n xs) (k : w.grownBy w' v.ownBlock) (hb : w0.heap.size ≤ base) : CodesAt q w' c :=
  h0.kept h k (fun g hg => by have := (hown.lt g hg).1; omega)
/-- 'string(b)' of a row of bytes that the call owns. -/
theorem conv_bytes {P : Program} (w : World) (src dst e : TypeId) (base : Nat) (v : Value) (l : List UInt8) (n : Nat) (hs : P.underlying src = some (.slice e)) (he : P.underlying e = some (.int .u8)) (hd : P.underlying dst = some .string)
    (hn : l.length = n) (hown : w.ownsRow base e 1 v n (l.map fun b => Value.int .u8 (b.toNat : Int))) : (convert src dst v).run P w = .ok (.string ⟨l.toArray⟩) w := by
  subst hn
  have hown' := hown
  rcases hown.2 with ⟨rfl, h0⟩ | ⟨g, cap, cur, rfl, hg, hh, hnc, hm, hsz, ht⟩
  · have : l = [] := List.length_eq_zero_iff.1 h0
    subst this
    exact Lib.run_convert_nil_bytes w src dst e 0 hs he hd
  · refine run_convert_bytes_back w src dst e ⟨g, 0, none⟩ cap l hs he hd (fun j hj => ?_)
    exact hown'.cells (g := g) rfl j _ (by simp [List.getElem?_eq_getElem hj])
theorem cell_new (w : World) (v : Value) (e : TypeId) : ∀ (j : Nat) (u : Value), [v][j]? = some u → (w.alloc (.cells #[v] e)).cell? ((⟨w.heap.size, 0, none⟩ : Addr).add j) = some u := by
  intro j u hj
  match j, hj with
  | 0, hj => simp at hj; subst hj; simp [Addr.add]
theorem ret_bool {a b : Bool} (h : a = b) : Ending.returned (.bool a) = .returned (.bool b) := by rw [h]
theorem ret_int {k : IntKind} {a b : Int} (h : a = b) : Ending.returned (.int k a) = .returned (.int k b) := by rw [h]
end Go.Proofs.YtnfkplohpjfocaaGreat

namespace Go.Proofs.YtnfkplohpjfocaaGreat
open Go.RowKit

/-- The cells of pages, one after the other. -/
def cellVals (l : List (Bool × ByteArray)) : List Value := l.flatMap fun x => [.bool x.1, .string x.2]
/-- A page as a row of 2 + 2 * 16 cells. -/
def pgLst (id lsn : Int) (l : List (Bool × ByteArray)) : List Value := Value.int .i64 id :: Value.int .i64 lsn :: cellVals l
abbrev pgArr (id lsn : Int) (l : List (Bool × ByteArray)) : Array Value := (pgLst id lsn l).toArray

theorem cellVals_length (l : List (Bool × ByteArray)) : (cellVals l).length = 2 * l.length := by
  induction l with
  | nil => rfl
  | cons x l ih => simp only [cellVals, List.flatMap_cons, List.length_append, List.length_cons, List.length_nil] at *; omega
theorem cellVals_get (l : List (Bool × ByteArray)) (i : Nat) (b : Bool) (s : ByteArray) (h : l[i]? = some (b, s)) : (cellVals l)[2 * i]? = some (.bool b) ∧ (cellVals l)[2 * i + 1]? = some (.string s) := by
  induction l generalizing i with
  | nil => simp at h
  | cons x l ih =>
    cases i with
    | zero => simp at h; subst h; exact ⟨rfl, rfl⟩
    | succ i =>
      have := ih i (by simpa using h)
      have e : 2 * (i + 1) = 2 * i + 1 + 1 := by omega
      have c : cellVals (x :: l) = .bool x.1 :: .string x.2 :: cellVals l := rfl
      rw [c, e]
      exact ⟨by simpa using this.1, by simpa using this.2⟩
theorem cellVals_set (l : List (Bool × ByteArray)) (i : Nat) (b : Bool) (s : ByteArray) : ((cellVals l).set (2 * i) (.bool b)).set (2 * i + 1) (.string s) = cellVals (l.set i (b, s)) := by
  induction l generalizing i with
  | nil => rfl
  | cons x l ih =>
    have c : cellVals (x :: l) = .bool x.1 :: .string x.2 :: cellVals l := rfl
    cases i with
    | zero => rfl
    | succ i =>
      have e : 2 * (i + 1) = 2 * i + 1 + 1 := by omega
      rw [c, e]
      have := ih i
      simp only [List.set_cons_succ]
      rw [this]
      rfl
theorem pgArr_size (id lsn : Int) (l : List (Bool × ByteArray)) : (pgArr id lsn l).size = 2 + 2 * l.length := by
  unfold pgArr pgLst; simp [cellVals_length]; omega
theorem pgArr_get0 (id lsn : Int) (l : List (Bool × ByteArray)) : (pgArr id lsn l)[0]? = some (.int .i64 id) := rfl
theorem pgArr_get1 (id lsn : Int) (l : List (Bool × ByteArray)) : (pgArr id lsn l)[1]? = some (.int .i64 lsn) := rfl
theorem pgArr_get (id lsn : Int) (l : List (Bool × ByteArray)) (i : Nat) (b : Bool) (s : ByteArray) (h : l[i]? = some (b, s)) :
    (pgArr id lsn l)[2 + i * 2]? = some (.bool b) ∧ (pgArr id lsn l)[2 + i * 2 + 1]? = some (.string s) := by
  have := cellVals_get l i b s h
  unfold pgArr pgLst
  rw [List.getElem?_toArray, List.getElem?_toArray, show 2 + i * 2 + 1 = (2 * i + 1) + 1 + 1 by omega, show 2 + i * 2 = (2 * i) + 1 + 1 by omega]
  exact this
theorem pgArr_set (id lsn : Int) (l : List (Bool × ByteArray)) (i : Nat) (b : Bool) (s : ByteArray) :
    ((pgArr id lsn l).setIfInBounds (2 + i * 2) (.bool b)).setIfInBounds (2 + i * 2 + 1) (.string s) = pgArr id lsn (l.set i (b, s)) := by
  unfold pgArr pgLst
  rw [← cellVals_set l i b s, show 2 + i * 2 + 1 = (2 * i + 1) + 1 + 1 by omega, show 2 + i * 2 = (2 * i) + 1 + 1 by omega]
  simp
theorem pgArr_set0 (id lsn x : Int) (l : List (Bool × ByteArray)) : (pgArr id lsn l).setIfInBounds 0 (.int .i64 x) = pgArr x lsn l := by unfold pgArr pgLst; simp
theorem pgArr_set1 (id lsn x : Int) (l : List (Bool × ByteArray)) : (pgArr id lsn l).setIfInBounds 1 (.int .i64 x) = pgArr id x l := by unfold pgArr pgLst; simp
theorem pgArr_one (id lsn : Int) (l : List (Bool × ByteArray)) : (pgArr id lsn l).all (·.oneCell') = true := by
  have h : ∀ l, (cellVals l).all (·.oneCell') = true := by
    intro l
    induction l with
    | nil => rfl
    | cons x l ih => have c : cellVals (x :: l) = .bool x.1 :: .string x.2 :: cellVals l := rfl; rw [c]; simpa [Value.oneCell'] using ih
  unfold pgArr pgLst
  rw [List.all_toArray]
  simpa [Value.oneCell'] using h l
theorem list_get_of_lt {α : Type} (l : List α) (i n : Nat) (h : l.length = n) (hi : i < n) : ∃ x, l[i]? = some x := ⟨l[i]'(by omega), List.getElem?_eq_getElem (by omega)⟩
theorem pgLst_length (id lsn : Int) (l : List (Bool × ByteArray)) : (pgLst id lsn l).length = 2 + 2 * l.length := by
  unfold pgLst; simp [cellVals_length]; omega
theorem pgLst_get (id lsn : Int) (l : List (Bool × ByteArray)) (i : Nat) (b : Bool) (s : ByteArray) (h : l[i]? = some (b, s)) :
    (pgLst id lsn l)[2 + i * 2]? = some (.bool b) ∧ (pgLst id lsn l)[2 + i * 2 + 1]? = some (.string s) := by
  have := pgArr_get id lsn l i b s h
  simpa only [List.getElem?_toArray] using this
theorem pgLst_set (id lsn : Int) (l : List (Bool × ByteArray)) (i : Nat) (b : Bool) (s : ByteArray) :
    ((pgLst id lsn l).set (2 + i * 2) (.bool b)).set (2 + i * 2 + 1) (.string s) = pgLst id lsn (l.set i (b, s)) := by
  unfold pgLst
  rw [← cellVals_set l i b s, show 2 + i * 2 + 1 = (2 * i + 1) + 1 + 1 by omega, show 2 + i * 2 = (2 * i) + 1 + 1 by omega]
  simp
theorem pgLst_one (id lsn : Int) (l : List (Bool × ByteArray)) : (pgLst id lsn l).all (·.oneCell') = true := by
  have := pgArr_one id lsn l
  rwa [List.all_toArray] at this
/-- Two stores into neighbouring cells of a row. -/
theorem heap_set2 (w : World) (g i j : Nat) (cs : Array Value) (t : TypeId) (u v : Value) (hg : w.heap[g]? = some (.cells cs t (0, 0))) :
    ((w.setCell ⟨g, i, none⟩ u).setCell ⟨g, j, none⟩ v).heap[g]? = some (.cells ((cs.setIfInBounds i u).setIfInBounds j v) t (0, 0)) := by
  rw [heap_setCell_same _ g j _ t v (heap_setCell_same w g i cs t u hg)]
/-- All cells of a page are valid. -/
def okCells (l : List (Bool × ByteArray)) : Prop := ∀ x ∈ l, x.2.size ≤ 12 ∧ (x.1 = false → x.2 = ⟨#[]⟩)
theorem okCells_set {l : List (Bool × ByteArray)} (h : okCells l) (i : Nat) (b : Bool) (s : ByteArray) (hs : s.size ≤ 12) (hb : b = false → s = ⟨#[]⟩) : okCells (l.set i (b, s)) := by
  intro x hx
  rcases List.mem_or_eq_of_mem_set hx with hx | rfl
  · exact h x hx
  · exact ⟨hs, hb⟩
/-- The cells of a new page. -/
def blankCells : List (Bool × ByteArray) := List.replicate 16 (false, ⟨#[]⟩)
theorem blankCells_ok : okCells blankCells := by
  intro x hx
  have := List.eq_of_mem_replicate hx
  subst this
  exact ⟨by decide, fun _ => rfl⟩
end Go.Proofs.YtnfkplohpjfocaaGreat

namespace Go.Proofs.YtnfkplohpjfocaaGreat
open Go.RowKit
section
variable {P : Program}
/-- Block b holds these cells. -/
def Box (w : World) (b : Nat) (T : TypeId) (cs : Array Value) : Prop := w.heap[b]? = some (.cells cs T (0, 0))
theorem Box.lt {w : World} {b : Nat} {T : TypeId} {cs : Array Value} (h : Box w b T cs) : b < w.heap.size := (Array.getElem?_eq_some_iff.1 h).1
theorem Box.ext {w w' : World} {b : Nat} {T : TypeId} {cs : Array Value} (h : Box w b T cs) (k : Ext w w') : Box w' b T cs := (k.block b h.lt).trans h
theorem Box.only {w w' : World} {b c : Nat} {T : TypeId} {cs : Array Value} (h : Box w b T cs) (k : Only c w w') (hne : b ≠ c) : Box w' b T cs := (k.block b h.lt (by simpa using hne)).trans h
theorem Box.cell {w : World} {b : Nat} {T : TypeId} {cs : Array Value} (h : Box w b T cs) (o : Nat) : w.cell? ⟨b, o, none⟩ = cs[o]? := cell_of_row w b o cs T _ h
theorem Box.free {w : World} {b : Nat} {T : TypeId} {cs : Array Value} (h : Box w b T cs) (o : Nat) : w.frozen? ⟨b, o, none⟩ = false := frozen_of_row w b o cs T h
theorem Box.alloc (w : World) (T : TypeId) (cs : Array Value) : Box (w.alloc (.cells cs T)) w.heap.size T cs := heap_alloc_new w _
theorem Box.setRow {w : World} {b : Nat} {T : TypeId} {cs : Array Value} (h : Box w b T cs) (cs' : Array Value) : Box (w.setRow b cs') b T cs' := setRow_heap w b cs cs' T _ h
theorem Box.setCell {w : World} {b : Nat} {T : TypeId} {cs : Array Value} (h : Box w b T cs) (o : Nat) (v : Value) : Box (w.setCell ⟨b, o, none⟩ v) b T (cs.setIfInBounds o v) := heap_setCell_same w b o cs T v h
theorem Box.set2 {w : World} {b : Nat} {T : TypeId} {cs : Array Value} (h : Box w b T cs) (o p : Nat) (u v : Value) : Box ((w.setCell ⟨b, o, none⟩ u).setCell ⟨b, p, none⟩ v) b T ((cs.setIfInBounds o u).setIfInBounds p v) := (h.setCell o u).setCell p v
theorem Only.self_setRow (g : Nat) (y : World) (cs : Array Value) : Only g y (y.setRow g cs) :=
  ⟨rfl, rfl, rfl, by simp, fun i _ hne => setRow_other y g i cs (fun e => hne (by rw [e]))⟩
theorem Only.self_setCell (g o : Nat) (y : World) (v : Value) : Only g y (y.setCell ⟨g, o, none⟩ v) := (Only.refl g y).setCell (.inl rfl) v
/-- A change of block g, which is new since x. -/
theorem Only.past {c g : Nat} {x y z : World} (h : Only c x y) (k : Only g y z) (hg : x.heap.size ≤ g) : Only c x z :=
  ⟨k.os.trans h.os, k.tape.trans h.tape, k.output.trans h.output, Nat.le_trans h.size k.size, fun i hi hn => (k.block i (Nat.lt_of_lt_of_le hi h.size) (by simp; omega)).trans (h.block i hi hn)⟩
theorem CodesAt.past {q : CodeRow} {c g : Nat} {x y z : World} (h0 : CodesAt q x c) (h : CodesAt q y c) (k : Only g y z) (hg : x.heap.size ≤ g) : CodesAt q z c :=
  h0.kept h k (fun i hi => by simp at hi; omega)

/-- What an allocation leaves. -/
structure NewBox (w w' : World) (b : Nat) (T : TypeId) (cs : Array Value) : Prop where
  at_ : b = w.heap.size
  box : Box w' b T cs
  ext : Ext w w'
  size : w'.heap.size = w.heap.size + 1
theorem NewBox.of (w : World) (T : TypeId) (cs : Array Value) : NewBox w (w.alloc (.cells cs T)) w.heap.size T cs := ⟨rfl, Box.alloc w T cs, (Ext.refl w).alloc _, by simp⟩

section
variable {ops : Array Oper} {rest : List Oper} {o : Oper} {a : Act} {w : World} {Q : Exit → Act → World → Prop}
theorem wl_alloc (hgd : o.guard = none) (ty : TypeId) (ho : o.op = .alloc ty) (z : Value) (cs : Array Value) (hz : (P.info? ty).bind (·.zero) = some z) (hcs : z.cells = cs)
    (h : ∀ w' b, NewBox w w' b ty cs → wpList P ops Q rest (a.put o.dst (.pointer (some ⟨b, 0, none⟩))) w') : wpList P ops Q (o :: rest) a w :=
  wpList_plain hgd fun _ hK => by
    subst hcs
    cases hi : P.info? ty with
    | none => simp [hi] at hz
    | some i =>
      have hz' : i.zero = some z := by simpa [hi] using hz
      unfold Oper.wp execOp
      simp only [ho]
      have hr : (Instr.alloc ty true (.tuple #[])).run P w = .ok (.pointer (some ⟨w.heap.size, 0, none⟩)) (w.alloc (.cells z.cells ty)) := by
        simp [Instr.alloc, zeroValue, typeInfo, hi, hz', newVar, newRow]
      simp only [Sem.run_bind, hr, Result.andThen_ok, Sem.run_pure]
      exact hK _ _ (h _ _ (NewBox.of w ty z.cells))
theorem wl_box (hgd : o.guard = none) (ty : TypeId) (x : Operand) (ho : o.op = .box ty x) (cs : Array Value) (hcs : (a.eval x).cells = cs)
    (h : ∀ w' b, NewBox w w' b ty cs → wpList P ops Q rest (a.put o.dst (.pointer (some ⟨b, 0, none⟩))) w') : wpList P ops Q (o :: rest) a w :=
  wpList_plain hgd fun _ hK => by
    subst hcs
    unfold Oper.wp execOp
    simp only [ho]
    have hr : (Instr.box ty (a.eval x)).run P w = .ok (.pointer (some ⟨w.heap.size, 0, none⟩)) (w.alloc (.cells (a.eval x).cells ty)) := by
      simp [Instr.box, newVar, newRow]
    simp only [Sem.run_bind, hr, Result.andThen_ok, Sem.run_pure]
    exact hK _ _ (h _ _ (NewBox.of w ty _))
/-- A whole struct is stored into its block. -/
theorem wl_store (hgd : o.guard = none) (ty : TypeId) (x y : Operand) (ho : o.op = .store ty x y) (hd : o.dst = none)
    (g : Nat) (cells : Array Value) (hx : a.eval x = .pointer (some ⟨g, 0, none⟩)) (hy : a.eval y = .agg cells)
    (t : TypeId) (old : Array Value) (hg : Box w g t old) (hi : (P.info? ty).map (·.size) = some cells.size)
    (hold : old.size = cells.size) (h1 : cells.all (·.oneCell') = true)
    (h : ∀ w', Box w' g t cells → Only g w w' → w'.heap.size = w.heap.size → wpList P ops Q rest a w') : wpList P ops Q (o :: rest) a w :=
  wpList_store_rowTo hgd ty x y ho hd g cells hx hy t old hg hi hold h1 (h _ (hg.setRow cells) (Only.self_setRow g w cells) (by simp))
/-- A whole struct is read out of its block. -/
theorem wl_load (hgd : o.guard = none) (ty : TypeId) (x : Operand) (ho : o.op = .load ty x)
    (g : Nat) (hx : a.eval x = .pointer (some ⟨g, 0, none⟩)) (t : TypeId) (cs : Array Value) (d : TypeDesc) (hg : Box w g t cs)
    (hu : P.underlying ty = some d) (hd : (match d with | .struct _ | .array _ _ => true | _ => false) = true) (hi : (P.info? ty).map (·.size) = some cs.size)
    (h : wpList P ops Q rest (a.put o.dst (.agg cs)) w) : wpList P ops Q (o :: rest) a w :=
  wpList_load_row hgd ty x ho g hx t cs _ d hg hu hd hi h
end
end
end Go.Proofs.YtnfkplohpjfocaaGreat
