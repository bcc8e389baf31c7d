/-
  A verified evaluator: what abstract values and memory mean in a world of the model, and what becomes of that when memory is made or written. No function of the program is named here.
-/
import Derived.Test.YtmbbciidknchiaaGreatEnC
import Derived.Laws.CopyRow
import Derived.Laws.Cells
import Derived.Laws.Rows
import Derived.Laws.NewBlocks
import Derived.Below
namespace Go.Proofs.YtmbbciidknchiaaGreat
/-- What the named numbers and strings are. -/
structure Vn where
  i : Nat → Int
  s : Nat → ByteArray
/-- Where the blocks lie: block, first cell, cells of the block. -/
abbrev Emb := Bid → Option (Nat × Nat × Nat)
def PtrAt (φ : Emb) (p : Bid × Nat) (v : Value) : Prop := ∃ b base tot, φ p.1 = some (b, base, tot) ∧ v = .pointer (some ⟨b, base + p.2, none⟩)
def VC (ρ : Vn) (φ : Emb) (x : AC) (v : Value) : Prop :=
  match x with
  | .b x => v = .bool x
  | .i k n => v = .int k n
  | .s l => ∃ y : ByteArray, v = .string y ∧ y.data.toList.map UInt8.toNat = l
  | .pn => v = .pointer none
  | .p id off => PtrAt φ (id, off) v
  | .sn => v = .slice none 0 0
  | .sl id off len cap => ∃ b base tot, φ id = some (b, base, tot) ∧ v = .slice (some ⟨b, base + off, none⟩) len cap
  | .su id off len lb es => ∃ b base tot cap, φ id = some (b, base, tot) ∧ v = .slice (some ⟨b, base + off, none⟩) len cap ∧ len ≤ lb ∧ lb ≤ cap ∧ base + off + cap * es ≤ tot
  | .se id es => ∃ b base tot o cap, φ id = some (b, base, tot) ∧ v = .slice (some ⟨b, o, none⟩) 0 cap ∧ o + cap * es ≤ tot
  | .mn => v = .map none
  | .mp id => ∃ b base tot, φ id = some (b, base, tot) ∧ v = .map (some b)
  | .fn f first caps => ∃ xs ys : List Value, v = .func (.func f.num) xs.toArray ys.toArray ∧ All2 (PtrAt φ) first xs ∧ All2 (PtrAt φ) caps ys
  | .fz => v = .nilFunc
  | .ni => v = .nilIface
  | .si k y => v = .int k (ρ.i y)
  | .ss y => v = .string (ρ.s y)
  | .top => ∃ y, v = .string y
def VT (ρ : Vn) (φ : Emb) (x : TV) (v : Value) : Prop :=
  match x with
  | .c x => VC ρ φ x v
  | .a l => ∃ vs : List Value, v = .agg vs.toArray ∧ All2 (VC ρ φ) l vs
def VV (ρ : Vn) (φ : Emb) (x : AV) (v : Value) : Prop :=
  match x with
  | .c x => VC ρ φ x v
  | .a l => ∃ vs : List Value, v = .agg vs.toArray ∧ All2 (VC ρ φ) l vs
  | .t l => ∃ vs : List Value, v = .tuple vs.toArray ∧ All2 (VT ρ φ) l vs
/-- more is laid -/
def Emb.le (φ φ' : Emb) : Prop := ∀ id x, φ id = some x → φ' id = some x
section
variable {ρ : Vn} {φ φ' : Emb}
theorem PtrAt.le (h : φ.le φ') {p : Bid × Nat} {v : Value} (hp : PtrAt φ p v) : PtrAt φ' p v := by
  obtain ⟨b, base, tot, h1, h2⟩ := hp
  exact ⟨b, base, tot, h _ _ h1, h2⟩
theorem VC.le (h : φ.le φ') {x : AC} {v : Value} (hv : VC ρ φ x v) : VC ρ φ' x v := by
  cases x with
  | p id off => exact PtrAt.le h hv
  | sl id off len cap => obtain ⟨b, base, tot, h1, h2⟩ := hv; exact ⟨b, base, tot, h _ _ h1, h2⟩
  | su id off len lb es => obtain ⟨b, base, tot, cap, h1, h2⟩ := hv; exact ⟨b, base, tot, cap, h _ _ h1, h2⟩
  | se id es => obtain ⟨b, base, tot, o, cap, h1, h2⟩ := hv; exact ⟨b, base, tot, o, cap, h _ _ h1, h2⟩
  | mp id => obtain ⟨b, base, tot, h1, h2⟩ := hv; exact ⟨b, base, tot, h _ _ h1, h2⟩
  | fn f first caps => obtain ⟨xs, ys, h1, h2, h3⟩ := hv; exact ⟨xs, ys, h1, h2.mono fun _ _ => PtrAt.le h, h3.mono fun _ _ => PtrAt.le h⟩
  | _ => exact hv
theorem VT.le (h : φ.le φ') {x : TV} {v : Value} (hv : VT ρ φ x v) : VT ρ φ' x v := by
  cases x with
  | c x => exact VC.le h hv
  | a l => obtain ⟨vs, h1, h2⟩ := hv; exact ⟨vs, h1, h2.mono fun _ _ => VC.le h⟩
theorem VV.le (h : φ.le φ') {x : AV} {v : Value} (hv : VV ρ φ x v) : VV ρ φ' x v := by
  cases x with
  | c x => exact VC.le h hv
  | a l => obtain ⟨vs, h1, h2⟩ := hv; exact ⟨vs, h1, h2.mono fun _ _ => VC.le h⟩
  | t l => obtain ⟨vs, h1, h2⟩ := hv; exact ⟨vs, h1, h2.mono fun _ _ => VT.le h⟩
theorem VC.one {x : AC} {v : Value} (hv : VC ρ φ x v) : v.oneCell' = true := by
  cases x with
  | s l => obtain ⟨y, rfl, _⟩ := hv; rfl
  | p id off => obtain ⟨b, base, tot, _, rfl⟩ := hv; rfl
  | sl id off len cap => obtain ⟨b, base, tot, _, rfl⟩ := hv; rfl
  | su id off len lb es => obtain ⟨b, base, tot, cap, _, rfl, _⟩ := hv; rfl
  | se id es => obtain ⟨b, base, tot, o, cap, _, rfl, _⟩ := hv; rfl
  | mp id => obtain ⟨b, base, tot, _, rfl⟩ := hv; rfl
  | fn f first caps => obtain ⟨xs, ys, rfl, _⟩ := hv; rfl
  | top => obtain ⟨y, rfl⟩ := hv; rfl
  | _ => rw [show v = _ from hv]; rfl
theorem cells_one {v : Value} (h : v.oneCell' = true) : v.cells = #[v] := by cases v <;> first | rfl | cases h
theorem VV.cells {x : AV} {v : Value} {l : List AC} (hv : VV ρ φ x v) (h : x.cells = some l) : All2 (VC ρ φ) l v.cells.toList := by
  cases x with
  | c x =>
    cases h
    have h1 : VC ρ φ x v := hv
    rw [cells_one h1.one]
    exact .cons h1 .nil
  | a m => cases h; obtain ⟨vs, rfl, h2⟩ := hv; exact h2
  | t m => cases h
theorem All2.ones {l : List AC} {vs : List Value} (h : All2 (VC ρ φ) l vs) : ∀ v ∈ vs, v.oneCell' = true := by
  induction h with
  | nil => simp
  | cons h _ ih =>
    intro v hv
    rcases List.mem_cons.1 hv with rfl | hv
    · exact h.one
    · exact ih v hv
theorem VT.av {x : TV} {v : Value} (h : VT ρ φ x v) : VV ρ φ x.av v := by cases x <;> exact h
theorem VV.tv {x : AV} {v : Value} {y : TV} (h : VV ρ φ x v) (hy : x.tv = some y) : VT ρ φ y v := by
  cases x with
  | c x => cases hy; exact h
  | a x => cases hy; exact h
  | t x => cases hy
end
/-- A frame. -/
def FR (ρ : Vn) (φ : Emb) (fr : Fr) (tmps : Array Value) : Prop := ∀ i j v, getF i j fr = some v → tn i j < tmps.size ∧ VV ρ φ v (tmps.getD (tn i j) undef)
theorem FR.le {ρ : Vn} {φ φ' : Emb} {fr : Fr} {tmps : Array Value} (h : FR ρ φ fr tmps) (k : φ.le φ') : FR ρ φ' fr tmps := fun i j v hv => ⟨(h i j v hv).1, (h i j v hv).2.le k⟩
/-- Block b, from cell 'base' on, holds these cells. -/
def CellsAt (ρ : Vn) (φ : Emb) (c : List AC) (base : Nat) (arr : Array Value) : Prop := base + c.length ≤ arr.size ∧ ∀ (o : Nat) x, c[o]? = some x → ∃ v, arr[base + o]? = some v ∧ VC ρ φ x v
/-- Memory. -/
structure Rel (ρ : Vn) (φ : Emb) (h : Hp) (w : World) : Prop where
  cells : ∀ id c, h.get id = some (.cells c) → ∃ b base arr T, φ id = some (b, base, arr.size) ∧ w.heap[b]? = some (.cells arr T (0, 0)) ∧ CellsAt ρ φ c base arr
  maps : ∀ id l, h.get id = some (.map l) → ∃ b es clock, φ id = some (b, 0, 0) ∧ w.heap[b]? = some (.map es clock) ∧ All2 (fun (e : AV × AV) (x : MapEntry) => VV ρ φ e.1 x.key ∧ VV ρ φ e.2 x.val) l es.toList
  inj : ∀ id id' x x', (h.get id).isSome → (h.get id').isSome → φ id = some x → φ id' = some x' → x.1 = x'.1 → id = id'
  low : ∀ id, (h.get id).isSome → id.num < h.next.num
  free : ∀ id, h.next.num ≤ id.num → φ id = none
theorem CellsAt.le {ρ : Vn} {φ φ' : Emb} {c : List AC} {base : Nat} {arr : Array Value} (h : CellsAt ρ φ c base arr) (k : φ.le φ') : CellsAt ρ φ' c base arr :=
  ⟨h.1, fun o x hx => let ⟨v, h1, h2⟩ := h.2 o x hx; ⟨v, h1, h2.le k⟩⟩
/-- What a step of the program does to memory. -/
structure Stp (ρ : Vn) (φ : Emb) (h : Hp) (w : World) (φ' : Emb) (h' : Hp) (w' : World) : Prop where
  le : φ.le φ'
  rel : Rel ρ φ' h' w'
  size : w.heap.size ≤ w'.heap.size
  frame : ∀ b, b < w.heap.size → (∀ id x, (h.get id).isSome → φ id = some x → x.1 ≠ b) → w'.heap[b]? = w.heap[b]?
  sub : ∀ id x, (h'.get id).isSome → φ' id = some x → x.1 < w.heap.size → ∃ id0 x0, (h.get id0).isSome ∧ φ id0 = some x0 ∧ x0.1 = x.1
  next : h.next.num ≤ h'.next.num
  dom : ∀ id, φ' id ≠ none → φ id ≠ none ∨ h.next.num ≤ id.num
  os : w'.os = w.os
  tape : w'.tape = w.tape
  output : w'.output = w.output
section
variable {ρ : Vn} {φ φ' φ'' : Emb} {h h' h'' : Hp} {w w' w'' : World}
theorem Rel.block (r : Rel ρ φ h w) {id : Bid} {x : Nat × Nat × Nat} (hl : (h.get id).isSome) (hx : φ id = some x) : x.1 < w.heap.size := by
  cases hb : h.get id with
  | none => rw [hb] at hl; cases hl
  | some b =>
    cases b with
    | cells c =>
      obtain ⟨b, base, arr, T, h1, h2, _⟩ := r.cells id c hb
      rw [hx] at h1; cases h1
      exact (Array.getElem?_eq_some_iff.1 h2).1
    | map l =>
      obtain ⟨b, es, cl, h1, h2, _⟩ := r.maps id l hb
      rw [hx] at h1; cases h1
      exact (Array.getElem?_eq_some_iff.1 h2).1
theorem Rel.has (r : Rel ρ φ h w) {id : Bid} (hl : (h.get id).isSome) : ∃ x, φ id = some x := by
  cases hb : h.get id with
  | none => rw [hb] at hl; cases hl
  | some b =>
    cases b with
    | cells c => obtain ⟨b, base, arr, T, h1, _⟩ := r.cells id c hb; exact ⟨_, h1⟩
    | map l => obtain ⟨b, es, cl, h1, _⟩ := r.maps id l hb; exact ⟨_, h1⟩
theorem Stp.refl (r : Rel ρ φ h w) : Stp ρ φ h w φ h w :=
  ⟨fun _ _ h => h, r, Nat.le_refl _, fun _ _ _ => rfl, fun id x hl hx _ => ⟨id, x, hl, hx, rfl⟩, Nat.le_refl _, fun _ h => .inl h, rfl, rfl, rfl⟩
theorem Stp.trans (a : Stp ρ φ h w φ' h' w') (b : Stp ρ φ' h' w' φ'' h'' w'') : Stp ρ φ h w φ'' h'' w'' where
  le := fun id x hx => b.le id x (a.le id x hx)
  rel := b.rel
  size := Nat.le_trans a.size b.size
  frame := fun g hg hn => (b.frame g (Nat.lt_of_lt_of_le hg a.size) fun id x hl hx he => by
    obtain ⟨id0, x0, h1, h2, h3⟩ := a.sub id x hl hx (by omega)
    exact hn id0 x0 h1 h2 (h3.trans he)).trans (a.frame g hg hn)
  sub := fun id x hl hx hs => by
    obtain ⟨id1, x1, h1, h2, h3⟩ := b.sub id x hl hx (Nat.lt_of_lt_of_le hs a.size)
    obtain ⟨id0, x0, h4, h5, h6⟩ := a.sub id1 x1 h1 h2 (by omega)
    exact ⟨id0, x0, h4, h5, h6.trans h3⟩
  next := Nat.le_trans a.next b.next
  dom := fun id hd => by
    rcases b.dom id hd with h1 | h1
    · exact a.dom id h1
    · exact .inr (Nat.le_trans a.next h1)
  os := b.os.trans a.os
  tape := b.tape.trans a.tape
  output := b.output.trans a.output
/-- the world has only drawn -/
theorem Rel.same (r : Rel ρ φ h w) (hh : w'.heap = w.heap) : Rel ρ φ h w' :=
  ⟨by rw [hh]; exact r.cells, by rw [hh]; exact r.maps, r.inj, r.low, r.free⟩
theorem Stp.draw (r : Rel ρ φ h w) (n : Nat) : Stp ρ φ h w φ h { w with drawn := n } :=
  ⟨fun _ _ h => h, r.same rfl, Nat.le_refl _, fun _ _ _ => rfl, fun id x hl hx _ => ⟨id, x, hl, hx, rfl⟩, Nat.le_refl _, fun _ h => .inl h, rfl, rfl, rfl⟩
theorem Rel.ld (r : Rel ρ φ h w) {id : Bid} {off : Nat} {x : AC} (hx : h.ld id off = some x) : ∃ b base tot v, φ id = some (b, base, tot) ∧ w.cell? ⟨b, base + off, none⟩ = some v ∧ VC ρ φ x v := by
  obtain ⟨c, hc, hl⟩ := ob_some hx
  obtain ⟨bk, hb, hk⟩ := ob_some hc
  cases bk with
  | map l => cases hk
  | cells c' =>
    cases hk
    obtain ⟨b, base, arr, T, h1, h2, h3, h4⟩ := r.cells id c hb
    rw [lget_eq] at hl
    obtain ⟨v, h5, h6⟩ := h4 off x hl
    exact ⟨b, base, _, v, h1, by rw [cell_of_row w b _ arr T _ h2]; exact h5, h6⟩
theorem Rel.lds (r : Rel ρ φ h w) {id : Bid} {off k : Nat} {l : List AC} (hx : h.lds id off k = some l) : ∃ b base tot vs, φ id = some (b, base, tot) ∧ vs.length = k ∧ All2 (VC ρ φ) l vs ∧ (∀ (j : Nat) v, vs[j]? = some v → w.cell? ⟨b, base + off + j, none⟩ = some v) := by
  obtain ⟨c, hc, hl⟩ := ob_some hx
  obtain ⟨bk, hb, hk⟩ := ob_some hc
  cases bk with
  | map l => cases hk
  | cells c' =>
    cases hk
    obtain ⟨b, base, arr, T, h1, h2, h3, h4⟩ := r.cells id c hb
    obtain ⟨hm, hlen, hfit⟩ := lsub_some hl
    subst hm
    refine ⟨b, base, _, (arr.toList.drop (base + off)).take k, h1, by simp; omega, ?_, ?_⟩
    · refine All2.of_get (by simp; omega) fun i x y hx hy => ?_
      have hi : i < k := by
        rcases Nat.lt_or_ge i k with h | h
        · exact h
        · rw [List.getElem?_take_eq_none (by omega)] at hx; cases hx
      rw [List.getElem?_take_of_lt hi, List.getElem?_drop] at hx hy
      obtain ⟨v, h5, h6⟩ := h4 (off + i) x hx
      rw [← Array.getElem?_toList, ← Nat.add_assoc, hy] at h5
      cases h5
      exact h6
    · intro j v hv
      have hj : j < k := by
        rcases Nat.lt_or_ge j k with h | h
        · exact h
        · rw [List.getElem?_take_eq_none (by omega)] at hv; cases hv
      rw [List.getElem?_take_of_lt hj, List.getElem?_drop] at hv
      rw [cell_of_row w b _ arr T _ h2, ← Array.getElem?_toList]
      exact hv
/-- cells are written -/
theorem Rel.sts (r : Rel ρ φ h w) {id : Bid} {off : Nat} {l : List AC} {vs : List Value} (hl : All2 (VC ρ φ) l vs) (hx : h.sts id off l = some h') : ∃ b base arr T, φ id = some (b, base, arr.size) ∧ w.heap[b]? = some (.cells arr T (0, 0)) ∧ base + off + vs.length ≤ arr.size ∧
    Stp ρ φ h w φ h' (w.setRow b (arr.toList.take (base + off) ++ vs ++ arr.toList.drop (base + off + vs.length)).toArray) := by
  obtain ⟨c, hc, hx⟩ := ob_some hx
  obtain ⟨c2, hc2, hx⟩ := ob_some hx
  obtain ⟨bk, hb, hk⟩ := ob_some hc
  cases hx
  cases bk with
  | map l => cases hk
  | cells c' =>
    cases hk
    obtain ⟨b, base, arr, T, h1, h2, h3, h4⟩ := r.cells id c hb
    have hlen := hl.length
    have hfit := (lovers_some hc2).2
    have hsz : (arr.toList.take (base + off) ++ vs ++ arr.toList.drop (base + off + vs.length)).toArray.size = arr.size := by simp; omega
    have hnew := setRow_heap w b arr (arr.toList.take (base + off) ++ vs ++ arr.toList.drop (base + off + vs.length)).toArray T (0, 0) h2
    have hlive : ∀ j, ((h.putB id (some (AB.cells c2))).get j).isSome = (h.get j).isSome := by
      intro j
      by_cases hj : j = id
      · subst hj; rw [Hp.get_putB, hb]; rfl
      · rw [Hp.get_putB_ne hj]
    refine ⟨b, base, arr, T, h1, h2, by omega, ?_⟩
    refine ⟨fun _ _ h => h, ⟨?_, ?_, ?_, ?_, ?_⟩, by simp, ?_, ?_, by rw [Hp.next_putB]; exact Nat.le_refl _, fun _ h => .inl h, rfl, rfl, rfl⟩
    · intro j d hd
      by_cases hj : j = id
      · subst hj
        rw [Hp.get_putB] at hd
        cases hd
        refine ⟨b, base, _, T, by rw [hsz]; exact h1, hnew, by rw [hsz, lovers_length hc2]; omega, fun o x hx => ?_⟩
        rw [lovers_get hc2] at hx
        rw [List.getElem?_toArray]
        have ht : (arr.toList.take (base + off)).length = base + off := by simp; omega
        by_cases hr : off ≤ o ∧ o < off + l.length
        · rw [if_pos hr] at hx
          obtain ⟨v, h5, h6⟩ := hl.get hx
          refine ⟨v, ?_, h6⟩
          rw [List.append_assoc, List.getElem?_append_right (by omega), ht, List.getElem?_append_left (by omega), ← h5]
          congr 1; omega
        · rw [if_neg hr] at hx
          obtain ⟨v, h5, h6⟩ := h4 o x hx
          refine ⟨v, ?_, h6⟩
          rw [← Array.getElem?_toList] at h5
          by_cases ho : o < off
          · rw [List.append_assoc, List.getElem?_append_left (by omega), List.getElem?_take_of_lt (by omega)]; exact h5
          · rw [List.append_assoc, List.getElem?_append_right (by omega), ht, List.getElem?_append_right (by omega), List.getElem?_drop, ← h5]
            congr 1; omega
      · rw [Hp.get_putB_ne hj] at hd
        obtain ⟨b', base', arr', T', k1, k2, k3⟩ := r.cells j d hd
        refine ⟨b', base', arr', T', k1, ?_, k3⟩
        rw [setRow_other _ _ _ _ fun e => hj (r.inj j id _ _ (by rw [hd]; rfl) (by rw [hb]; rfl) k1 h1 e)]
        exact k2
    · intro j d hd
      have hj : j ≠ id := by rintro rfl; rw [Hp.get_putB] at hd; cases hd
      rw [Hp.get_putB_ne hj] at hd
      obtain ⟨b', es, cl, k1, k2, k3⟩ := r.maps j d hd
      refine ⟨b', es, cl, k1, ?_, k3⟩
      rw [setRow_other _ _ _ _ fun e => hj (r.inj j id _ _ (by rw [hd]; rfl) (by rw [hb]; rfl) k1 h1 e)]
      exact k2
    · intro i j x y hi hj; rw [hlive] at hi hj; exact r.inj i j x y hi hj
    · intro i hi; rw [hlive] at hi; rw [Hp.next_putB]; exact r.low i hi
    · intro i hi; rw [Hp.next_putB] at hi; exact r.free i hi
    · intro g hg hn
      exact setRow_other _ _ _ _ fun e => hn id _ (by rw [hb]; rfl) h1 e.symm
    · intro i x hi hx _
      rw [hlive] at hi
      exact ⟨i, x, hi, hx, rfl⟩
/-- the map with one block more -/
def Emb.add (φ : Emb) (id : Bid) (x : Nat × Nat × Nat) : Emb := fun j => if j = id then some x else φ j
theorem Emb.add_same (φ : Emb) (id : Bid) (x : Nat × Nat × Nat) : φ.add id x id = some x := by simp [Emb.add]
theorem Emb.add_ne {id j : Bid} (hj : j ≠ id) (φ : Emb) (x : Nat × Nat × Nat) : φ.add id x j = φ j := by simp [Emb.add, hj]
theorem Emb.le_add {id : Bid} (hf : φ id = none) (x : Nat × Nat × Nat) : φ.le (φ.add id x) := fun j y hy => by
  by_cases hj : j = id
  · subst hj; rw [hf] at hy; cases hy
  · rw [Emb.add_ne hj]; exact hy
/-- a block is made -/
def Hp.more (h : Hp) (n : Bid) (b : AB) : Hp := ⟨n, put3 h.bl h.next (some b)⟩
theorem Hp.get_more_same (h : Hp) (n : Bid) (b : AB) : (h.more n b).get h.next = some b := by simp only [Hp.get, Hp.more, get3_put3]
theorem Hp.get_more_ne {h : Hp} {j : Bid} (hj : j ≠ h.next) (n : Bid) (b : AB) : (h.more n b).get j = h.get j := by cases h; simp only [Hp.get, Hp.more, get3_put3_ne hj]
/-- A new block of cells in the world, or a block that no other name has: it gets the next name. -/
theorem Rel.more (r : Rel ρ φ h w) {n : Bid} (hn : h.next.inc = some n) {b base tot : Nat} {B : AB} (hsz : w.heap.size ≤ w'.heap.size) (hs : w.heap.size ≤ b)
    (hw : ∀ g, g < w.heap.size → w'.heap[g]? = w.heap[g]?) (hos : w'.os = w.os) (htape : w'.tape = w.tape) (hout : w'.output = w.output)
    (hc : ∀ c, B = .cells c → ∃ arr T, tot = arr.size ∧ w'.heap[b]? = some (.cells arr T (0, 0)) ∧ CellsAt ρ (φ.add h.next (b, base, tot)) c base arr)
    (hm : ∀ l, B = .map l → base = 0 ∧ tot = 0 ∧ ∃ es clock, w'.heap[b]? = some (.map es clock) ∧ All2 (fun (e : AV × AV) (x : MapEntry) => VV ρ (φ.add h.next (b, base, tot)) e.1 x.key ∧ VV ρ (φ.add h.next (b, base, tot)) e.2 x.val) l es.toList) :
    Stp ρ φ h w (φ.add h.next (b, base, tot)) (h.more n B) w' := by
  have hf : φ h.next = none := r.free _ (Nat.le_refl _)
  have hle := Emb.le_add hf (b, base, tot)
  have hnn := Bid.inc_num hn
  have hnot : h.get h.next = none := by
    cases hx : h.get h.next with
    | none => rfl
    | some y => have := r.low h.next (by rw [hx]; rfl); omega
  refine ⟨hle, ⟨?_, ?_, ?_, ?_, ?_⟩, hsz, fun g hg _ => hw g hg, ?_, ?_, ?_, hos, htape, hout⟩
  · intro j c hd
    by_cases hj : j = h.next
    · subst hj
      rw [Hp.get_more_same] at hd
      cases hd
      obtain ⟨arr, T, h1, h2, h3⟩ := hc c rfl
      exact ⟨b, base, arr, T, by rw [Emb.add_same, h1], h2, h3⟩
    · rw [Hp.get_more_ne hj] at hd
      obtain ⟨b', base', arr', T', k1, k2, k3⟩ := r.cells j c hd
      exact ⟨b', base', arr', T', by rw [Emb.add_ne hj]; exact k1, by rw [hw _ (r.block (by rw [hd]; rfl) k1)]; exact k2, k3.le hle⟩
  · intro j l hd
    by_cases hj : j = h.next
    · subst hj
      rw [Hp.get_more_same] at hd
      cases hd
      obtain ⟨rfl, rfl, es, cl, h2, h3⟩ := hm l rfl
      exact ⟨b, es, cl, Emb.add_same _ _ _, h2, h3⟩
    · rw [Hp.get_more_ne hj] at hd
      obtain ⟨b', es, cl, k1, k2, k3⟩ := r.maps j l hd
      exact ⟨b', es, cl, by rw [Emb.add_ne hj]; exact k1, by rw [hw _ (r.block (by rw [hd]; rfl) k1)]; exact k2, k3.mono fun _ _ h => ⟨h.1.le hle, h.2.le hle⟩⟩
  · intro i j x y hi hj hx hy he
    by_cases h1 : i = h.next
    · by_cases h2 : j = h.next
      · rw [h1, h2]
      · subst h1
        rw [Emb.add_same] at hx
        cases hx
        rw [Hp.get_more_ne h2] at hj
        rw [Emb.add_ne h2] at hy
        have := r.block hj hy
        simp only at he
        omega
    · by_cases h2 : j = h.next
      · subst h2
        rw [Emb.add_same] at hy
        cases hy
        rw [Hp.get_more_ne h1] at hi
        rw [Emb.add_ne h1] at hx
        have := r.block hi hx
        simp only at he
        omega
      · rw [Hp.get_more_ne h1] at hi
        rw [Hp.get_more_ne h2] at hj
        rw [Emb.add_ne h1] at hx
        rw [Emb.add_ne h2] at hy
        exact r.inj i j x y hi hj hx hy he
  · intro i hi
    show i.num < n.num
    by_cases h1 : i = h.next
    · subst h1; omega
    · rw [Hp.get_more_ne h1] at hi
      have := r.low i hi
      omega
  · intro i hi
    have hi' : n.num ≤ i.num := hi
    have h1 : i ≠ h.next := by rintro rfl; omega
    rw [Emb.add_ne h1]
    exact r.free i (by omega)
  · intro i x hi hx hlt
    by_cases h1 : i = h.next
    · subst h1
      rw [Emb.add_same] at hx
      cases hx
      simp only at hlt
      omega
    · rw [Hp.get_more_ne h1] at hi
      rw [Emb.add_ne h1] at hx
      exact ⟨i, x, hi, hx, rfl⟩
  · show h.next.num ≤ n.num
    omega
  · intro i hi
    by_cases h1 : i = h.next
    · subst h1; exact .inr (Nat.le_refl _)
    · rw [Emb.add_ne h1] at hi; exact .inl hi
end
end Go.Proofs.YtmbbciidknchiaaGreat
