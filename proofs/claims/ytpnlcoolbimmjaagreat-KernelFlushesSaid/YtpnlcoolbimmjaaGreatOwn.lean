/-
  A block that a call has made becomes one of our own; a named bool becomes known.
-/
import Derived.Test.YtpnlcoolbimmjaaGreatTriC
import Derived.Test.YtpnlcoolbimmjaaGreatNew
import Derived.Test.YtpnlcoolbimmjaaGreatFrRow
set_option linter.unusedVariables false
namespace Go.Proofs.YtpnlcoolbimmjaaGreat
open Go.RowKit
section
variable {w0 w w' : World} {N : Nat} {ρ : Vn} {s : Lit} {a : Act}
/-- nothing of ours is written by a call that only makes -/
theorem At.ext (h : At w0 N ρ s a w) (hd : s.noD = true) (he : Ext w w') : At w0 N ρ s a w' := by
  have hf : ∀ b x, ρ.z b = some x → w.heap[b]? = some x := by obtain ⟨φ, _, h2, _⟩ := h; exact fun b x hb => (h2.frz b x hb).1
  have hl : ∀ b x, ρ.z b = some x → w'.heap[b]? = some x := fun b x hb => by
    rw [he.block b (Array.getElem?_eq_some_iff.1 (hf b x hb)).1]; exact hf b x hb
  exact At.toZ (z := ρ.z) h hd he.os he.tape he.output he.size (fun b hb' _ => he.block b hb') (fun b y hy => .inr (he.block b (Array.getElem?_eq_some_iff.1 (hf b y hy)).1)) fun b y hy => ⟨hl b y hy, .inl (by rw [hy]; rfl)⟩
/-- a block that a call has made -/
theorem At.own (h : At w0 N ρ s a w) (hm : s.mem = []) {n : Bid} (hn : s.next.inc = some n) {t : Nm} {i j : D16} (hfr : getF i j s.frame = some (.c (.gv t))) {c : Nat} (hp : ρ.g t = .pointer (some ⟨c, 0, none⟩)) (hc : w0.heap.size ≤ c) {arr : Array Value} {T : TypeId}
    (hb : w.heap[c]? = some (.cells arr T (0, 0))) (hz : ρ.z c = none) {cs : List AC} (hcs : ∀ φ, All2 (VC ρ φ) cs arr.toList) : At w0 N ρ ⟨(i, j, .c (.p s.next 0)) :: s.fr, [(s.next, .cells cs)], n⟩ a w := by
  obtain ⟨φ, h1, h2, h3, h4, h5⟩ := h
  have hnn := Bid.inc_num hn
  have hle := Emb.le_add (h2.free s.next (Nat.le_refl _)) (c, 0, arr.size)
  have hg : ∀ id B, get3 (memOf [(s.next, AB.cells cs)]) id = some B → id = s.next ∧ B = .cells cs := fun id B e => by
    have := memOf_get e
    simp only [List.mem_cons, List.not_mem_nil, or_false, Prod.mk.injEq] at this
    exact this
  have hl : ∀ id, (get3 (memOf [(s.next, AB.cells cs)]) id).isSome → id = s.next := fun id e => by
    cases hB : get3 (memOf [(s.next, AB.cells cs)]) id with
    | none => rw [hB] at e; cases e
    | some B => exact (hg id B hB).1
  refine ⟨φ.add s.next (c, 0, arr.size), ?_, ⟨⟨?_, ?_, ?_, ?_, ?_⟩, ?_⟩, ⟨h3.old, h3.size, h3.os, h3.tape, h3.output, ?_⟩, h4, h5⟩
  · intro i' j' v hv
    have hv' : getF i' j' (putF i j (.c (.p s.next 0)) s.frame) = some v := hv
    by_cases hij : i' = i ∧ j' = j
    · obtain ⟨rfl, rfl⟩ := hij
      rw [getF_putF] at hv'
      cases hv'
      obtain ⟨k1, k2⟩ := h1 _ _ _ hfr
      refine ⟨k1, c, 0, arr.size, Emb.add_same _ _ _, ?_⟩
      exact (show _ = ρ.g t from k2.1).trans hp
    · rw [getF_putF_ne hij] at hv'
      exact ⟨(h1 _ _ _ hv').1, (h1 _ _ _ hv').2.le hle⟩
  · intro id d hd
    obtain ⟨rfl, hB⟩ := hg id _ hd
    cases hB
    refine ⟨c, 0, arr, T, Emb.add_same _ _ _, hb, ?_, fun o x hx => ?_⟩
    · rw [(hcs φ).length]; simp
    · obtain ⟨v, k1, k2⟩ := (hcs (φ.add s.next (c, 0, arr.size))).get hx
      exact ⟨v, by rw [Nat.zero_add, ← Array.getElem?_toList]; exact k1, k2⟩
  · intro id l hd
    obtain ⟨_, hB⟩ := hg id _ hd
    cases hB
  · intro id id' x x' e e' _ _ _
    rw [hl id e, hl id' e']
  · intro id e
    rw [hl id e]
    show s.next.num < n.num
    omega
  · intro id e
    have e' : n.num ≤ id.num := e
    have hne : id ≠ s.next := by rintro rfl; omega
    rw [Emb.add_ne hne]
    exact h2.free id (by show s.next.num ≤ id.num; omega)
  · intro b x hbx
    refine ⟨(h2.frz b x hbx).1, fun id y e hy => ?_⟩
    rw [hl id e, Emb.add_same] at hy
    cases hy
    rintro rfl
    rw [hz] at hbx; cases hbx
  · intro id x e hx
    rw [hl id e, Emb.add_same] at hx
    cases hx
    exact hc
theorem BytesIn.at2 {w0 w : World} {a : Option Addr} {len : Nat} (h : BytesIn w0 a len) (o : ∀ b, b < w0.heap.size → w.heap[b]? = w0.heap[b]?) : BytesIn w a len := fun h0 => by
  obtain ⟨blk, off, ha, hi⟩ := h h0
  refine ⟨blk, off, ha, fun i hil => ?_⟩
  obtain ⟨n, hn, hc⟩ := hi i hil
  refine ⟨n, hn, ?_⟩
  have hlt := block_lt_of_cell (a := ⟨blk, off + i, none⟩) hc
  rw [World.cell?_of_block (w := w0) (w' := w) (a := ⟨blk, off + i, none⟩) (o blk hlt)]
  exact hc
/-- memory with one block marked -/
def markZ (z : Nat → Option Obj) (c : Nat) (o : Option Obj) (b : Nat) : Option Obj := if b = c then o else z b
theorem At.mark (h : At w0 N ρ s a w) (hd : s.noD = true) (he : Ext w w') {c : Nat} (hc : w.heap.size ≤ c) {o : Option Obj} (ho : ∀ x, o = some x → w'.heap[c]? = some x) : At w0 N { ρ with z := markZ ρ.z c o } s a w' := by
  have hf : ∀ b x, ρ.z b = some x → w.heap[b]? = some x := by obtain ⟨φ, _, h2, _⟩ := h; exact fun b x hb => (h2.frz b x hb).1
  refine At.toZ h hd he.os he.tape he.output he.size (fun b hb' _ => he.block b hb') (fun b y hy => .inr (he.block b (Array.getElem?_eq_some_iff.1 (hf b y hy)).1)) fun b y hy => ?_
  unfold markZ at hy
  split at hy
  · rename_i hbc; subst hbc; exact ⟨ho y hy, .inr (.inl hc)⟩
  · refine ⟨?_, .inl (by rw [hy]; rfl)⟩
    rw [he.block b (Array.getElem?_eq_some_iff.1 (hf b y hy)).1]; exact hf b y hy
theorem At.unmark {z : Nat → Option Obj} {c : Nat} {o : Option Obj} (h : At w0 N { ρ with z := markZ z c o } s a w) (hd : s.noD = true) (hzc : z c = none) : At w0 N { ρ with z := z } s a w ∧ ∀ x, o = some x → w.heap[c]? = some x := by
  have hf : ∀ b x, markZ z c o b = some x → w.heap[b]? = some x := by obtain ⟨φ, _, h2, _⟩ := h; exact fun b x hb => (h2.frz b x hb).1
  have hz' : ∀ b x, z b = some x → markZ z c o b = some x := fun b x hb => by
    unfold markZ
    split
    · rename_i hbc; subst hbc; rw [hzc] at hb; cases hb
    · exact hb
  refine ⟨At.toZ (ρ := { ρ with z := markZ z c o }) (z := z) h hd rfl rfl rfl (Nat.le_refl _) (fun _ _ _ => rfl) (fun _ _ _ => .inr rfl) fun b x hb => ⟨hf b x (hz' b x hb), .inl (by show (markZ z c o b).isSome; rw [hz' b x hb]; rfl)⟩, fun x hx => hf c x ?_⟩
  unfold markZ
  rw [if_pos rfl]; exact hx
/-- a bool that is known -/
theorem At.bool (h : At w0 N ρ s a w) {t : Nm} {i j : D16} (hfr : getF i j s.frame = some (.c (.sb t))) : At w0 N ρ (s.put (some (i, j)) (.c (.b (ρ.b t)))) a w := by
  obtain ⟨φ, h1, h2, h3, h4, h5⟩ := h
  refine ⟨φ, ?_, h2, h3, h4, h5⟩
  intro i' j' v hv
  have hv' : getF i' j' (putF i j (.c (.b (ρ.b t))) s.frame) = some v := hv
  by_cases hij : i' = i ∧ j' = j
  · obtain ⟨rfl, rfl⟩ := hij
    rw [getF_putF] at hv'
    cases hv'
    exact ⟨(h1 _ _ _ hfr).1, (h1 _ _ _ hfr).2⟩
  · rw [getF_putF_ne hij] at hv'
    exact h1 _ _ _ hv'
end
/-- the first rows of a frozen slice -/
theorem SlD.take {z : Nat → Option Obj} {e : Sh} {rows : List (List DV)} {p : Option Addr} {len cap cap' : Nat} (h : SlD z e rows (.slice p len cap)) {k : Nat} (hk : k ≤ rows.length) : SlD z e (rows.take k) (.slice p k cap') := by
  obtain ⟨p', c', h1, h2⟩ := h
  cases h1
  refine ⟨_, cap', by rw [List.length_take, Nat.min_eq_left hk], ?_⟩
  rcases h2 with h2 | ⟨b, off, arr, T, fz, h3, h4, h5⟩
  · left; rw [h2, List.take_nil]
  · refine .inr ⟨b, off, arr, T, fz, h3, h4, fun i row hr => h5 i row ?_⟩
    rw [List.getElem?_take] at hr
    split at hr
    · exact hr
    · cases hr
end Go.Proofs.YtpnlcoolbimmjaaGreat
