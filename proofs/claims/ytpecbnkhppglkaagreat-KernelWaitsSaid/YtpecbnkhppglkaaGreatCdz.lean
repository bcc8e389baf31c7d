/-
  Choices as frozen memory: what the row of choices is while pieces are run, and how it is handed on by a call that draws.
-/
import Derived.Test.YtpecbnkhppglkaaGreatTriC
import Derived.Test.YtpecbnkhppglkaaGreatNew
import Derived.Test.YtpecbnkhppglkaaGreatDrawF
set_option linter.unusedVariables false
namespace Go.Proofs.YtpecbnkhppglkaaGreat
open Go.RowKit
/-- the blocks of the choices, as they are in w -/
def zOf (q : CodeRow) (c : Nat) (w : World) (b : Nat) : Option Obj := if b = c ∨ (0 < q.len ∧ q.a.map (fun x => x.block) = some b) then w.heap[b]? else none
/-- z is the choices' memory, from some time on -/
def CodesZ (q : CodeRow) (c : Nat) (z : Nat → Option Obj) : Prop := ∃ w, CodesAt q w c ∧ z = zOf q c w
theorem zOf_c {q : CodeRow} {c : Nat} {w : World} : zOf q c w c = w.heap[c]? := by simp [zOf]
theorem zOf_blk {q : CodeRow} {c blk off : Nat} {w : World} (h : 0 < q.len) (ha : q.a = some ⟨blk, off, none⟩) : zOf q c w blk = w.heap[blk]? := by simp [zOf, h, ha]
theorem codesZ_at {q : CodeRow} {c : Nat} {z : Nat → Option Obj} (hz : CodesZ q c z) {w : World} (h : ∀ b x, z b = some x → w.heap[b]? = some x) : CodesAt q w c := by
  obtain ⟨w1, ⟨pos, T, h1, h2, h3, h4⟩, rfl⟩ := hz
  refine ⟨pos, T, h c _ (by rw [zOf_c]; exact h1), h2, h3, fun h0 => ?_⟩
  obtain ⟨blk, off, ha, hne, hi⟩ := h4 h0
  refine ⟨blk, off, ha, hne, fun i hil => ?_⟩
  obtain ⟨n, hn, hcell⟩ := hi i hil
  refine ⟨n, hn, ?_⟩
  have hlt := block_lt_of_cell (a := ⟨blk, off + i, none⟩) hcell
  have hb : w1.heap[blk]? = some w1.heap[blk] := Array.getElem?_eq_getElem hlt
  have := h blk _ (by rw [zOf_blk h0 ha]; exact hb)
  rw [World.cell?_of_block (w := w1) (w' := w) (a := ⟨blk, off + i, none⟩) (this.trans hb.symm)]
  exact hcell
theorem codesZ_c {q : CodeRow} {c : Nat} {z : Nat → Option Obj} (hz : CodesZ q c z) : (z c).isSome := by
  obtain ⟨w1, ⟨pos, T, h1, _⟩, rfl⟩ := hz
  rw [zOf_c, h1]; rfl
theorem codesZ_dom {q : CodeRow} {c : Nat} {z : Nat → Option Obj} (hz : CodesZ q c z) {w : World} {b : Nat} {x : Obj} (h : zOf q c w b = some x) : (z b).isSome := by
  obtain ⟨w1, ⟨pos, T, h1, _, _, h4⟩, rfl⟩ := hz
  unfold zOf at h ⊢
  split at h
  · rename_i hc
    rw [if_pos hc]
    rcases hc with rfl | ⟨h0, ha⟩
    · rw [h1]; rfl
    · obtain ⟨blk, off, ha', _, hi⟩ := h4 h0
      rw [ha'] at ha
      cases ha
      obtain ⟨n, _, hcell⟩ := hi 0 h0
      have hlt := block_lt_of_cell (a := ⟨blk, off + 0, none⟩) hcell
      rw [Array.getElem?_eq_getElem hlt]; rfl
  · cases h
/-- What 'New' comes to. -/
def NewPost2 (a : Option Addr) (len : Nat) (w : World) (e : Ending) (w' : World) : Prop :=
  ∃ (c : Nat) (q : CodeRow), e = .returned (.pointer (some ⟨c, 0, none⟩)) ∧ w.heap.size ≤ c ∧ Ext w w' ∧ CodesAt q w' c ∧ q.a = a ∧ q.len ≤ len
set_option maxHeartbeats 1000000 in
theorem new_any2 (a : Option Addr) (len cap most : Nat) (w : World) (h : BytesIn w a len) (hlc : len ≤ cap) (hm : most ≤ 65536) (h0 : 0 < most) (hmax : cap ≤ maxLen) :
    Calls Tryz.prog 19 #[.slice a len cap, .int .i64 most] w (NewPost2 a len w) := by
  unfold maxLen at hmax
  have H := Lib.hid h
  by_cases hl : most < len
  · obtain ⟨blk, off, rfl, _⟩ := h (by omega)
    clear h
    go_enter Tryz.func19, Tryz.ntmps19
    go_wp2
    go_ret
    exact ⟨w.heap.size, ⟨_, most, cap, []⟩, rfl, Nat.le_refl _, (Ext.refl w).alloc _, codes_new H.out (by omega) hm (NewBox.of w _ _), rfl, Nat.le_of_lt hl⟩
  · clear h
    go_enter Tryz.func19, Tryz.ntmps19
    go_wp2
    go_ret
    exact ⟨w.heap.size, ⟨_, len, cap, []⟩, rfl, Nat.le_refl _, (Ext.refl w).alloc _, codes_new H.out (Nat.le_refl _) (by omega) (NewBox.of w _ _), rfl, Nat.le_refl _⟩
theorem BytesIn.at {w0 w : World} {a : Option Addr} {len : Nat} (h : BytesIn w0 a len) (o : ∀ b, b < w0.heap.size → w.heap[b]? = w0.heap[b]?) : BytesIn w a len := fun h0 => by
  obtain ⟨blk, off, ha, hi⟩ := h h0
  refine ⟨blk, off, ha, fun i hil => ?_⟩
  obtain ⟨n, hn, hc⟩ := hi i hil
  refine ⟨n, hn, ?_⟩
  have hlt := block_lt_of_cell (a := ⟨blk, off + i, none⟩) hc
  rw [World.cell?_of_block (w := w0) (w' := w) (a := ⟨blk, off + i, none⟩) (o blk hlt)]
  exact hc
section
variable {w0 w w' : World} {N : Nat} {ρ : Vn} {s : Lit} {a : Act}
/-- behind 'New' the choices are frozen -/
theorem At.made (h : At w0 N ρ s a w) (hd : s.noD = true) (hn : ∀ b, ρ.z b = none) {x : Option Addr} {len : Nat} (hb : BytesIn w0 x len) {c : Nat} {q : CodeRow} (hc : w.heap.size ≤ c) (he : Ext w w') (hq : CodesAt q w' c) (hqa : q.a = x) (hql : q.len ≤ len) : At w0 N { ρ with z := zOf q c w' } s a w' ∧ CodesZ q c (zOf q c w') ∧ w0.heap.size ≤ c := by
  have hsz : w0.heap.size ≤ w.heap.size := by obtain ⟨φ, _, _, h3, _⟩ := h; exact h3.size
  refine ⟨At.toZ h hd he.os he.tape he.output he.size (fun b hb' _ => he.block b hb') (fun b y hy => by rw [hn] at hy; cases hy) fun b y hy => ?_, ⟨w', hq, rfl⟩, by omega⟩
  unfold zOf at hy
  split at hy
  · rename_i hcs
    refine ⟨hy, .inr ?_⟩
    rcases hcs with rfl | ⟨h0, ha⟩
    · exact .inl hc
    · right
      obtain ⟨blk, off, ha', hi⟩ := hb (by omega)
      rw [hqa, ha'] at ha
      cases ha
      obtain ⟨n, _, hcell⟩ := hi 0 (by omega)
      exact block_lt_of_cell (a := ⟨blk, off + 0, none⟩) hcell
  · cases hy
/-- behind a call that draws -/
theorem At.drew (h : At w0 N ρ s a w) (hd : s.noD = true) {c : Nat} {q : CodeRow} (hz : CodesZ q c ρ.z) (hc : w0.heap.size ≤ c) (ho : Only c w w') (hq : CodesAt q w' c) : At w0 N { ρ with z := zOf q c w' } s a w' ∧ CodesZ q c (zOf q c w') := by
  have hf : ∀ b x, ρ.z b = some x → w.heap[b]? = some x := by obtain ⟨φ, _, h2, _⟩ := h; exact fun b x hb => (h2.frz b x hb).1
  have hcz := codesZ_c hz
  have hne : ∀ b, b < w.heap.size → b ≠ c → w'.heap[b]? = w.heap[b]? := fun b hb hbc => ho.block b hb (fun e => hbc (by cases e; rfl))
  refine ⟨At.toZ h hd ho.os ho.tape ho.output ho.size (fun b hb hn => hne b hb (by rintro rfl; rw [hn] at hcz; cases hcz)) (fun b x hb => ?_) fun b x hb => ?_, ⟨w', hq, rfl⟩⟩
  · by_cases hbc : b = c
    · subst hbc; exact .inl hc
    · exact .inr (hne b (Array.getElem?_eq_some_iff.1 (hf b x hb)).1 hbc)
  · refine ⟨?_, .inl (codesZ_dom hz hb)⟩
    unfold zOf at hb
    split at hb
    · exact hb
    · cases hb
theorem At.codes (h : At w0 N ρ s a w) {c : Nat} {q : CodeRow} (hz : CodesZ q c ρ.z) : CodesAt q w c := by
  obtain ⟨φ, _, h2, _⟩ := h
  exact codesZ_at hz fun b x hb => (h2.frz b x hb).1
end
end Go.Proofs.YtpecbnkhppglkaaGreat
