/-
  What locks.settle does, round by round, plainly. No function of the program is named here.
-/
import Derived.Test.YtnfkplohpjfocaaPlA
import Derived.Test.YtnfkplohpjfocaaInsG
set_option linter.unusedVariables false
set_option linter.unusedSimpArgs false
namespace Go.Proofs.Ytnfkplohpjfocaa
open Go.RowKit
theorem putF_len (g : G) : ∀ hs : List G, (putF g hs).length ≤ hs.length + 1
  | [] => by simp [putF]
  | x :: l => by
    unfold putF
    split
    · have := putF_len g l; simp only [List.length_cons]; omega
    · split <;> simp
/-- one pass is under way: what is left of it, and the bounds that it keeps -/
structure PassInv (R : List G × List G × Bool) (w0 : Nat) (c0 : Bool) (m : Nat) (hs ws : List G) (i : Nat) (c : Bool) : Prop where
  eq : R = passF m hs ws i c
  at_ : i + m = ws.length
  le : ws.length ≤ w0
  lt : c = true → c0 = false → ws.length < w0
theorem PassInv.start (hs ws : List G) : PassInv (passF ws.length hs ws 0 false) ws.length false ws.length hs ws 0 false := ⟨rfl, by omega, Nat.le_refl _, fun h => by cases h⟩
theorem PassInv.skip {R : List G × List G × Bool} {w0 m : Nat} {c0 : Bool} {hs ws : List G} {i : Nat} {c : Bool} (h : PassInv R w0 c0 (m + 1) hs ws i c) (hb : blockedB hs ws i = true) : PassInv R w0 c0 m hs ws (i + 1) c := by
  refine ⟨?_, by have := h.at_; omega, h.le, h.lt⟩
  have hi : i < ws.length := by have := h.at_; omega
  rw [h.eq]
  conv => lhs; unfold passF
  rw [List.getElem?_eq_getElem hi]
  simp [hb]
theorem PassInv.move {R : List G × List G × Bool} {w0 m : Nat} {c0 : Bool} {hs ws : List G} {i : Nat} {c : Bool} {g : G} (h : PassInv R w0 c0 (m + 1) hs ws i c) (hg : ws[i]? = some g) (hb : blockedB hs ws i = false) : PassInv R w0 c0 m (putF g hs) (ws.eraseIdx i) i true := by
  have hi : i < ws.length := by have := h.at_; omega
  have hl : (ws.eraseIdx i).length = ws.length - 1 := List.length_eraseIdx_of_lt hi
  refine ⟨?_, by have := h.at_; omega, by have := h.le; omega, fun _ _ => by have := h.le; omega⟩
  rw [h.eq]
  conv => lhs; unfold passF
  rw [hg]
  simp [hb]
theorem PassInv.done {R : List G × List G × Bool} {w0 m : Nat} {c0 : Bool} {hs ws : List G} {i : Nat} {c : Bool} (h : PassInv R w0 c0 m hs ws i c) (hi : ws.length ≤ i) : R = (hs, ws, c) := by
  have : m = 0 := by have := h.at_; omega
  subst this
  exact h.eq
/-- the rounds that are to come -/
def SetInv (R : List G × List G) (k : Nat) (hs ws : List G) : Bool → Prop
  | true => R = settleF k hs ws ∧ ws.length < k
  | false => R = (hs, ws)
theorem SetInv.start (hs ws : List G) : SetInv (settle hs ws) (ws.length + 1) hs ws true := ⟨rfl, by omega⟩
theorem SetInv.next {R : List G × List G} {k : Nat} {hs ws : List G} (h : SetInv R k hs ws true) {hs' ws' : List G} {c : Bool} (hp : PassInv (passF ws.length hs ws 0 false) ws.length false 0 hs' ws' ws'.length c) : 0 < k ∧ SetInv R (k - 1) hs' ws' c := by
  obtain ⟨h1, h2⟩ := h
  obtain ⟨j, rfl⟩ : ∃ j, k = j + 1 := ⟨k - 1, by omega⟩
  have e := hp.done (Nat.le_refl _)
  refine ⟨by omega, ?_⟩
  have h3 : R = if c then settleF j hs' ws' else (hs', ws') := by rw [h1]; conv => lhs; unfold settleF; 
                                                                  rw [e]
  cases c with
  | true => exact ⟨by simpa using h3, by have := hp.lt rfl rfl; simp only [Nat.add_sub_cancel]; omega⟩
  | false => exact by simpa [SetInv] using h3
theorem found_at {gs : List G} {g : G} {i : Nat} (hs : sortedG gs) (h0 : i ≤ gs.length) (h1 : ∀ x, 0 < i → gs[i - 1]? = some x → ordI x ⟨g.tx, g.page, g.slot, 0⟩ < 0) (h2 : ∀ x, gs[i]? = some x → 0 ≤ ordI x ⟨g.tx, g.page, g.slot, 0⟩) : Found gs g i := found_of hs h0 h1 h2
theorem gL_mode {pre junk : List Value} {hs : List G} {i : Nat} {g x : G} (hx : hs[i]? = some x) (hk : ordI x g = 0) : (pre ++ (gL hs ++ junk)).set (pre.length + i * 4 + 3) (.int .i64 g.mode) = pre ++ (gL (hs.set i g) ++ junk) := by
  obtain ⟨hi, rfl⟩ := List.getElem?_eq_some_iff.1 hx
  have h1 := gL_cut hi
  have hl : (gL (hs.take i)).length = i * 4 := by rw [gL_len, List.length_take]; congr 1; omega
  have e : hs.set i g = hs.take i ++ g :: hs.drop (i + 1) := List.set_eq_take_append_cons_drop.trans (by rw [if_pos hi])
  rw [e, h1, gL_append, gL_cons, ← hl]
  have hz := ordI_zero.1 hk
  have e2 : pre.length + (gL (hs.take i)).length + 3 = (pre ++ gL (hs.take i)).length + 3 := by rw [List.length_append]
  have e3 : pre ++ (gL (hs.take i) ++ ((hs[i]).lst ++ gL (hs.drop (i + 1))) ++ junk) = (pre ++ gL (hs.take i)) ++ ((hs[i]).lst ++ (gL (hs.drop (i + 1)) ++ junk)) := by simp
  rw [e2, e3, List.set_append_right _ _ (by omega), Nat.add_sub_cancel_left]
  have e4 : ((hs[i]).lst ++ (gL (hs.drop (i + 1)) ++ junk)).set 3 (.int .i64 g.mode) = g.lst ++ (gL (hs.drop (i + 1)) ++ junk) := by
    unfold G.lst
    rw [hz.1, hz.2.1, hz.2.2]
    rfl
  rw [e4]
  simp
theorem build_grant (g : G) (w : World) : (Instr.buildSlice 23 1 ([(0, .agg g.arr)] : List (Nat × Value)).toArray).run Try.prog w = .ok (.slice (some ⟨w.heap.size, 0, none⟩) 1 1) (w.alloc (.cells g.lst.toArray 29)) := by
  have := run_slice_rows (P := Try.prog) 23 29 1 4 (by omega) (by omega) (by omega) Try.underlying23 (by kernel_rfl) [g.lst] rfl (by intro x hx; simp at hx; subst hx; rfl) w
  rw [List.flatten_cons, List.flatten_nil, List.append_nil] at this
  exact this
end Go.Proofs.Ytnfkplohpjfocaa
