/-
  Slices of grants that a call hands on or makes: what they read as wherever the call's own blocks are as said. No function of the program is named here.
-/
import Derived.Test.YtnfkplohpjfocaaGreatRgA
import Derived.Test.YtnfkplohpjfocaaGreatGrC
set_option linter.unusedVariables false
set_option linter.unusedSimpArgs false
namespace Go.Proofs.YtnfkplohpjfocaaGreat
open Go.RowKit
/-- Some of these blocks are the slice's own. -/
def OwnIn (L : List (Nat × TypeId × List Value)) (v : Value) (gs : List G) : Prop := ∃ l, (∀ e ∈ l, e ∈ L) ∧ OwnRow 29 4 l v gs.length (gL gs)
/-- The slice is the one that came in, or its blocks are among these. -/
def Kp (v0 : Value) (gs0 : List G) (L : List (Nat × TypeId × List Value)) (v : Value) (gs : List G) : Prop := (v = v0 ∧ gs = gs0) ∨ OwnIn L v gs
section
variable {cc : Option Nat} {q : CodeRow} {w0 w : World} {L L' M : List (Nat × TypeId × List Value)} {v v0 : Value} {gs gs0 : List G}
theorem OwnIn.mono (h : OwnIn L v gs) (hs : ∀ e ∈ L, e ∈ L') : OwnIn L' v gs := by
  obtain ⟨l, h1, h2⟩ := h
  exact ⟨l, fun e he => hs e (h1 e he), h2⟩
theorem OwnIn.at (h : OwnIn L v gs) (k : St cc q w0 w M) (hm : ∀ e ∈ L, e ∈ M) : GsAt w v gs := by
  obtain ⟨l, h1, h2⟩ := h
  exact GsAt.own k (fun e he => hm e (h1 e he)) h2
theorem OwnIn.one (h : OwnIn L v gs) : v.oneCell' = true := by
  obtain ⟨l, h1, h2⟩ := h
  exact h2.one
theorem OwnIn.nil : OwnIn L (.slice none 0 0) [] := ⟨[], (fun e he => by cases he), OwnRow.nil⟩
theorem OwnIn.of (h : OwnRow 29 4 L v gs.length (gL gs)) : OwnIn L v gs := ⟨L, fun e he => he, h⟩
theorem Kp.refl : Kp v0 gs0 L v0 gs0 := .inl ⟨rfl, rfl⟩
theorem Kp.mono (h : Kp v0 gs0 L v gs) (hs : ∀ e ∈ L, e ∈ L') : Kp v0 gs0 L' v gs := by
  rcases h with h | h
  · exact .inl h
  · exact .inr (h.mono hs)
theorem Kp.at (h : Kp v0 gs0 L v gs) (h0 : GsAt w0 v0 gs0) (k : St none default w0 w M) (hm : ∀ e ∈ L, e ∈ M) : GsAt w v gs := by
  rcases h with ⟨rfl, rfl⟩ | h
  · exact h0.ext k.isExt
  · exact h.at k hm
theorem Kp.one (h : Kp v0 gs0 L v gs) (h0 : v0.oneCell' = true) : v.oneCell' = true := by
  rcases h with ⟨rfl, _⟩ | h
  · exact h0
  · exact h.one
theorem GsAt.one (h : GsAt w v gs) : v.oneCell' = true := by
  obtain ⟨ao, cap, rfl, _⟩ := h.get
  rfl
/-- The slice in full. -/
theorem Kp.form (h : Kp v0 gs0 L v gs) (h0 : GsAt w0 v0 gs0) (k : St none default w0 w M) (hm : ∀ e ∈ L, e ∈ M) : ∃ ao cap, v = .slice ao gs.length cap ∧ gs.length ≤ cap ∧ cap ≤ 9223372036854775807 ∧
    (0 < gs.length → ∃ g off, ao = some ⟨g, off, none⟩ ∧ ∀ (i : Nat) (x : G), gs[i]? = some x → ∀ (w' : World) (M' : List (Nat × TypeId × List Value)), St none default w0 w' M' → (∀ e ∈ L, e ∈ M') → ∀ (j : Nat) (u : Value), x.lst[j]? = some u → w'.cell? ⟨g, off + i * 4 + j, none⟩ = some u) := by
  obtain ⟨ao, cap, rfl, c1, c2, hat⟩ := (h.at h0 k hm).get
  refine ⟨ao, cap, rfl, c1, c2, fun hn => ?_⟩
  obtain ⟨g, off, rfl, _⟩ := hat hn
  refine ⟨g, off, rfl, fun i x hx w' M' k' hm' j u hj => ?_⟩
  obtain ⟨ao2, cap2, e2, _, _, hat2⟩ := (h.at h0 k' hm').get
  obtain ⟨g2, o2, e3, hc⟩ := hat2 hn
  subst e3
  cases e2
  exact hc i x hx w' (Ext.refl _) j u hj
/-- A table that a call gives back. -/
def TbK (vh vw : Value) (hs ws : List G) (R : List G × List G) (w0 : World) (e : Ending) (w' : World) : Prop :=
  ∃ (v1 v2 : Value) (lr : List (Nat × TypeId × List Value)), e = .returned (.agg #[v1, v2]) ∧ St none default w0 w' lr ∧ Kp vh hs lr v1 R.1 ∧ Kp vw ws lr v2 R.2
/-- The first k. -/
theorem GsAt.hi {ad : Addr} {n cap k : Nat} (h : GsAt w (.slice (some ad) n cap) gs) (hk : k ≤ n) : SrcAt w 4 (.slice (some ad) k cap) k (gL (gs.take k)) := by
  obtain ⟨ao, c2, e, h1, h2, hat⟩ := h.get
  cases e
  have hl : (gs.take k).length = k := by rw [List.length_take]; omega
  have : GsAt w (.slice (some ad) (gs.take k).length cap) (gs.take k) := by
    refine ⟨some ad, cap, by rw [List.length_map], by rw [List.length_map]; omega, h2, fun hne => ?_⟩
    have hpos : 0 < gs.length := by
      rcases Nat.eq_zero_or_pos gs.length with e | e
      · exact absurd (by rw [List.eq_nil_of_length_eq_zero e]; simp) hne
      · exact e
    obtain ⟨g, off, e, hc⟩ := hat hpos
    refine ⟨g, off, e, fun i r hi j u hj => ?_⟩
    rw [List.getElem?_map, Option.map_eq_some_iff] at hi
    obtain ⟨x, hx, rfl⟩ := hi
    rw [List.getElem?_take] at hx
    split at hx
    · exact hc i x hx w (Ext.refl _) j u hj
    · cases hx
  have := this.src
  rw [hl] at this
  exact this
/-- From the k-th on. -/
theorem GsAt.lo {ad : Addr} {n cap k : Nat} (h : GsAt w (.slice (some ad) n cap) gs) (hk : k ≤ n) : SrcAt w 4 (sliced (some ad) k n cap 4) (n - k) (gL (gs.drop k)) := by
  obtain ⟨ao, c2, e, h1, h2, hat⟩ := h.get
  cases e
  have hl : (gs.drop k).length = gs.length - k := List.length_drop
  by_cases hkn : k = gs.length
  · have e1 : gs.drop k = [] := by rw [hkn]; simp
    rw [e1, hkn, Nat.sub_self]
    refine ⟨rfl, rfl, .inl ?_⟩
    unfold sliced
    split
    · exact ⟨ad, _, by simp; rfl, fun j u hj => by cases hj⟩
    · exact ⟨ad.add (gs.length * 4), _, by simp; rfl, fun j u hj => by cases hj⟩
  · obtain ⟨g, off, e, hc⟩ := hat (by omega)
    cases e
    have hs : sliced (some (⟨g, off, none⟩ : Addr)) k gs.length cap 4 = .slice (some ⟨g, off + k * 4, none⟩) (gs.drop k).length (cap - k) := by
      unfold sliced
      rw [if_neg (by omega), hl]
      simp [Addr.add]
    have : GsAt w (.slice (some ⟨g, off + k * 4, none⟩) (gs.drop k).length (cap - k)) (gs.drop k) := by
      refine ⟨some ⟨g, off + k * 4, none⟩, cap - k, by rw [List.length_map], by rw [List.length_map]; omega, (Nat.le_trans (Nat.sub_le _ _) h2), fun hne => ⟨g, off + k * 4, rfl, fun i r hi j u hj => ?_⟩⟩
      rw [List.getElem?_map, Option.map_eq_some_iff] at hi
      obtain ⟨x, hx, rfl⟩ := hi
      rw [List.getElem?_drop] at hx
      have h3 := hc (k + i) x hx w (Ext.refl _) j u hj
      have e4 : off + k * 4 + i * 4 + j = off + (k + i) * 4 + j := by rw [Nat.add_mul]; omega
      rw [e4]
      exact h3
    have := this.src
    rw [hs, ← hl]
    exact this
end
theorem build_grant (g : G) (w : World) : (Instr.buildSlice 23 1 ([(0, .agg g.arr)] : List (Nat × Value)).toArray).run Tryz.prog w = .ok (.slice (some ⟨w.heap.size, 0, none⟩) 1 1) (w.alloc (.cells g.lst.toArray 29)) := by
  obtain ⟨ie, hie, hz, hs, _⟩ := info_grant
  refine run_buildSlice w 23 29 1 _ _ ie _ Tryz.underlying23 hie hz (by rw [hs]; decide) (by rw [hs]; decide) ?_
  rw [hs]
  have hr : Array.range (1 * 4) = #[0, 1, 2, 3] := by decide
  rw [hr]
  simp [Instr.fill, Value.cells, G.lst]
section
variable {P : Program} {ops : Array Oper} {Q : Exit → Act → World → Prop} {a : Act} {w : World} {cc : Option Nat} {q : CodeRow} {w0 : World} {L : List (Nat × TypeId × List Value)} {o : Oper} {rest : List Oper}
/-- An append of nothing. -/
theorem run_append_none (w : World) (t ty e : TypeId) (i : TypeInfo) (ht : P.underlying t = some (.slice e)) (hi : P.info? e = some i) (ao : Option Addr) (n cap c : Nat) (hn : n ≤ cap) :
    (Builtin.append_ #[t, t] ty #[.slice ao n cap, .slice none 0 c]).run P w = .ok (.slice ao n cap) w := by
  cases ao <;> simp [Builtin.append_, run_underlying ht, sizeOf, typeInfo, hi, Builtin.lenOf, Builtin.firstCells, hn, storeCells]
theorem run_append_no (ao : Option Addr) (n cap c : Nat) (s x : Operand) (t : TypeId) (ho : o.op = .call { callee := .builtin .append, args := #[s, x], argTypes := #[t, t] })
    (E : TypeId) (ie : TypeInfo) (ht : P.underlying t = some (.slice E)) (hie : P.info? E = some ie) (hs : a.eval s = .slice ao n cap) (hx : a.eval x = .slice none 0 c) (hn : n ≤ cap) (w : World) : (execOp a.eval o).run P w = .ok (.value (.slice ao n cap)) w := by
  unfold execOp
  simp only [ho, resolve, invoke, builtin, Sem.run_bind, Sem.run_pure, Result.andThen_ok, List.map_toArray, List.map_cons, List.map_nil, hs, hx, run_append_none w t o.type E ie ht hie ao n cap c hn]
end
end Go.Proofs.YtnfkplohpjfocaaGreat
