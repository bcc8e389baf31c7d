/-
  A verified evaluator: steps of a region in any order, seen from its first memory. No function of the program is named here.
-/
import Derived.Test.YtmbbciidknchiaaGreatEnX
namespace Go.Proofs.YtmbbciidknchiaaGreat
section
variable {P : Program} {E : Env} {ρ : Vn} {φ φ' φ0 : Emb} {fr : Fr} {a : Act} {h0 hp h1 H H' : Hp} {w w' w0 : World}
/-- a step that was evaluated in a part of memory -/
theorem Stp.over (S : Stp ρ φ0 h0 w0 φ H w) (hsub : ∀ id b, hp.get id = some b → H.get id = some b) (hnx : hp.next = H.next) (T : Stp ρ φ hp w φ' h1 w') (hn : H'.next = h1.next) (hg : ∀ id b, H'.get id = some b → h1.get id = some b ∨ (hp.get id = none ∧ H.get id = some b)) : Stp ρ φ0 h0 w0 φ' H' w' := by
  have live : ∀ id, (hp.get id).isSome = true → (H.get id).isSome = true := by
    intro id hi
    obtain ⟨b, hb⟩ := Option.isSome_iff_exists.1 hi
    rw [hsub id b hb]; rfl
  have early : ∀ id b, hp.get id = none → H.get id = some b → ∃ x, φ id = some x ∧ φ' id = some x ∧ x.1 < w.heap.size ∧ w'.heap[x.1]? = w.heap[x.1]? ∧ (∀ id0 x0, (hp.get id0).isSome = true → φ id0 = some x0 → x0.1 ≠ x.1) := by
    intro id b hn hb
    obtain ⟨x, hx⟩ := S.rel.has (id := id) (by rw [hb]; rfl)
    have hne : ∀ id0 x0, (hp.get id0).isSome = true → φ id0 = some x0 → x0.1 ≠ x.1 := by
      intro id0 x0 hi0 hx0 he
      have := S.rel.inj id0 id x0 x (live id0 hi0) (by rw [hb]; rfl) hx0 hx he
      subst this
      rw [hn] at hi0; cases hi0
    have hlt := S.rel.block (id := id) (by rw [hb]; rfl) hx
    exact ⟨x, hx, T.le _ _ hx, hlt, T.frame _ hlt hne, hne⟩
  refine ⟨fun id x hx => T.le _ _ (S.le _ _ hx), ⟨?_, ?_, ?_, ?_, ?_⟩, Nat.le_trans S.size T.size, ?_, ?_, ?_, ?_, T.os.trans S.os, T.tape.trans S.tape, T.output.trans S.output⟩
  · intro id c hc
    rcases hg id _ hc with h3 | ⟨h3, h4⟩
    · exact T.rel.cells id c h3
    · obtain ⟨x, k1, k2, k3, k4, _⟩ := early id _ h3 h4
      obtain ⟨b, base, arr, Ty, g1, g2, g3⟩ := S.rel.cells id c h4
      rw [k1] at g1
      cases g1
      exact ⟨b, base, arr, Ty, k2, by rw [k4]; exact g2, g3.le T.le⟩
  · intro id l hc
    rcases hg id _ hc with h3 | ⟨h3, h4⟩
    · exact T.rel.maps id l h3
    · obtain ⟨x, k1, k2, k3, k4, _⟩ := early id _ h3 h4
      obtain ⟨b, es, cl, g1, g2, g3⟩ := S.rel.maps id l h4
      rw [k1] at g1
      cases g1
      exact ⟨b, es, cl, k2, by rw [k4]; exact g2, g3.mono fun _ _ h => ⟨h.1.le T.le, h.2.le T.le⟩⟩
  · intro id id' x x' hi hi' hx hx' he
    obtain ⟨b, hb⟩ := Option.isSome_iff_exists.1 hi
    obtain ⟨b', hb'⟩ := Option.isSome_iff_exists.1 hi'
    rcases hg id b hb with h3 | ⟨h3, h4⟩
    · rcases hg id' b' hb' with h5 | ⟨h5, h6⟩
      · exact T.rel.inj id id' x x' (by rw [h3]; rfl) (by rw [h5]; rfl) hx hx' he
      · obtain ⟨y, k1, k2, k3, k4, k5⟩ := early id' _ h5 h6
        rw [k2] at hx'; cases hx'
        obtain ⟨id0, x0, g1, g2, g3⟩ := T.sub id x (by rw [h3]; rfl) hx (by omega)
        exact absurd (g3.trans he) (k5 id0 x0 g1 g2)
    · obtain ⟨y, k1, k2, k3, k4, k5⟩ := early id _ h3 h4
      rw [k2] at hx; cases hx
      rcases hg id' b' hb' with h5 | ⟨h5, h6⟩
      · obtain ⟨id0, x0, g1, g2, g3⟩ := T.sub id' x' (by rw [h5]; rfl) hx' (by omega)
        exact absurd (g3.trans he.symm) (k5 id0 x0 g1 g2)
      · obtain ⟨y', k1', k2', _⟩ := early id' _ h5 h6
        rw [k2'] at hx'; cases hx'
        exact S.rel.inj id id' _ _ (by rw [h4]; rfl) (by rw [h6]; rfl) k1 k1' he
  · intro id hi
    obtain ⟨b, hb⟩ := Option.isSome_iff_exists.1 hi
    rw [hn]
    rcases hg id b hb with h3 | ⟨h3, h4⟩
    · exact T.rel.low id (by rw [h3]; rfl)
    · have := S.rel.low id (by rw [h4]; rfl)
      have := T.next
      rw [hnx] at this
      omega
  · intro id hi
    rw [hn] at hi
    exact T.rel.free id hi
  · intro g hg0 hne
    rw [T.frame g (Nat.lt_of_lt_of_le hg0 S.size) fun id x hi hx he => ?_]
    · exact S.frame g hg0 hne
    · obtain ⟨id0, x0, k1, k2, k3⟩ := S.sub id x (live id hi) hx (by omega)
      exact hne id0 x0 k1 k2 (k3.trans he)
  · intro id x hi hx hlt
    obtain ⟨b, hb⟩ := Option.isSome_iff_exists.1 hi
    rcases hg id b hb with h3 | ⟨h3, h4⟩
    · obtain ⟨id1, x1, k1, k2, k3⟩ := T.sub id x (by rw [h3]; rfl) hx (Nat.lt_of_lt_of_le hlt S.size)
      obtain ⟨id0, x0, g1, g2, g3⟩ := S.sub id1 x1 (live id1 k1) k2 (by omega)
      exact ⟨id0, x0, g1, g2, g3.trans k3⟩
    · obtain ⟨y, k1, k2, _⟩ := early id _ h3 h4
      rw [k2] at hx; cases hx
      exact S.sub id _ (by rw [h4]; rfl) k1 hlt
  · rw [hn]
    have := S.next
    have := T.next
    rw [hnx] at this
    omega
  · intro id hd
    have := S.next
    rcases T.dom id hd with h3 | h3
    · exact S.dom id h3
    · rw [hnx] at h3
      exact .inr (by omega)
theorem Stp.part (S : Stp ρ φ0 h0 w0 φ H w) (hsub : ∀ id b, hp.get id = some b → H.get id = some b) (hnx : hp.next = H.next) : Rel ρ φ hp w := by
  have live : ∀ id, (hp.get id).isSome = true → (H.get id).isSome = true := by
    intro id hi
    obtain ⟨b, hb⟩ := Option.isSome_iff_exists.1 hi
    rw [hsub id b hb]; rfl
  exact ⟨fun id c hc => S.rel.cells id c (hsub id _ hc), fun id l hl => S.rel.maps id l (hsub id _ hl), fun id id' x x' h1 h2 => S.rel.inj id id' x x' (live id h1) (live id' h2), fun id hi => by rw [hnx]; exact S.rel.low id (live id hi), fun id hi => S.rel.free id (by rw [← hnx]; exact hi)⟩
/-- a block is made under a number set apart -/
theorem Stp.push (S : Stp ρ φ0 h0 w0 φ H w) {id : Bid} (hid : φ id = none) (hlo : h0.next.num ≤ id.num) (hhi : id.num < H.next.num) {blk : Obj} {tot : Nat} {B : AB}
    (hb : (∃ c vs T, B = .cells c ∧ blk = .cells (List.toArray vs) T (0, 0) ∧ tot = vs.length ∧ All2 (VC ρ φ) c vs) ∨ (B = .map [] ∧ blk = .map #[] 0 ∧ tot = 0)) :
    Stp ρ φ0 h0 w0 (φ.add id (w.heap.size, 0, tot)) (H.putB id (some B)) { w with heap := w.heap.push blk } := by
  have hle := Emb.le_add hid (w.heap.size, 0, tot)
  have hold : ∀ g, g < w.heap.size → (w.heap.push blk)[g]? = w.heap[g]? := fun g hg => by rw [Array.getElem?_push_lt hg, Array.getElem?_eq_getElem hg]
  have hnew : (w.heap.push blk)[w.heap.size]? = some blk := by simp
  refine ⟨fun i x hx => hle _ _ (S.le _ _ hx), ⟨?_, ?_, ?_, ?_, ?_⟩, by have := S.size; simp; omega, ?_, ?_, by rw [Hp.next_putB]; exact S.next, ?_, S.os, S.tape, S.output⟩
  · intro i c hc
    by_cases hi : i = id
    · subst hi
      rw [Hp.get_putB] at hc
      cases hc
      rcases hb with ⟨c', vs, T, hB, rfl, rfl, hv⟩ | ⟨hB, _⟩
      · cases hB
        refine ⟨w.heap.size, 0, vs.toArray, T, by rw [Emb.add_same]; simp, hnew, by have := hv.length; simp; omega, fun o x hx => ?_⟩
        obtain ⟨v, h3, h4⟩ := hv.get hx
        exact ⟨v, by simpa using h3, h4.le hle⟩
      · cases hB
    · rw [Hp.get_putB_ne hi] at hc
      obtain ⟨b, base, arr, T, k1, k2, k3⟩ := S.rel.cells i c hc
      have := S.rel.block (id := i) (by rw [hc]; rfl) k1
      exact ⟨b, base, arr, T, hle _ _ k1, by rw [hold _ this]; exact k2, k3.le hle⟩
  · intro i l hc
    by_cases hi : i = id
    · subst hi
      rw [Hp.get_putB] at hc
      cases hc
      rcases hb with ⟨c', vs, T, hB, _⟩ | ⟨hB, rfl, rfl⟩
      · cases hB
      · cases hB
        exact ⟨w.heap.size, #[], 0, Emb.add_same _ _ _, hnew, .nil⟩
    · rw [Hp.get_putB_ne hi] at hc
      obtain ⟨b, es, cl, k1, k2, k3⟩ := S.rel.maps i l hc
      have := S.rel.block (id := i) (by rw [hc]; rfl) k1
      exact ⟨b, es, cl, hle _ _ k1, by rw [hold _ this]; exact k2, k3.mono fun _ _ h => ⟨h.1.le hle, h.2.le hle⟩⟩
  · intro i j x y hi hj hx hy he
    by_cases h1 : i = id
    · by_cases h2 : j = id
      · rw [h1, h2]
      · subst h1
        rw [Emb.add_same] at hx; cases hx
        rw [Hp.get_putB_ne h2] at hj
        rw [Emb.add_ne h2] at hy
        have := S.rel.block hj hy
        simp only at he
        omega
    · rw [Hp.get_putB_ne h1] at hi
      rw [Emb.add_ne h1] at hx
      by_cases h2 : j = id
      · subst h2
        rw [Emb.add_same] at hy; cases hy
        have := S.rel.block hi hx
        simp only at he
        omega
      · rw [Hp.get_putB_ne h2] at hj
        rw [Emb.add_ne h2] at hy
        exact S.rel.inj i j x y hi hj hx hy he
  · intro i hi
    rw [Hp.next_putB]
    by_cases h1 : i = id
    · subst h1; exact hhi
    · rw [Hp.get_putB_ne h1] at hi
      exact S.rel.low i hi
  · intro i hi
    rw [Hp.next_putB] at hi
    rw [Emb.add_ne (by rintro rfl; omega)]
    exact S.rel.free i hi
  · intro g hg hne
    show (w.heap.push blk)[g]? = _
    rw [hold g (Nat.lt_of_lt_of_le hg S.size)]
    exact S.frame g hg hne
  · intro i x hi hx hlt
    by_cases h1 : i = id
    · subst h1
      rw [Emb.add_same] at hx; cases hx
      have := S.size
      simp only at hlt
      omega
    · rw [Hp.get_putB_ne h1] at hi
      rw [Emb.add_ne h1] at hx
      exact S.sub i x hi hx hlt
  · intro i hd
    by_cases h1 : i = id
    · subst h1; exact .inr hlo
    · rw [Emb.add_ne h1] at hd
      exact S.dom i hd
/-- what makes is -/
theorem make_of {op : Op} {ao : AO} (hc : cOp P op = some ao) (hk : kindOf ao = 2) (hf : FR ρ φ fr a.tmps) {v : AV} {ty : TypeId} {h h' : Hp} (e : aop P E noCall ao fr h = .ok v h') : MkRes P ρ φ h w v h' op a.eval ty := by
  cases op with
  | alloc t => exact mk_al hf hc e
  | box t x => exact mk_bx hf hc e
  | buildSlice t len parts => exact mk_bs hf hc e
  | makeMap t o => exact mk_mm hc e
  | makeSlice t x y => exact mk_ms hf hc e
  | unOp uo t x =>
    exfalso
    cases uo <;> first | (cases hc; simp [kindOf] at hk; done) | (obtain ⟨_, _, rfl⟩ := map_some (show (cX x).map AO.not = some _ from hc); simp [kindOf] at hk; done) | (simp [cOp] at hc; done)
  | _ =>
    exfalso
    clear e
    revert hc hk
    simp only [cOp]
    (try unfold cEqa)
    (try unfold cMu)
    (try unfold cAp)
    (repeat' split) <;> intro hk hc <;> first | (cases hc; done) | (obtain ⟨_, _, rfl⟩ := map_some hc; simp [kindOf] at hk; done) | (cases hc; simp [kindOf] at hk; done) | contradiction
end
end Go.Proofs.YtmbbciidknchiaaGreat
