/-
  Deep values: rows that are written no more; names changed ahead of a contract. No function of the program is named here.
-/
import Derived.Test.YtgjindhjgmplgaaGreatDpO
set_option linter.unusedVariables false
set_option linter.unusedSimpArgs false
set_option linter.constructorNameAsVariable false
namespace Go.Proofs.YtgjindhjgmplgaaGreat
open Go.RowKit
section
variable {P : Program} {G : Gd} {φ φ' φ0 : Emb} {z z' z0 : Fz} {fr : Frs} {m E : Mem} {nx n0 N : Nat} {a : Act} {w w' : World} {k : KVk} {call : CallF}
theorem CV.mp {f : Nat → Nat} {c : DC} {v : Value} (h : CV φ z c v) (hf : ∀ x ∈ idsC c, ∀ q, φ x = some q → φ' (f x) = some q) : CV φ' z (mpC f c) v := by
  cases c with
  | pv x off => obtain ⟨b, h1, h2⟩ := h; exact ⟨b, hf x (by simp [idsC]) _ h1, h2⟩
  | pw x e i off => obtain ⟨b, o, n, cap, h1, h2⟩ := h; exact ⟨b, o, n, cap, hf x (by simp [idsC]) _ h1, h2⟩
  | bp x e lo hi => obtain ⟨p, n, cap, l, u, h1, h2⟩ := h; exact ⟨p, n, cap, l, u, hf x (by simp [idsC]) _ h1, h2⟩
  | mp x => exact ⟨hf x (by simp [idsC]) _ h.1, h.2⟩
  | oe x n => obtain ⟨b, h1, h2⟩ := h; exact ⟨b, hf x (by simp [idsC]) _ h1, h2⟩
  | fb g x => obtain ⟨b, h1, h2⟩ := h; exact ⟨b, hf x (by simp [idsC]) _ h1, h2⟩
  | ow x => exact ⟨hf x (by simp [idsC]) _ h.1, h.2⟩
  | fn g l =>
    obtain ⟨xs, h1, h2⟩ := h
    refine ⟨xs, h1, ?_⟩
    have hl : ∀ x ∈ l, ∀ q, φ x = some q → φ' (f x) = some q := hf
    clear h1 hf
    induction h2 with
    | nil => exact .nil
    | cons h t ih =>
      obtain ⟨b, h3, h4⟩ := h
      exact .cons ⟨b, hl _ (by simp) _ h3, h4⟩ (ih fun x hx => hl x (by simp [hx]))
  | _ => exact h
theorem CVs.mp {f : Nat → Nat} {l : List DC} {vs : List Value} (h : All2 (CV φ z) l vs) (hf : ∀ x ∈ l.flatMap idsC, ∀ q, φ x = some q → φ' (f x) = some q) : All2 (CV φ' z) (l.map (mpC f)) vs := by
  induction h with
  | nil => exact .nil
  | cons h t ih => exact .cons (h.mp fun x hx => hf x (by simp [hx])) (ih fun x hx => hf x (by simp only [List.flatMap_cons, List.mem_append]; exact .inr hx))
theorem VS.mp {f : Nat → Nat} {v : V} {u : Value} (h : VS φ z v u) (hf : ∀ x ∈ idsP v, ∀ q, φ x = some q → φ' (f x) = some q) : VS φ' z (mpP f v) u := by
  cases v with
  | c c => exact CV.mp (c := c) h hf
  | r s q => exact h
  | a l => obtain ⟨vs, h1, h2⟩ := h; exact ⟨vs, h1, CVs.mp h2 hf⟩
  | t l => exact h
theorem VSs.mp {f : Nat → Nat} {l : List V} {vs : List Value} (h : All2 (VS φ z) l vs) (hf : ∀ x ∈ l.flatMap idsP, ∀ q, φ x = some q → φ' (f x) = some q) : All2 (VS φ' z) (l.map (mpP f)) vs := by
  induction h with
  | nil => exact .nil
  | cons h t ih => exact .cons (h.mp fun x hx => hf x (by simp [hx])) (ih fun x hx => hf x (by simp only [List.flatMap_cons, List.mem_append]; exact .inr hx))
theorem VR.mp {f : Nat → Nat} {v : V} {u : Value} (h : VR φ z v u) (hf : ∀ x ∈ idsV v, ∀ q, φ x = some q → φ' (f x) = some q) : VR φ' z (mpV f v) u := by
  cases v with
  | t l => obtain ⟨vs, h1, h2⟩ := h; exact ⟨vs, h1, VSs.mp h2 hf⟩
  | c c => exact (VS.mp (v := .c c) h hf).vr
  | r s q => exact h
  | a l => exact (VS.mp (v := .a l) h hf).vr
theorem VRs.mp {f : Nat → Nat} {l : List V} {vs : List Value} (h : All2 (VR φ z) l vs) (hf : ∀ x ∈ l.flatMap idsV, ∀ q, φ x = some q → φ' (f x) = some q) : All2 (VR φ' z) (l.map (mpV f)) vs := by
  induction h with
  | nil => exact .nil
  | cons h t ih => exact .cons (h.mp fun x hx => hf x (by simp [hx])) (ih fun x hx => hf x (by simp only [List.flatMap_cons, List.mem_append]; exact .inr hx))
theorem BR.mp {f : Nat → Nat} {x : Nat} {B : Blk} (h : BR φ z w x B) (hx : ∀ q, φ x = some q → φ' (f x) = some q) (hf : ∀ y ∈ idsB B, ∀ q, φ y = some q → φ' (f y) = some q) : BR φ' z w (f x) (mpB f B) := by
  cases B with
  | R s r => obtain ⟨b, arr, T, h1, h2⟩ := h; exact ⟨b, arr, T, hx _ h1, h2⟩
  | E l => obtain ⟨b, arr, T, h1, h2, h3⟩ := h; exact ⟨b, arr, T, hx _ h1, h2, CVs.mp h3 hf⟩
  | W e rows =>
    rcases h with ⟨h1, h2⟩ | ⟨b, off, arr, T, cap, h1, h2⟩
    · exact .inl ⟨hx _ h1, h2⟩
    · exact .inr ⟨b, off, arr, T, cap, hx _ h1, h2⟩
  | J e n l =>
    rcases h with ⟨h1, h2⟩ | ⟨b, off, arr, T, q, h1, h2⟩
    · exact .inl ⟨hx _ h1, h2⟩
    · exact .inr ⟨b, off, arr, T, q, hx _ h1, h2⟩
  | P ka va ks vs l => obtain ⟨b, es, clock, h1, h2⟩ := h; exact ⟨b, es, clock, hx _ h1, h2⟩
  | Z e rows => obtain ⟨v, h1, h2⟩ := h; exact ⟨v, hx _ h1, h2⟩
theorem mpB_live {f : Nat → Nat} {B : Blk} : (mpB f B).live = B.live := by cases B <;> rfl
theorem look_mpM {f : Nat → Nat} : ∀ {m : Mem} {x : Nat} {B : Blk}, (∀ p ∈ m, ∀ q ∈ m, f p.1 = f q.1 → p.1 = q.1) → look x (mpM f m) = some B → ∃ y B', x = f y ∧ B = mpB f B' ∧ look y m = some B'
  | (y, b) :: m, x, B, hinj, h => by
    have h : look x ((f y, mpB f b) :: mpM f m) = some B := h
    by_cases e : f y = x
    · subst e
      rw [look_same] at h
      cases h
      exact ⟨y, b, rfl, rfl, look_same ..⟩
    · rw [look_ne e] at h
      obtain ⟨y', B', h1, h2, h3⟩ := look_mpM (fun p hp q hq => hinj p (by simp [hp]) q (by simp [hq])) h
      refine ⟨y', B', h1, h2, ?_⟩
      rw [look_ne]
      · exact h3
      · rintro rfl; exact e h1.symm
theorem MR.mp (r : MR G φ z m w) {f : Nat → Nat} (hf : ∀ i q, φ i = some q → φ' (f i) = some q) (inj : ∀ i j, (∃ q, φ i = some q) → (∃ q, φ j = some q) → f i = f j → i = j) (hk : ∀ p ∈ m, ∃ q, φ p.1 = some q) : MR G φ' z (mpM f m) w := by
  have hlook : ∀ {x : Nat} {B : Blk}, look x (mpM f m) = some B → ∃ y B', x = f y ∧ B = mpB f B' ∧ look y m = some B' := fun h => look_mpM (fun p hp q hq e => inj _ _ (hk p hp) (hk q hq) e) h
  have own : ∀ x b, Owns φ' (mpM f m) x b → ∃ y, x = f y ∧ Owns φ m y b := by
    intro x b ⟨⟨B, hB, hl⟩, v, hv, hb⟩
    obtain ⟨y, B', rfl, rfl, h3⟩ := hlook hB
    obtain ⟨v0, hv0⟩ := (r.blk y B' h3).has
    have := hf y v0 hv0
    rw [hv] at this
    cases this
    exact ⟨y, rfl, ⟨B', h3, by rw [mpB_live] at hl; exact hl⟩, v, hv0, hb⟩
  refine ⟨fun x B h => ?_, fun x y b h1 h2 => ?_, fun x b h => ?_, fun x b h => ?_, r.frz, r.zin, r.znew, r.old, r.size, r.os, r.tape, r.output⟩
  · obtain ⟨y, B', rfl, rfl, h3⟩ := hlook h
    exact (r.blk y B' h3).mp (hf y) fun q _ => hf q
  · obtain ⟨x', rfl, o1⟩ := own x b h1
    obtain ⟨y', rfl, o2⟩ := own y b h2
    rw [r.inj x' y' b o1 o2]
  · obtain ⟨x', rfl, o1⟩ := own x b h
    exact r.sep x' b o1
  · obtain ⟨x', rfl, o1⟩ := own x b h
    exact r.low x' b o1
theorem fwI_get : ∀ {keys : List Nat} {x : Nat}, x ∈ keys → fwI keys x < keys.length ∧ keys[fwI keys x]? = some x
  | y :: l, x, h => by
    unfold fwI
    cases hb : Nat.beq y x with
    | true => have := Nat.eq_of_beq_eq_true hb; subst this; exact ⟨by simp, rfl⟩
    | false =>
      have hx : x ∈ l := by
        rcases List.mem_cons.1 h with e | e
        · exact absurd e.symm (Nat.ne_of_beq_eq_false hb)
        · exact e
      obtain ⟨h1, h2⟩ := fwI_get hx
      exact ⟨by simp; omega, by simpa using h2⟩
theorem nodup_get : ∀ {l : List Nat} {i j x : Nat}, nodupB l = true → l[i]? = some x → l[j]? = some x → i = j
  | y :: l, i, j, x, h, h1, h2 => by
    obtain ⟨h3, h4⟩ := and2 (show (!(l.any fun z => Nat.beq y z) && nodupB l) = true from h)
    have no : ∀ k, l[k]? = some y → False := fun k hk => by
      have : (l.any fun z => Nat.beq y z) = true := List.any_eq_true.2 ⟨y, List.mem_of_getElem? hk, by simp⟩
      rw [this] at h3; cases h3
    cases i with
    | zero =>
      cases j with
      | zero => rfl
      | succ j => simp at h1 h2; subst h1; exact (no j h2).elim
    | succ i =>
      cases j with
      | zero => simp at h1 h2; subst h2; exact (no i h1).elim
      | succ j => simp at h1 h2; rw [nodup_get h4 h1 h2]
theorem look_liveG : ∀ {m : Mem} {l : List Nat} {x : Nat} {B : Blk}, look x (liveG m l) = some B → look x m = some B
  | m, y :: l, x, B, h => by
    simp only [liveG] at h
    split at h
    · rename_i b hb
      cases hl : b.live with
      | true =>
        rw [hl] at h
        by_cases e : y = x
        · subst e; rw [cond_true, look_same] at h; cases h; exact hb
        · rw [cond_true, look_ne e] at h; exact look_liveG h
      | false => rw [hl] at h; exact look_liveG h
    · exact look_liveG h
theorem VR.vs {v : V} {u : Value} (h : VR φ z v u) (hn : ∀ l, v ≠ .t l) : VS φ z v u := by
  cases v with
  | t l => exact absurd rfl (hn l)
  | _ => exact h
theorem nrmV_ok {t : TypeId} {v : V} {u : Value} (h : VR φ z v u) : VR φ z (nrmV P t v) u := by
  unfold nrmV
  split
  · split
    · rename_i l
      split
      · rename_i r hr
        obtain ⟨vs, rfl, h2⟩ := h
        exact ⟨vs, rfl, dvsOf_ok hr h2⟩
      · exact h
    · exact h
  · split
    · rename_i c
      split
      · rename_i d hd
        exact cellK_ok (d := d) rfl (dvOf_ok hd h)
      · exact h
    · exact h
  · exact h
theorem nrmV_t {t : TypeId} {v : V} (h : ∀ l, v ≠ .t l) : ∀ l, nrmV P t v ≠ .t l := by
  intro l
  unfold nrmV
  split
  · split
    · split
      · exact fun h => nomatch h
      · exact h l
    · exact h l
  · split
    · split
      · exact fun h => nomatch h
      · exact h l
    · exact h l
  · exact h l
theorem nrmL_ok : ∀ {ts : List TypeId} {vs : List V} {us : List Value}, All2 (VR φ z) vs us → All2 (VR φ z) (nrmL P ts vs) us
  | [], vs, us, h => by cases vs <;> exact h
  | t :: ts, [], us, h => h
  | t :: ts, v :: vs, us, h => by
    cases h with
    | cons h1 h2 => exact .cons (nrmV_ok h1) (nrmL_ok h2)
theorem nrmLs_ok : ∀ {ts : List TypeId} {vs : List V} {us : List Value}, All2 (VS φ z) vs us → All2 (VS φ z) (nrmL P ts vs) us
  | [], vs, us, h => by cases vs <;> exact h
  | t :: ts, [], us, h => h
  | t :: ts, v :: vs, us, h => by
    cases h with
    | cons h1 h2 => exact .cons ((nrmV_ok h1.vr).vs (nrmV_t fun l e => by rw [e] at h1; exact h1)) (nrmLs_ok h2)
theorem thawVs_ok (hm : MR G φ z m w) {v : V} {u : Value} (h : VS φ z v u) : VS φ z (thawV m v) u := by
  cases v with
  | c c => exact thawC_ok (c := c) hm h
  | a l => obtain ⟨us, h1, h2⟩ := h; exact ⟨us, h1, thawCs_ok hm h2⟩
  | r s q => exact h
  | t l => exact h
theorem thawB_ok (hm : MR G φ z m w) {x : Nat} {B : Blk} (h : BR φ z w x B) : BR φ z w x (thawB m B) := by
  cases B with
  | E l => obtain ⟨b, arr, T, h1, h2, h3⟩ := h; exact ⟨b, arr, T, h1, h2, thawCs_ok hm h3⟩
  | R s q => exact h
  | _ => exact h
theorem look_mapB {f : Blk → Blk} : ∀ {m : Mem} {x : Nat} {B : Blk}, look x (m.map fun p => (p.1, f p.2)) = some B → ∃ B', look x m = some B' ∧ B = f B'
  | (y, b) :: m, x, B, h => by
    have h : look x ((y, f b) :: m.map fun p => (p.1, f p.2)) = some B := h
    by_cases e : y = x
    · subst e; rw [look_same] at h ⊢; cases h; exact ⟨b, rfl, rfl⟩
    · rw [look_ne e] at h ⊢; exact look_mapB h
theorem MR.thaw {G2 : Gd} {m2 : Mem} (r : MR G φ z m w) (r2 : MR G2 φ z m2 w) : MR G φ z (m.map fun p => (p.1, thawB m2 p.2)) w := by
  have hl : ∀ B, (thawB m2 B).live = B.live := fun B => by cases B <;> rfl
  have own : ∀ x b, Owns φ (m.map fun p => (p.1, thawB m2 p.2)) x b → Owns φ m x b := by
    intro x b ⟨⟨B, hB, h1⟩, h2⟩
    obtain ⟨B', h3, rfl⟩ := look_mapB hB
    exact ⟨⟨B', h3, by rw [← hl]; exact h1⟩, h2⟩
  refine ⟨fun x B h => ?_, fun x y b h1 h2 => r.inj x y b (own x b h1) (own y b h2), fun x b h => r.sep x b (own x b h), fun x b h => r.low x b (own x b h), r.frz, r.zin, r.znew, r.old, r.size, r.os, r.tape, r.output⟩
  obtain ⟨B', h3, rfl⟩ := look_mapB h
  exact thawB_ok r2 (r.blk x B' h3)
theorem keys_look : ∀ {m : Mem} {x : Nat}, x ∈ keysM m → ∃ B, look x m = some B
  | (y, b) :: m, x, h => by
    by_cases e : y = x
    · subst e; exact ⟨b, look_same ..⟩
    · rw [look_ne e]
      refine keys_look (m := m) ?_
      rcases List.mem_cons.1 (show x ∈ y :: keysM m from h) with e' | e'
      · exact absurd e'.symm e
      · exact e'
theorem MR.part (r : MR G φ z m w) (hi : ∀ x ∈ idsM m, φ' x = φ x) : MR G φ' z m w := by
  have own : ∀ x b, Owns φ' m x b → Owns φ m x b := by
    intro x b ⟨⟨B, hB, hl⟩, v, hv, hb⟩
    rw [hi x (idsM_key hB).1] at hv
    exact ⟨⟨B, hB, hl⟩, v, hv, hb⟩
  exact ⟨fun x B h => (r.blk x B h).part (hi x (idsM_key h).1) fun y hy => hi y ((idsM_key h).2 y hy), fun x y b h1 h2 => r.inj x y b (own _ _ h1) (own _ _ h2), fun x b h => r.sep x b (own _ _ h), fun x b h => r.low x b (own _ _ h), r.frz, r.zin, r.znew, r.old, r.size, r.os, r.tape, r.output⟩
theorem tblE_ok {g : List V → Mem → Nat → KVk → Prop} {f : Nat} (hg : ∀ vs E nx k, g vs E nx k → CallG P f vs E nx k) {vs1 : List V} {E1 E : Mem} (h : tbl.tblE g vs1 E1 (liveM E1) nx k) {us : List Value} {z1 : Fz} (hm : MR G φ z E w) (hlt : Lt φ nx) (hz1 : Fz.le z z1) (hm1 : MR G φ z1 E1 w) (hus1 : All2 (VR φ z1) vs1 us) : Calls P f us.toArray w fun e w' => ∃ v m' nx' φ' z' u, e = .returned u ∧ k v m' nx' ∧ Emb.le φ φ' ∧ Fz.le z z' ∧ MR G φ' z' m' w' ∧ Dom φ φ' nx nx' ∧ nx ≤ nx' ∧ VR φ' z' v u := by
  have hE2 : ∀ x B, look x (liveM E1) = some B → look x E1 = some B := fun x B hx => look_liveG hx
  generalize liveM E1 = E2 at h hE2
  unfold tbl.tblE at h
  cases hc : idsOk (keysM E2) nx (vs1.flatMap idsV ++ idsM (E2.map fun p => (p.1, thawB E1 p.2))) with
  | false => rw [hc] at h; exact h.elim
  | true =>
  rw [hc] at h
  have h : g (vs1.map (mpV (fwI (keysM E2)))) (mpM (fwI (keysM E2)) (E2.map fun p => (p.1, thawB E1 p.2))) (keysM E2).length fun v m n => k (mpV (bkI (keysM E2) nx) v) (mpM (bkI (keysM E2) nx) m ++ without E1 E2) (nx + (n - (keysM E2).length)) := h
  obtain ⟨c1, c2⟩ := and2 hc
  obtain ⟨c2, c3⟩ := and2 c2
  generalize hkeys : keysM E2 = keys at h c1 c2 c3
  have inK : ∀ x, x ∈ vs1.flatMap idsV ++ idsM (E2.map fun p => (p.1, thawB E1 p.2)) → x ∈ keys := fun x hx => inB_iff.1 (List.all_eq_true.1 c1 x hx)
  have ltK : ∀ x ∈ keys, x < nx := fun x hx => by simpa using List.all_eq_true.1 c3 x hx
  let φK : Emb := fun x => if x ∈ keys then φ x else none
  have hφK : ∀ x ∈ keys, φK x = φ x := fun x hx => if_pos hx
  have hcut0 := hm1.cut (E := E2) (φ' := φ) hE2 fun _ _ => rfl
  have hth := hcut0.thaw hm1
  have hK := hth.part (φ' := φK) fun x hx => hφK x (inK x (List.mem_append_right _ hx))
  let ψ : Emb := fun i => match keys[i]? with | some x => φ x | none => none
  have hψ : ∀ i q, ψ i = some q → ∃ x, keys[i]? = some x ∧ φ x = some q := by
    intro i q h
    have h : (match keys[i]? with | some x => φ x | none => none) = some q := h
    split at h
    · rename_i x hx; exact ⟨x, hx, h⟩
    · cases h
  have hfw : ∀ i q, φK i = some q → ψ (fwI keys i) = some q := by
    intro i q h
    have h : (if i ∈ keys then φ i else none) = some q := h
    split at h
    · rename_i hi
      show (match keys[fwI keys i]? with | some x => φ x | none => none) = some q
      rw [(fwI_get hi).2]; exact h
    · cases h
  have memK : ∀ i, (∃ q, φK i = some q) → i ∈ keys := by
    intro i ⟨q, h⟩
    have h : (if i ∈ keys then φ i else none) = some q := h
    split at h
    · assumption
    · cases h
  have hmψ := hK.mp (φ' := ψ) hfw (fun i j hi hj e => by
    have h1 := (fwI_get (memK i hi)).2
    have h2 := (fwI_get (memK j hj)).2
    rw [e, h2] at h1
    exact (Option.some.inj h1).symm) fun p hp => by
      obtain ⟨q, hq, rfl⟩ := List.mem_map.1 hp
      have hin : q.1 ∈ keysM E2 := List.mem_map.2 ⟨q, hq, rfl⟩
      obtain ⟨B, hB⟩ := keys_look hin
      obtain ⟨v, hv⟩ := (hm1.blk _ B (hE2 _ B hB)).has
      exact ⟨v, by rw [hφK _ (hkeys ▸ hin)]; exact hv⟩
  have hargs : All2 (VR ψ z1) (vs1.map (mpV (fwI keys))) us := VRs.mp (φ := φK) (VRs.part hus1 fun v hv x hx => hφK x (inK x (List.mem_append_left _ (List.mem_flatMap.2 ⟨v, hv, hx⟩)))) fun x _ => hfw x
  have hltψ : Lt ψ keys.length := fun i q h => by
    obtain ⟨x, hx, _⟩ := hψ i q h
    exact (List.getElem?_eq_some_iff.1 hx).1
  refine (hg _ _ _ _ h _ ψ z1 w us hmψ hltψ hargs).mono ?_
  rintro e w' ⟨v, m', n', φ', z', u, rfl, h1, h2, h3, h4, h5, h6, h7⟩
  let φ'' : Emb := fun x => if x < nx then φ x else φ' (keys.length + (x - nx))
  have get_lt : ∀ i, i < keys.length → ∃ x, keys[i]? = some x ∧ x < nx := fun i hi => by
    have := List.getElem?_eq_getElem hi
    exact ⟨_, this, ltK _ (List.mem_of_getElem? this)⟩
  have bk_lt : ∀ i x, keys[i]? = some x → bkI keys nx i = x := fun i x h => by unfold bkI; rw [h]
  have bk_ge : ∀ i, keys.length ≤ i → bkI keys nx i = nx + (i - keys.length) := fun i h => by
    unfold bkI; rw [List.getElem?_eq_none h]
  have hbk : ∀ i q, φ' i = some q → φ'' (bkI keys nx i) = some q := by
    intro i q hq
    show (if bkI keys nx i < nx then φ (bkI keys nx i) else φ' (keys.length + (bkI keys nx i - nx))) = some q
    rcases h5 i q hq with h8 | h8
    · obtain ⟨x, hx, hx2⟩ := hψ i q h8
      have := ltK x (List.mem_of_getElem? hx)
      rw [bk_lt i x hx, if_pos this]; exact hx2
    · rw [bk_ge i h8.1, if_neg (by omega)]
      rw [show keys.length + (nx + (i - keys.length) - nx) = i by omega]; exact hq
  have hinj : ∀ i j, (∃ q, φ' i = some q) → (∃ q, φ' j = some q) → bkI keys nx i = bkI keys nx j → i = j := by
    intro i j _ _ e
    by_cases hi : i < keys.length <;> by_cases hj : j < keys.length
    · obtain ⟨x, hx, _⟩ := get_lt i hi
      obtain ⟨y, hy, _⟩ := get_lt j hj
      rw [bk_lt i x hx, bk_lt j y hy] at e
      subst e
      exact nodup_get c2 hx hy
    · obtain ⟨x, hx, hx2⟩ := get_lt i hi
      rw [bk_lt i x hx, bk_ge j (by omega)] at e
      omega
    · obtain ⟨y, hy, hy2⟩ := get_lt j hj
      rw [bk_lt j y hy, bk_ge i (by omega)] at e
      omega
    · rw [bk_ge i (by omega), bk_ge j (by omega)] at e
      omega
  have h4' := h4.mp (φ' := φ'') hbk hinj fun p hp => by
    obtain ⟨B, hB⟩ := keys_look (m := m') (List.mem_map.2 ⟨p, hp, rfl⟩)
    exact (h4.blk _ B hB).has
  have hle : Emb.le φ φ'' := fun x q hq => by
    show (if x < nx then φ x else _) = some q
    rw [if_pos (hlt x q hq)]; exact hq
  refine ⟨_, _, _, φ'', z', u, rfl, h1, hle, hz1.trans h3, hm1.join (E := E2) (φr := φ) hE2 h4' h3 (.refl φ'') hle, fun x q hq => ?_, Nat.le_add_right _ _, h7.mp fun x _ => hbk x⟩
  have hq : (if x < nx then φ x else φ' (keys.length + (x - nx))) = some q := hq
  split at hq
  · exact .inl hq
  · refine .inr ⟨by omega, ?_⟩
    rcases h5 _ q hq with h8 | h8
    · have := hltψ _ q h8; omega
    · omega
theorem plRow : ∀ {s : Sh} {r : Row} {vs : List Value}, s.all plK = true → RowD z' s r vs → RowD z s r vs
  | [], _, _, _, h => by simpa only [RowD] using h
  | k :: s, r, vs, hp, h => by
    rw [List.all_cons] at hp
    obtain ⟨hk, hs⟩ := and2 hp
    simp only [RowD] at h ⊢
    obtain ⟨d, r', v, vs', h1, h2, h3, h4⟩ := h
    refine ⟨d, r', v, vs', h1, h2, ?_, plRow hs h4⟩
    cases k with
    | sl e => cases hk
    | _ => simpa only [CellD] using h3
theorem plP_ok {v : V} {u : Value} (h : plP v = true) (hv : VS φ' z' v u) : VS φ z v u := by
  cases v with
  | c c => cases c <;> first | exact hv | cases h
  | r s r =>
    obtain ⟨vs, h1, h2⟩ := hv
    exact ⟨vs, h1, plRow h h2⟩
  | a l => cases h
  | t l => cases h
theorem plL_ok {l : List V} {vs : List Value} (h2 : All2 (VS φ' z') l vs) : (∀ x ∈ l, plP x = true) → All2 (VS φ z) l vs := by
  induction h2 with
  | nil => exact fun _ => .nil
  | cons q t ih => exact fun h => .cons (plP_ok (h _ List.mem_cons_self) q) (ih fun x hx => h x (List.mem_cons_of_mem _ hx))
theorem plV_ok {v : V} {u : Value} (h : plV v = true) (hv : VR φ' z' v u) : VR φ z v u := by
  cases v with
  | t l =>
    obtain ⟨vs, h1, h2⟩ := hv
    exact ⟨vs, h1, plL_ok h2 (List.all_eq_true.1 h)⟩
  | a l => cases h
  | c c =>
    have h : plP (.c c) = true := h
    exact plP_ok h hv
  | r s r =>
    have h : plP (.r s r) = true := h
    exact plP_ok (φ := φ) (φ' := φ') h hv
theorem MR.still {w' : World} (hm : MR G φ z E w) (hs : w.heap.size ≤ w'.heap.size) (ho : ∀ b, b < w.heap.size → w'.heap[b]? = w.heap[b]?) (h1 : w'.os = w.os) (h2 : w'.tape = w.tape) (h3 : w'.output = w.output) : MR G φ z E w' := by
  have hb : ∀ {b : Nat} {o : Obj}, w.heap[b]? = some o → w'.heap[b]? = some o := fun {b o} h => by
    rw [ho b (Array.getElem?_eq_some_iff.1 h).1]; exact h
  refine ⟨fun x B hx => ?_, hm.inj, hm.sep, hm.low, fun b o h => hb (hm.frz b o h), hm.zin, hm.znew, fun b h k => by rw [ho b (Nat.lt_of_lt_of_le h hm.size)]; exact hm.old b h k, Nat.le_trans hm.size hs, h1.trans hm.os, h2.trans hm.tape, h3.trans hm.output⟩
  have := hm.blk x B hx
  cases B with
  | R s r => obtain ⟨b, arr, T, q1, q2, q3⟩ := this; exact ⟨b, arr, T, q1, hb q2, q3⟩
  | E l => obtain ⟨b, arr, T, q1, q2, q3⟩ := this; exact ⟨b, arr, T, q1, hb q2, q3⟩
  | W e rows =>
    rcases this with q | ⟨b, off, arr, T, cap, q1, q2, q3, q4, q5⟩
    · exact .inl q
    · exact .inr ⟨b, off, arr, T, cap, q1, q2, q3, hb q4, q5⟩
  | Z e rows => exact this
  | J e n l =>
    rcases this with q | ⟨b, off, arr, T, k, q1, q2, q3, q4, q5, q6⟩
    · exact .inl q
    · exact .inr ⟨b, off, arr, T, k, q1, q2, q3, q4, hb q5, q6⟩
  | P ka va ks vs l => obtain ⟨b, es, clock, q1, q2, q3⟩ := this; exact ⟨b, es, clock, q1, hb q2, q3⟩
theorem tbl_ok {g : List V → Mem → Nat → KVk → Prop} {f : Nat} (hg : ∀ vs E nx k, g vs E nx k → CallG P f vs E nx k) {vs : List V} {lv : Bool} (h : tbl P g lv f vs E nx k) : CallG P f vs E nx k := by
  intro G φ z w us hm hlt hus
  unfold tbl at h
  cases hl : lv || lvB P f with
  | true =>
    rw [hl] at h
    exact tblE_ok hg h hm hlt (.refl z) hm hus
  | false =>
  rw [hl] at h
  have h : bif lendB P f (nrmL P (parOf P f) (vs.map (thawV (frzM E)))) then g (nrmL P (parOf P f) (vs.map (thawV (frzM E)))) [] 0 fun v _ _ => cond (plV v) (k v E nx) False else tbl.tblE g (nrmL P (parOf P f) (vs.map (thawV (frzM E)))) (frzM E) (liveM (frzM E)) nx k := h
  obtain ⟨z1, hz1, hm1⟩ := hm.freeze (E := E) fun _ _ h => h
  have hm1 : MR G φ z1 (frzM E) w := hm1.forget fun x B hx => by
    rw [look_frz]; rw [look_frzM] at hx
    cases he : look x E with
    | none => rw [he] at hx; cases hx
    | some B' => rw [he] at hx; exact hx
  have hus1 : All2 (VR φ z1) (nrmL P (parOf P f) (vs.map (thawV (frzM E)))) us := nrmL_ok (All2.map ((hus.mono fun _ _ h => h.le (.refl φ) hz1).mono fun _ _ h => thawV_ok hm1 h))
  cases hl2 : lendB P f (nrmL P (parOf P f) (vs.map (thawV (frzM E)))) with
  | true =>
    rw [hl2] at h
    have h : g (nrmL P (parOf P f) (vs.map (thawV (frzM E)))) [] 0 fun v _ _ => cond (plV v) (k v E nx) False := h
    obtain ⟨_, hid⟩ := and2 hl2
    have hid : (nrmL P (parOf P f) (vs.map (thawV (frzM E)))).flatMap idsV = [] := List.isEmpty_iff.1 hid
    have hm2 : MR ⟨w, fun _ => False, z1⟩ (fun _ => none) z1 [] w := ⟨fun x B hx => (by cases hx), fun x y b h1 _ => (by obtain ⟨⟨B, hB, _⟩, _⟩ := h1; cases hB), fun x b h1 => (by obtain ⟨⟨B, hB, _⟩, _⟩ := h1; cases hB), fun x b h1 => (by obtain ⟨⟨B, hB, _⟩, _⟩ := h1; cases hB), hm1.frz, .refl z1, fun b o h => .inl h, fun _ _ _ => rfl, Nat.le_refl _, rfl, rfl, rfl⟩
    have hus2 : All2 (VR (fun _ => none) z1) (nrmL P (parOf P f) (vs.map (thawV (frzM E)))) us := VRs.part hus1 fun v hv x hx => by
      have : x ∈ (nrmL P (parOf P f) (vs.map (thawV (frzM E)))).flatMap idsV := List.mem_flatMap.2 ⟨v, hv, hx⟩
      rw [hid] at this; cases this
    refine (hg _ _ _ _ h _ _ z1 w us hm2 (fun _ _ h => by cases h) hus2).mono ?_
    rintro e w' ⟨v, m', n', φ', z', u, rfl, h1, _, _, h4, _, _, h7⟩
    cases hp : plV v with
    | false => rw [hp] at h1; exact h1.elim
    | true =>
      rw [hp] at h1
      exact ⟨v, E, nx, φ, z, u, rfl, h1, .refl φ, .refl z, hm.still h4.size (fun b hb => h4.old b hb fun k => k) h4.os h4.tape h4.output, fun x q hq => .inl hq, Nat.le_refl _, plV_ok hp h7⟩
  | false =>
  rw [hl2] at h
  have h : tbl.tblE g (nrmL P (parOf P f) (vs.map (thawV (frzM E)))) (frzM E) (liveM (frzM E)) nx k := h
  exact tblE_ok hg h hm hlt hz1 hm1 hus1
end
end Go.Proofs.YtgjindhjgmplgaaGreat
