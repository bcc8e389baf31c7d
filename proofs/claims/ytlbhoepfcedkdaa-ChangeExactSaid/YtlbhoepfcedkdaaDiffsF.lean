/-
  ChangeDiffs, plain: pages that are mixed of two pages, and how the changes from one to the other lead through them.
-/
import Derived.Test.YtlbhoepfcedkdaaDiffF
import Derived.Test.YtlbhoepfcedkdaaBackF
namespace Go.Proofs.Ytlbhoepfcedkdaa
open Go.RowKit
theorem cellEqB_iff {x y : Bool × ByteArray} : cellEqB x y = true ↔ x = y := by
  obtain ⟨a, s⟩ := x
  obtain ⟨b, t⟩ := y
  simp only [cellEqB, Bool.and_eq_true, beq_iff_eq, Prod.mk.injEq]
  constructor
  · rintro ⟨h1, h2⟩
    refine ⟨h1, ?_⟩
    have : s.data.toList = t.data.toList := by rw [← ByteArray.toList_eq, ← ByteArray.toList_eq]; exact h2
    cases s; cases t
    simp at this
    subst this
    rfl
  · rintro ⟨rfl, rfl⟩
    exact ⟨rfl, rfl⟩
theorem cellEqB_no {x y : Bool × ByteArray} : cellEqB x y = false ↔ x ≠ y := by
  rw [← Bool.not_eq_true, cellEqB_iff]
/-- Some of the cells are those of q, the others those of p. -/
def mixC (p q : Pg) (S : Nat → Bool) : List (Bool × ByteArray) := (List.range 16).map fun s => if S s = true then q.cell s else p.cell s
def mixPg (p q : Pg) (S : Nat → Bool) : Pg := ⟨p.id, p.lsn, mixC p q S⟩
theorem mixC_len (p q : Pg) (S : Nat → Bool) : (mixC p q S).length = 16 := by simp [mixC]
theorem mix_len (p q : Pg) (S : Nat → Bool) : (mixPg p q S).cells.length = 16 := mixC_len p q S
theorem mix_cell (p q : Pg) (S : Nat → Bool) {s : Nat} (h : s < 16) : (mixPg p q S).cell s = if S s = true then q.cell s else p.cell s := by
  simp [mixPg, mixC, Pg.cell, h]
theorem mix_none {p q : Pg} (hp : p.cells.length = 16) : mixPg p q (fun _ => false) = p := by
  obtain ⟨id, lsn, l⟩ := p
  simp only [mixPg, mixC, Bool.false_eq_true, if_false, Pg.mk.injEq, true_and]
  apply List.ext_getElem?
  intro i
  simp only [Pg.cell]
  by_cases h : i < 16
  · have h2 : i < l.length := by simp only at hp; omega
    simp [h, h2]
  · have h2 : ¬ i < l.length := by simp only at hp; omega
    simp [h, h2]
theorem mix_all {p q : Pg} (hq : q.cells.length = 16) {S : Nat → Bool} (h : ∀ s, s < 16 → S s = true ∨ p.cell s = q.cell s) : (mixPg p q S).cells = q.cells := by
  apply List.ext_getElem?
  intro i
  by_cases hi : i < 16
  · have h2 : i < q.cells.length := by omega
    have h3 : (mixPg p q S).cells[i]? = some (if S i = true then q.cell i else p.cell i) := by simp [mixPg, mixC, hi]
    have h4 : q.cells[i]? = some (q.cell i) := by simp [Pg.cell, h2]
    rw [h3, h4]
    rcases h i hi with h | h
    · simp [h]
    · simp [h]
  · rw [List.getElem?_eq_none (by rw [mix_len]; omega), List.getElem?_eq_none (by omega)]
def addS (S : Nat → Bool) (t : Nat) : Nat → Bool := fun s => S s || s == t
theorem mix_set (p q : Pg) (S : Nat → Bool) (t : Nat) : (mixC p q S).set t (q.cell t) = mixC p q (addS S t) := by
  apply List.ext_getElem?
  intro i
  by_cases hi : i < 16
  · by_cases ht : i = t
    · subst ht
      simp [mixC, addS, hi]
    · have : t ≠ i := fun e => ht e.symm
      simp [mixC, addS, hi, ht, this, List.getElem?_set]
  · rw [List.getElem?_eq_none (by simp [mixC]; omega), List.getElem?_eq_none (by simp [mixC]; omega)]
/-- A change of the list is one of a cell in which the pages differ. -/
theorem diffL_mem {p q : Pg} {k : Nat} {c : Chg} (h : c ∈ diffL p q k) : ∃ s, s < k ∧ c = diffAt p q s ∧ p.cell s ≠ q.cell s := by
  unfold diffL at h
  obtain ⟨s, hs, h⟩ := List.mem_filterMap.1 h
  cases hc : cellEqB (p.cell s) (q.cell s) with
  | true => simp [hc] at h
  | false =>
    simp [hc] at h
    exact ⟨s, by simpa using hs, h.symm, cellEqB_no.1 hc⟩
theorem diffL_has {p q : Pg} {k s : Nat} (hs : s < k) (h : p.cell s ≠ q.cell s) : diffAt p q s ∈ diffL p q k := by
  unfold diffL
  refine List.mem_filterMap.2 ⟨s, by simpa using hs, ?_⟩
  simp [cellEqB_no.2 h]
def slotN (c : Chg) : Nat := c.slot.toNat
theorem slotN_at (p q : Pg) (s : Nat) : slotN (diffAt p q s) = s := by simp [slotN, diffAt]
theorem diffL_slots (p q : Pg) (k : Nat) : ((diffL p q k).map slotN).Nodup ∧ ∀ c ∈ diffL p q k, slotN c < k := by
  refine ⟨?_, fun c hc => ?_⟩
  · induction k with
    | zero => simp [diffL]
    | succ k ih =>
      cases hc : cellEqB (p.cell k) (q.cell k) with
      | true => rw [diffL_same hc]; exact ih
      | false =>
        rw [diffL_more hc, List.map_append, List.nodup_append]
        refine ⟨ih, by simp, ?_⟩
        intro a ha b hb
        simp only [List.map_cons, List.map_nil, List.mem_singleton] at hb
        rw [slotN_at] at hb
        subst hb
        obtain ⟨c, hc2, rfl⟩ := List.mem_map.1 ha
        obtain ⟨s, hs, rfl, _⟩ := diffL_mem hc2
        rw [slotN_at]
        omega
  · obtain ⟨s, hs, rfl, _⟩ := diffL_mem hc
    rw [slotN_at]
    exact hs
/-- How many of the changes are done. -/
def doneN (xs : List Chg) (S : Nat → Bool) : Nat := xs.countP fun c => S (slotN c)
theorem doneN_add : ∀ (xs : List Chg) (S : Nat → Bool) (j : Nat) (c : Chg), (xs.map slotN).Nodup → xs[j]? = some c → S (slotN c) = false → doneN xs (addS S (slotN c)) = doneN xs S + 1
  | [], _, j, c, _, h, _ => by simp at h
  | x :: xs, S, 0, c, hn, h, hs => by
    simp at h
    subst h
    simp only [List.map_cons, List.nodup_cons] at hn
    have e : doneN xs (addS S (slotN x)) = doneN xs S := by
      unfold doneN
      apply List.countP_congr
      intro y hy
      have : slotN y ≠ slotN x := fun e => hn.1 (by rw [← e]; exact List.mem_map_of_mem hy)
      simp [addS, this]
    have e1 : doneN (x :: xs) (addS S (slotN x)) = doneN xs (addS S (slotN x)) + 1 := by
      unfold doneN
      rw [List.countP_cons_of_pos (by simp [addS])]
    have e2 : doneN (x :: xs) S = doneN xs S := by
      unfold doneN
      rw [List.countP_cons_of_neg (by simp [hs])]
    omega
  | x :: xs, S, j + 1, c, hn, h, hs => by
    simp only [List.getElem?_cons_succ] at h
    simp only [List.map_cons, List.nodup_cons] at hn
    have ih := doneN_add xs S j c hn.2 h hs
    have hne : slotN x ≠ slotN c := fun e => hn.1 (by rw [e]; exact List.mem_map_of_mem (List.mem_of_getElem? h))
    have e : addS S (slotN c) (slotN x) = S (slotN x) := by simp [addS, hne]
    unfold doneN at *
    rw [List.countP_cons, List.countP_cons, ih, e]
    omega
theorem doneN_le (xs : List Chg) (S : Nat → Bool) : doneN xs S ≤ xs.length := List.countP_le_length
theorem doneN_all {xs : List Chg} {S : Nat → Bool} (h : ∀ (j : Nat) (c : Chg), xs[j]? = some c → S (slotN c) = true) : doneN xs S = xs.length := by
  unfold doneN
  rw [List.countP_eq_length]
  intro c hc
  obtain ⟨j, hj⟩ := List.mem_iff_getElem?.1 hc
  exact h j c hj
theorem doneN_full {xs : List Chg} {S : Nat → Bool} (h : doneN xs S = xs.length) : ∀ c ∈ xs, S (slotN c) = true := by
  unfold doneN at h
  rw [List.countP_eq_length] at h
  exact h
theorem doneN_none (xs : List Chg) : doneN xs (fun _ => false) = 0 := by simp [doneN]
/-- All places are met on the way round. -/
theorem round_all {n k0 : Nat} {T : Nat → Prop} (hn : 0 < n) (h : ∀ j, j < n → T ((k0 + j) % n)) : ∀ j, j < n → T j := by
  intro j hj
  have hk : k0 % n < n := Nat.mod_lt _ hn
  by_cases hc : k0 % n ≤ j
  · have := h (j - k0 % n) (by omega)
    have e : (k0 + (j - k0 % n)) % n = j := by
      rw [Nat.add_mod, Nat.mod_eq_of_lt (show j - k0 % n < n by omega), show k0 % n + (j - k0 % n) = j by omega, Nat.mod_eq_of_lt hj]
    rwa [e] at this
  · have := h (j + n - k0 % n) (by omega)
    have e : (k0 + (j + n - k0 % n)) % n = j := by
      rw [Nat.add_mod, Nat.mod_eq_of_lt (show j + n - k0 % n < n by omega), show k0 % n + (j + n - k0 % n) = j + n by omega, Nat.add_mod_right, Nat.mod_eq_of_lt hj]
    rwa [e] at this
section
variable {p q : Pg} {S : Nat → Bool} {k : Nat} {c : Chg}
theorem diff_cell_done (h : c ∈ diffL p q 16) : cellEqB ((mixPg p q S).cell (slotN c)) (c.ab, c.ad) = S (slotN c) := by
  obtain ⟨s, hs, rfl, hne⟩ := diffL_mem h
  rw [slotN_at, mix_cell p q S hs]
  cases hS : S s with
  | true => simp only [if_true]; exact cellEqB_iff.2 rfl
  | false => simp only [Bool.false_eq_true, if_false]; exact cellEqB_no.2 hne
theorem diff_apply (hid : p.id = 2) (hp : okCells p.cells) (hq : okCells q.cells) (hpl : p.cells.length = 16) (hql : q.cells.length = 16) (h : c ∈ diffL p q 16) (hS : S (slotN c) = false) : applyF (mixPg p q S) c = (mixPg p q (addS S (slotN c)), 0) := by
  obtain ⟨s, hs, rfl, hne⟩ := diffL_mem h
  rw [slotN_at] at hS ⊢
  have okp : cellOkB (p.cell s).1 (p.cell s).2 = true := by
    have hm : p.cell s ∈ p.cells := by
      have h2 : s < p.cells.length := by omega
      simp [Pg.cell, h2]
    have := hp _ hm
    exact okB_of this.1 this.2
  have okq : cellOkB (q.cell s).1 (q.cell s).2 = true := by
    have hm : q.cell s ∈ q.cells := by
      have h2 : s < q.cells.length := by omega
      simp [Pg.cell, h2]
    have := hq _ hm
    exact okB_of this.1 this.2
  have h1 : (diffAt p q s).ok = true := by
    unfold diffAt
    rw [hid]
    exact Chg.ok_of (p := 2) (by omega) hs okp okq
  have e := applyF_ok (p := mixPg p q S) (c := diffAt p q s) h1 rfl (by
    have : (diffAt p q s).slot.toNat = s := slotN_at p q s
    rw [this, mix_cell p q S hs, hS]
    rfl)
  rw [e]
  have : (diffAt p q s).slot.toNat = s := slotN_at p q s
  rw [this]
  have e2 := mix_set p q S s
  simp only [mixPg, Prod.mk.injEq, Pg.mk.injEq, true_and, and_true]
  exact e2
end
theorem diffF_ok {p q : Pg} (h1 : p.id = 2) (h2 : q.id = 2) (hp : okCells p.cells) (hq : okCells q.cells) : diffF p q = (diffL p q 16, 0) := by
  have e1 : (p.id == q.id) = true := by rw [h1, h2]; rfl
  have e2 : pagedB p.id = true := by rw [h1]; rfl
  have e3 : ∀ {r : Pg}, okCells r.cells → rightB r = true := fun {r} h => by
    unfold rightB
    rw [List.all_eq_true]
    intro x hx
    have := h x hx
    exact okB_of this.1 this.2
  unfold diffF
  rw [e1, e2, e3 hp, e3 hq]
  rfl
theorem mix_end {p q : Pg} (hq : q.cells.length = 16) {S : Nat → Bool} (h : doneN (diffL p q 16) S = (diffL p q 16).length) : (mixPg p q S).cells = q.cells := by
  refine mix_all hq fun s hs => ?_
  by_cases hc : p.cell s = q.cell s
  · exact .inr hc
  · refine .inl ?_
    have := doneN_full h _ (diffL_has hs hc)
    rwa [slotN_at] at this
theorem eqCellsB_self (l : List (Bool × ByteArray)) : eqCellsB l l = true := by
  unfold eqCellsB
  rw [List.all_eq_true]
  intro i _
  exact cellEqB_iff.2 rfl
end Go.Proofs.Ytlbhoepfcedkdaa
