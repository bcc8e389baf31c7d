/-
  A verified evaluator: what abstract values and memory mean, and the laws of trees and lists that its soundness rests on. No function of the program is named here.
-/
import Derived.Test.YtmbbciidknchiaaGreatEnB
namespace Go.Proofs.YtmbbciidknchiaaGreat
section trees
variable {α : Type}
theorem N16.get_put (d : D16) (v : α) (t : N16 α) : (N16.put d v t).get d = v := by cases d <;> rfl
theorem D16.val_inj {d e : D16} (h : d.val = e.val) : d = e := by cases d <;> cases e <;> first | rfl | (exact absurd h (by decide))
theorem D16.val_lt (d : D16) : d.val < 16 := by cases d <;> decide
theorem N16.get_put_ne {d e : D16} (h : e ≠ d) (v : α) (t : N16 α) : (N16.put d v t).get e = t.get e := by
  cases d <;> (cases e <;> first | rfl | exact absurd rfl h)
theorem N16.get_rep (d : D16) (v : α) : (N16.rep v).get d = v := by cases d <;> rfl
theorem get3_put3 (t : N16 (N16 (N16 α))) (i : Bid) (v : α) : get3 (put3 t i v) i = v := by
  cases i; simp only [get3, put3, N16.get_put]
theorem get3_put3_ne {i j : Bid} (h : j ≠ i) (t : N16 (N16 (N16 α))) (v : α) : get3 (put3 t i v) j = get3 t j := by
  cases i with | mk a b c => cases j with | mk a' b' c' =>
  simp only [get3, put3]
  by_cases ha : a' = a
  · subst ha
    rw [N16.get_put]
    by_cases hb : b' = b
    · subst hb
      rw [N16.get_put]
      by_cases hc : c' = c
      · subst hc; exact absurd rfl h
      · rw [N16.get_put_ne hc]
    · rw [N16.get_put_ne hb]
  · rw [N16.get_put_ne ha]
theorem get3_rep (i : Bid) (v : α) : get3 (N16.rep (N16.rep (N16.rep v))) i = v := by cases i; simp only [get3, N16.get_rep]
end trees
theorem getF_putF (i j : D16) (v : AV) (fr : Fr) : getF i j (putF i j v fr) = some v := by simp only [getF, putF, N16.get_put]
theorem getF_putF_ne {i j i' j' : D16} (h : ¬(i' = i ∧ j' = j)) (v : AV) (fr : Fr) : getF i' j' (putF i j v fr) = getF i' j' fr := by
  simp only [getF, putF]
  by_cases hi : i' = i
  · subst hi
    rw [N16.get_put]
    by_cases hj : j' = j
    · exact absurd ⟨rfl, hj⟩ h
    · rw [N16.get_put_ne hj]
  · rw [N16.get_put_ne hi]
theorem getF_nil (i j : D16) : getF i j Fr.nil = none := by simp only [getF, Fr.nil, N16.get_rep]
/-- a temporary's number -/
def tn (i j : D16) : Nat := i.val * 16 + j.val
theorem tn_inj {i j i' j' : D16} (h : tn i j = tn i' j') : i = i' ∧ j = j' := by
  unfold tn at h
  have := D16.val_lt j
  have := D16.val_lt j'
  exact ⟨D16.val_inj (by omega), D16.val_inj (by omega)⟩
theorem D16.of_val : ∀ {n : Nat} {d : D16}, D16.of n = some d → d.val = n := by
  intro n d h
  match n, h with
  | 0, h => cases h; rfl
  | 1, h => cases h; rfl
  | 2, h => cases h; rfl
  | 3, h => cases h; rfl
  | 4, h => cases h; rfl
  | 5, h => cases h; rfl
  | 6, h => cases h; rfl
  | 7, h => cases h; rfl
  | 8, h => cases h; rfl
  | 9, h => cases h; rfl
  | 10, h => cases h; rfl
  | 11, h => cases h; rfl
  | 12, h => cases h; rfl
  | 13, h => cases h; rfl
  | 14, h => cases h; rfl
  | 15, h => cases h; rfl
  | n + 16, h => cases h
theorem tmpOf_tn {n : Nat} {i j : D16} (h : tmpOf n = some (i, j)) : tn i j = n := by
  unfold tmpOf at h
  cases h1 : D16.of (n / 16) with
  | none => rw [h1] at h; cases h
  | some a =>
    cases h2 : D16.of (n % 16) with
    | none => rw [h1, h2] at h; cases h
    | some b =>
      rw [h1, h2] at h
      cases h
      have := D16.of_val h1
      have := D16.of_val h2
      unfold tn; omega
theorem Bid.of_num {n : Nat} {i : Bid} (h : Bid.of n = some i) : i.num = n := by
  unfold Bid.of at h
  cases h1 : D16.of (n / 256) with
  | none => rw [h1] at h; cases h
  | some a =>
    cases h2 : D16.of (n / 16 % 16) with
    | none => rw [h1, h2] at h; cases h
    | some b =>
      cases h3 : D16.of (n % 16) with
      | none => rw [h1, h2, h3] at h; cases h
      | some c =>
        rw [h1, h2, h3] at h
        cases h
        have := D16.of_val h1
        have := D16.of_val h2
        have := D16.of_val h3
        unfold Bid.num; dsimp only; omega
theorem Bid.num_inj {i j : Bid} (h : i.num = j.num) : i = j := by
  cases i with | mk a b c => cases j with | mk a' b' c' =>
  unfold Bid.num at h
  dsimp only at h
  have := D16.val_lt b
  have := D16.val_lt b'
  have := D16.val_lt c
  have := D16.val_lt c'
  have h1 : a = a' := D16.val_inj (by omega)
  have h2 : b = b' := D16.val_inj (by subst h1; omega)
  have h3 : c = c' := D16.val_inj (by subst h1; subst h2; omega)
  rw [h1, h2, h3]
theorem D16.inc_some {d e : D16} (h : d.inc = some e) : e.val = d.val + 1 := by cases d <;> first | (cases h; rfl) | cases h
theorem D16.inc_none {d : D16} (h : d.inc = none) : d.val = 15 := by cases d <;> first | rfl | cases h
theorem Bid.inc_num {i j : Bid} (h : i.inc = some j) : j.num = i.num + 1 := by
  cases i with | mk a b c =>
  unfold Bid.inc at h
  dsimp only at h
  cases hc : c.inc with
  | some c' =>
    rw [hc] at h
    cases h
    have := D16.inc_some hc
    unfold Bid.num; dsimp only; omega
  | none =>
    rw [hc] at h
    have h15 := D16.inc_none hc
    unfold inc3 at h
    dsimp only at h
    cases hb : b.inc with
    | some b' =>
      rw [hb] at h
      cases h
      have := D16.inc_some hb
      have h0 : D16.x0.val = 0 := rfl
      unfold Bid.num; dsimp only; omega
    | none =>
      rw [hb] at h
      have hb15 := D16.inc_none hb
      dsimp only at h
      cases ha : a.inc with
      | some a' =>
        rw [ha] at h
        cases h
        have := D16.inc_some ha
        have h0 : D16.x0.val = 0 := rfl
        unfold Bid.num; dsimp only; omega
      | none => rw [ha] at h; cases h
theorem Hp.get_putB (h : Hp) (id : Bid) (b : Option AB) : (h.putB id b).get id = b := by cases h; simp only [Hp.get, Hp.putB, get3_put3]
theorem Hp.get_putB_ne {id j : Bid} (hj : j ≠ id) (h : Hp) (b : Option AB) : (h.putB id b).get j = h.get j := by cases h; simp only [Hp.get, Hp.putB, get3_put3_ne hj]
theorem Hp.next_putB (h : Hp) (id : Bid) (b : Option AB) : (h.putB id b).next = h.next := by cases h; rfl

section lists
variable {α : Type}
theorem ob_some {β : Type} {o : Option α} {f : α → Option β} {b : β} (h : ob o f = some b) : ∃ a, o = some a ∧ f a = some b := by
  cases o with
  | none => cases h
  | some a => exact ⟨a, rfl, h⟩
theorem bo_some {c : Bool} {o : Option α} {b : α} (h : bo c o = some b) : c = true ∧ o = some b := by
  cases c with
  | false => cases h
  | true => exact ⟨rfl, h⟩
theorem lget_eq : ∀ (n : Nat) (l : List α), lget n l = l[n]?
  | 0, [] => rfl
  | 0, _ :: _ => rfl
  | n + 1, [] => rfl
  | n + 1, x :: l => by
    show lget n l = _
    rw [lget_eq n l]; simp
theorem ltake_some : ∀ {n : Nat} {l m : List α}, ltake n l = some m → m = l.take n ∧ m.length = n
  | 0, l, m, h => by cases h; simp
  | n + 1, [], m, h => by cases h
  | n + 1, x :: l, m, h => by
    have h' : ob (ltake n l) (fun t => some (x :: t)) = some m := h
    obtain ⟨t, ht, he⟩ := ob_some h'
    obtain ⟨h1, h2⟩ := ltake_some ht
    cases he
    exact ⟨by simp [← h1], by simp [h2]⟩
theorem lsub_some {k : Nat} : ∀ {n : Nat} {l m : List α}, lsub k n l = some m → m = (l.drop n).take k ∧ m.length = k ∧ n + k ≤ l.length
  | 0, l, m, h => by
    obtain ⟨h1, h2⟩ := ltake_some (show ltake k l = some m from h)
    refine ⟨by simpa using h1, h2, ?_⟩
    have : m.length ≤ l.length := by rw [h1]; simp; omega
    omega
  | n + 1, [], m, h => by cases h
  | n + 1, x :: l, m, h => by
    obtain ⟨h1, h2, h3⟩ := lsub_some (show lsub k n l = some m from h)
    exact ⟨by simpa using h1, h2, by simp; omega⟩
theorem lover_some : ∀ {new l m : List α}, lover new l = some m → m = new ++ l.drop new.length ∧ new.length ≤ l.length
  | [], l, m, h => by cases h; simp
  | x :: new, [], m, h => by cases h
  | x :: new, y :: l, m, h => by
    have h' : ob (lover new l) (fun t => some (x :: t)) = some m := h
    obtain ⟨t, ht, he⟩ := ob_some h'
    obtain ⟨h1, h2⟩ := lover_some ht
    cases he
    exact ⟨by simp [h1], by simp; omega⟩
theorem lovers_some {new : List α} : ∀ {n : Nat} {l m : List α}, lovers new n l = some m → m = l.take n ++ new ++ l.drop (n + new.length) ∧ n + new.length ≤ l.length
  | 0, l, m, h => by
    obtain ⟨h1, h2⟩ := lover_some (show lover new l = some m from h)
    exact ⟨by simpa using h1, by omega⟩
  | n + 1, [], m, h => by cases h
  | n + 1, x :: l, m, h => by
    have h' : ob (lovers new n l) (fun t => some (x :: t)) = some m := h
    obtain ⟨t, ht, he⟩ := ob_some h'
    obtain ⟨h1, h2⟩ := lovers_some ht
    cases he
    refine ⟨?_, by simp; omega⟩
    rw [h1, show n + 1 + new.length = (n + new.length) + 1 by omega]
    simp
theorem lovers_get {new l m : List α} {n : Nat} (h : lovers new n l = some m) (o : Nat) : m[o]? = if n ≤ o ∧ o < n + new.length then new[o - n]? else l[o]? := by
  obtain ⟨h1, h2⟩ := lovers_some h
  subst h1
  have ht : (l.take n).length = n := by simp; omega
  by_cases h3 : n ≤ o ∧ o < n + new.length
  · rw [if_pos h3, List.append_assoc, List.getElem?_append_right (by omega), ht, List.getElem?_append_left (by omega)]
  · rw [if_neg h3]
    by_cases h4 : o < n
    · rw [List.append_assoc, List.getElem?_append_left (by omega), List.getElem?_take_of_lt h4]
    · rw [List.append_assoc, List.getElem?_append_right (by omega), ht, List.getElem?_append_right (by omega), List.getElem?_drop]
      congr 1; omega
theorem lovers_length {new l m : List α} {n : Nat} (h : lovers new n l = some m) : m.length = l.length := by
  obtain ⟨h1, h2⟩ := lovers_some h
  subst h1; simp; omega
end lists
inductive All2 {α β : Type} (R : α → β → Prop) : List α → List β → Prop where
  | nil : All2 R [] []
  | cons {x : α} {y : β} {l : List α} {m : List β} (h : R x y) (t : All2 R l m) : All2 R (x :: l) (y :: m)
namespace All2
variable {α β : Type} {R S : α → β → Prop}
theorem length {l : List α} {m : List β} (h : All2 R l m) : l.length = m.length := by
  induction h with
  | nil => rfl
  | cons _ _ ih => simp [ih]
theorem mono (hr : ∀ x y, R x y → S x y) {l : List α} {m : List β} (h : All2 R l m) : All2 S l m := by
  induction h with
  | nil => exact .nil
  | cons h _ ih => exact .cons (hr _ _ h) ih
theorem get {l : List α} {m : List β} (h : All2 R l m) {i : Nat} {x : α} (hx : l[i]? = some x) : ∃ y, m[i]? = some y ∧ R x y := by
  induction h generalizing i with
  | nil => simp at hx
  | cons h t ih =>
    cases i with
    | zero => simp at hx; subst hx; exact ⟨_, rfl, h⟩
    | succ i => simpa using ih (by simpa using hx)
theorem append {l l' : List α} {m m' : List β} (h : All2 R l m) (h' : All2 R l' m') : All2 R (l ++ l') (m ++ m') := by
  induction h with
  | nil => exact h'
  | cons h t ih => exact .cons h ih
theorem drop {l : List α} {m : List β} (h : All2 R l m) (n : Nat) : All2 R (l.drop n) (m.drop n) := by
  induction h generalizing n with
  | nil => simp; exact .nil
  | cons h t ih =>
    cases n with
    | zero => exact .cons h t
    | succ n => simpa using ih n
theorem take {l : List α} {m : List β} (h : All2 R l m) (n : Nat) : All2 R (l.take n) (m.take n) := by
  induction h generalizing n with
  | nil => simp; exact .nil
  | cons h t ih =>
    cases n with
    | zero => simp; exact .nil
    | succ n => simpa using .cons h (ih n)
theorem of_get {l : List α} {m : List β} (hl : l.length = m.length) (h : ∀ (i : Nat) x y, l[i]? = some x → m[i]? = some y → R x y) : All2 R l m := by
  induction l generalizing m with
  | nil => cases m with
    | nil => exact .nil
    | cons y m => simp at hl
  | cons x l ih => cases m with
    | nil => simp at hl
    | cons y m => exact .cons (h 0 x y rfl rfl) (ih (by simpa using hl) fun i a b ha hb => h (i + 1) a b (by simpa using ha) (by simpa using hb))
end All2
end Go.Proofs.YtmbbciidknchiaaGreat
