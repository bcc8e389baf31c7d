/-
  The search of a cycle, as a plain function. No function of the program is named here.
-/
set_option linter.unusedVariables false
set_option linter.unusedSimpArgs false
namespace Go.Proofs.Ytnfkplohpjfocaa
/-- The neighbours of one round, one after the other. -/
def nbF (p : List Int) : List Int → List Int → List (List Int) → List Int × List (List Int)
  | [], seen, queue => (seen, queue)
  | n :: ns, seen, queue => if seen.contains n then nbF p ns seen queue else nbF p ns (seen ++ [n]) (queue ++ [p ++ [n]])
def lastI (p : List Int) : Int := p.getLast?.getD 0
def bfsF (nx : Int → List Int) (tx : Int) : Nat → List Int → List (List Int) → List Int
  | _, _, [] => []
  | 0, _, _ :: _ => []
  | k + 1, seen, p :: queue => if (nx (lastI p)).contains tx then p else bfsF nx tx k (nbF p (nx (lastI p)) seen queue).1 (nbF p (nx (lastI p)) seen queue).2
theorem nodup_len : ∀ (l m : List Int), l.Nodup → (∀ x ∈ l, x ∈ m) → l.length ≤ m.length
  | [], _, _, _ => Nat.zero_le _
  | x :: l, m, hn, hs => by
    have hx : x ∈ m := hs x (by simp)
    have h1 := nodup_len l (m.erase x) (List.nodup_cons.1 hn).2 (fun y hy => (List.mem_erase_of_ne (by rintro rfl; exact (List.nodup_cons.1 hn).1 hy)).2 (hs y (by simp [hy])))
    have h2 := List.length_erase_of_mem hx
    have h3 := List.length_pos_of_mem hx
    simp only [List.length_cons]
    omega
/-- What holds whenever at most k rounds are to come. -/
structure BfInv (U : List Int) (k : Nat) (seen : List Int) (queue : List (List Int)) : Prop where
  nodup : seen.Nodup
  sub : ∀ x ∈ seen, x ∈ U
  size : U.length - seen.length + queue.length ≤ k
  le : k ≤ U.length
  lens : ∀ p ∈ queue, 0 < p.length ∧ p.length ≤ seen.length
theorem BfInv.seenLen {U seen : List Int} {k : Nat} {queue : List (List Int)} (h : BfInv U k seen queue) : seen.length ≤ U.length := nodup_len _ _ h.nodup h.sub
theorem BfInv.queueLen {U seen : List Int} {k : Nat} {queue : List (List Int)} (h : BfInv U k seen queue) : queue.length ≤ U.length := by have := h.size; have := h.le; omega
theorem BfInv.start (U : List Int) (tx : Int) (h : tx ∈ U) : BfInv U U.length [tx] [[tx]] :=
  ⟨by simp, by simpa using h, by have := List.length_pos_of_mem h; simp; omega, Nat.le_refl _, by simp⟩
theorem BfInv.pop {U seen : List Int} {k : Nat} {p : List Int} {queue : List (List Int)} (h : BfInv U k seen (p :: queue)) : 0 < k ∧ BfInv U (k - 1) seen queue ∧ 0 < p.length ∧ p.length ≤ seen.length := by
  have h1 := h.size
  have h2 := h.le
  simp only [List.length_cons] at h1
  have h3 := h.lens p (by simp)
  exact ⟨by omega, ⟨h.nodup, h.sub, by omega, by omega, fun q hq => h.lens q (by simp [hq])⟩, h3.1, h3.2⟩
theorem BfInv.push {U seen : List Int} {k : Nat} {p : List Int} {queue : List (List Int)} {n : Int} (h : BfInv U k seen queue) (hn : n ∉ seen) (hu : n ∈ U) (hp : p.length ≤ seen.length) : BfInv U k (seen ++ [n]) (queue ++ [p ++ [n]]) := by
  have hnd : (seen ++ [n]).Nodup := by
    rw [List.nodup_append]
    exact ⟨h.nodup, by simp, fun a ha b hb => by simp at hb; subst hb; rintro rfl; exact hn ha⟩
  have hsub : ∀ x ∈ seen ++ [n], x ∈ U := fun x hx => by
    rcases List.mem_append.1 hx with hx | hx
    · exact h.sub x hx
    · simp at hx; subst hx; exact hu
  have hl := nodup_len _ _ hnd hsub
  have h1 := h.size
  simp only [List.length_append, List.length_cons, List.length_nil] at hl
  refine ⟨hnd, hsub, by simp only [List.length_append, List.length_cons, List.length_nil]; omega, h.le, fun q hq => ?_⟩
  rcases List.mem_append.1 hq with hq | hq
  · have := h.lens q hq
    simp only [List.length_append, List.length_cons, List.length_nil]
    omega
  · simp at hq
    subst hq
    simp only [List.length_append, List.length_cons, List.length_nil]
    omega
theorem nbF_seen {p : List Int} {n : Int} {ns seen : List Int} {queue : List (List Int)} (h : seen.contains n = true) : nbF p (n :: ns) seen queue = nbF p ns seen queue := by simp only [nbF, h, if_true]
theorem nbF_new {p : List Int} {n : Int} {ns seen : List Int} {queue : List (List Int)} (h : seen.contains n = false) : nbF p (n :: ns) seen queue = nbF p ns (seen ++ [n]) (queue ++ [p ++ [n]]) := by simp only [nbF, h, Bool.false_eq_true, if_false]
theorem bfsF_hit {nx : Int → List Int} {tx : Int} {k : Nat} {seen p : List Int} {queue : List (List Int)} (hk : 0 < k) (h : (nx (lastI p)).contains tx = true) : bfsF nx tx k seen (p :: queue) = p := by
  obtain ⟨m, rfl⟩ : ∃ m, k = m + 1 := ⟨k - 1, by omega⟩
  simp only [bfsF, h, if_true]
theorem bfsF_on {nx : Int → List Int} {tx : Int} {k : Nat} {seen p : List Int} {queue : List (List Int)} (hk : 0 < k) (h : (nx (lastI p)).contains tx = false) : bfsF nx tx k seen (p :: queue) = bfsF nx tx (k - 1) (nbF p (nx (lastI p)) seen queue).1 (nbF p (nx (lastI p)) seen queue).2 := by
  obtain ⟨m, rfl⟩ : ∃ m, k = m + 1 := ⟨k - 1, by omega⟩
  simp only [bfsF, h, Bool.false_eq_true, if_false, Nat.add_sub_cancel]
theorem bfsF_end {nx : Int → List Int} {tx : Int} {k : Nat} {seen : List Int} : bfsF nx tx k seen [] = [] := by cases k <;> rfl
theorem lastI_eq {p : List Int} {x : Int} (h : p[p.length - 1]? = some x) : lastI p = x := by unfold lastI; rw [List.getLast?_eq_getElem?, h]; rfl
end Go.Proofs.Ytnfkplohpjfocaa
