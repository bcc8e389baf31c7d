/-
  The search of a cycle, as a plain function. No function of the program is named here.
-/
set_option linter.unusedVariables false
set_option linter.unusedSimpArgs false
namespace Go.Proofs.YtnfkplohpjfocaaGreat
/-- The neighbours of one round, one after the other. -/
def nbF (p : List Int) : List Int → List Int → List (List Int) → List Int × List (List Int)
  | [], seen, queue => (seen, queue)
  | n :: ns, seen, queue => if seen.contains n then nbF p ns seen queue else nbF p ns (seen ++ [n]) (queue ++ [p ++ [n]])
def lastI (p : List Int) : Int := p.getLast?.getD 0
def bfsF (nx : Int → List Int) (tx : Int) : Nat → List Int → List (List Int) → List Int
  | _, _, [] => []
  | 0, _, _ :: _ => []
  | k + 1, seen, p :: queue => if (nx (lastI p)).contains tx then p else bfsF nx tx k (nbF p (nx (lastI p)) seen queue).1 (nbF p (nx (lastI p)) seen queue).2
theorem nodup_len : ∀ (l m : List Int), l.Nodup → (∀ x ∈ l, x ∈ m) → l.length ≤ m.length
  | [], _, _, _ => Nat.zero_le _
  | x :: l, m, hn, hs => by
    have hx : x ∈ m := hs x (by simp)
    have h1 := nodup_len l (m.erase x) (List.nodup_cons.1 hn).2 (fun y hy => (List.mem_erase_of_ne (by rintro rfl; exact (List.nodup_cons.1 hn).1 hy)).2 (hs y (by simp [hy])))
    have h2 := List.length_erase_of_mem hx
    have h3 := List.length_pos_of_mem hx
    simp only [List.length_cons]
    omega
/-- What holds whenever at most k rounds are to come. -/
structure BfInv (U : List Int) (k : Nat) (seen : List Int) (queue : List (List Int)) : Prop where
  nodup : seen.Nodup
  sub : ∀ x ∈ seen, x ∈ U
  size : U.length - seen.length + queue.length ≤ k
  le : k ≤ U.length
  lens : ∀ p ∈ queue, 0 < p.length ∧ p.length ≤ seen.length
theorem BfInv.seenLen {U seen : List Int} {k : Nat} {queue : List (List Int)} (h : BfInv U k seen queue) : seen.length ≤ U.length := nodup_len _ _ h.nodup h.sub
theorem BfInv.queueLen {U seen : List Int} {k : Nat} {queue : List (List Int)} (h : BfInv U k seen queue) : queue.length ≤ U.length := by have := h.size; have := h.le; omega
theorem BfInv.start (U : List Int) (tx : Int) (h : tx ∈ U) : BfInv U U.length [tx] [[tx]] :=
  ⟨by simp, by simpa using h, by have := List.length_pos_of_mem h; simp; omega, Nat.le_refl _, by simp⟩
theorem BfInv.pop {U seen : List Int} {k : Nat} {p : List Int} {queue : List (List Int)} (h : BfInv U k seen (p :: queue)) : 0 < k ∧ BfInv U (k - 1) seen queue ∧ 0 < p.length ∧ p.length ≤ seen.length := by
  have h1 := h.size
  have h2 := h.le
  simp only [List.length_cons] at h1
  have h3 := h.lens p (by simp)
  exact ⟨by omega, ⟨h.nodup, h.sub, by omega, by omega, fun q hq => h.lens q (by simp [hq])⟩, h3.1, h3.2⟩
theorem BfInv.push {U seen : List Int} {k : Nat} {p : List Int} {queue : List (List Int)} {n : Int} (h : BfInv U k seen queue) (hn : n ∉ seen) (hu : n ∈ U) (hp : p.length ≤ seen.length) : BfInv U k (seen ++ [n]) (queue ++ [p ++ [n]]) := by
  have hnd : (seen ++ [n]).Nodup := by
    rw [List.nodup_append]
    exact ⟨h.nodup, by simp, fun a ha b hb => by simp at hb; subst hb; rintro rfl; exact hn ha⟩
  have hsub : ∀ x ∈ seen ++ [n], x ∈ U := fun x hx => by
    rcases List.mem_append.1 hx with hx | hx
    · exact h.sub x hx
    · simp at hx; subst hx; exact hu
  have hl := nodup_len _ _ hnd hsub
  have h1 := h.size
  simp only [List.length_append, List.length_cons, List.length_nil] at hl
  refine ⟨hnd, hsub, by simp only [List.length_append, List.length_cons, List.length_nil]; omega, h.le, fun q hq => ?_⟩
  rcases List.mem_append.1 hq with hq | hq
  · have := h.lens q hq
    simp only [List.length_append, List.length_cons, List.length_nil]
    omega
  · simp at hq
    subst hq
    simp only [List.length_append, List.length_cons, List.length_nil]
    omega
theorem nbF_seen {p : List Int} {n : Int} {ns seen : List Int} {queue : List (List Int)} (h : seen.contains n = true) : nbF p (n :: ns) seen queue = nbF p ns seen queue := by simp only [nbF, h, if_true]
theorem nbF_new {p : List Int} {n : Int} {ns seen : List Int} {queue : List (List Int)} (h : seen.contains n = false) : nbF p (n :: ns) seen queue = nbF p ns (seen ++ [n]) (queue ++ [p ++ [n]]) := by simp only [nbF, h, Bool.false_eq_true, if_false]
theorem bfsF_hit {nx : Int → List Int} {tx : Int} {k : Nat} {seen p : List Int} {queue : List (List Int)} (hk : 0 < k) (h : (nx (lastI p)).contains tx = true) : bfsF nx tx k seen (p :: queue) = p := by
  obtain ⟨m, rfl⟩ : ∃ m, k = m + 1 := ⟨k - 1, by omega⟩
  simp only [bfsF, h, if_true]
theorem bfsF_on {nx : Int → List Int} {tx : Int} {k : Nat} {seen p : List Int} {queue : List (List Int)} (hk : 0 < k) (h : (nx (lastI p)).contains tx = false) : bfsF nx tx k seen (p :: queue) = bfsF nx tx (k - 1) (nbF p (nx (lastI p)) seen queue).1 (nbF p (nx (lastI p)) seen queue).2 := by
  obtain ⟨m, rfl⟩ : ∃ m, k = m + 1 := ⟨k - 1, by omega⟩
  simp only [bfsF, h, Bool.false_eq_true, if_false, Nat.add_sub_cancel]
theorem bfsF_end {nx : Int → List Int} {tx : Int} {k : Nat} {seen : List Int} : bfsF nx tx k seen [] = [] := by cases k <;> rfl
theorem lastI_eq {p : List Int} {x : Int} (h : p[p.length - 1]? = some x) : lastI p = x := by unfold lastI; rw [List.getLast?_eq_getElem?, h]; rfl
end Go.Proofs.YtnfkplohpjfocaaGreat

namespace Go.Proofs.YtnfkplohpjfocaaGreat.Xc
def lexB : List Int → List Int → Prop
  | x :: xs, y :: ys => x < y ∨ (x = y ∧ lexB xs ys)
  | _, _ => False
theorem lexB_irr : ∀ p : List Int, ¬ lexB p p
  | [] => fun h => h
  | x :: xs => fun h => by rcases h with h | ⟨_, h⟩; · omega
                           · exact lexB_irr xs h
theorem lexB_trans : ∀ {p q r : List Int}, lexB p q → lexB q r → lexB p r
  | x :: xs, y :: ys, z :: zs, h, k => by
    rcases h with h | ⟨rfl, h⟩ <;> rcases k with k | ⟨rfl, k⟩
    · exact .inl (by omega)
    · exact .inl h
    · exact .inl k
    · exact .inr ⟨rfl, lexB_trans h k⟩
  | [], _, _, h, _ => h.elim
  | _ :: _, [], _, h, _ => h.elim
  | _ :: _, _ :: _, [], _, k => k.elim
theorem lexB_total : ∀ {p q : List Int}, p.length = q.length → p ≠ q → lexB p q ∨ lexB q p
  | [], [], _, h => absurd rfl h
  | [], _ :: _, h, _ => by simp at h
  | _ :: _, [], h, _ => by simp at h
  | x :: xs, y :: ys, h, hn => by
    rcases Int.lt_trichotomy x y with e | rfl | e
    · exact .inl (.inl e)
    · rcases lexB_total (p := xs) (q := ys) (by simpa using h) (fun e => hn (by rw [e])) with k | k
      · exact .inl (.inr ⟨rfl, k⟩)
      · exact .inr (.inr ⟨rfl, k⟩)
    · exact .inr (.inl e)
theorem lexB_app : ∀ {p q : List Int} (a b : List Int), lexB p q → lexB (p ++ a) (q ++ b)
  | x :: xs, y :: ys, a, b, h => by
    rcases h with h | ⟨rfl, h⟩
    · exact .inl h
    · exact .inr ⟨rfl, lexB_app a b h⟩
  | [], _, _, _, h => h.elim
  | _ :: _, [], _, _, h => h.elim
theorem lexB_pre : ∀ (p : List Int) {a b : List Int}, lexB a b → lexB (p ++ a) (p ++ b)
  | [], _, _, h => h
  | x :: xs, _, _, h => .inr ⟨rfl, lexB_pre xs h⟩
def pLt (p q : List Int) : Prop := p.length < q.length ∨ (p.length = q.length ∧ lexB p q)
def pLe (p q : List Int) : Prop := p = q ∨ pLt p q
theorem pLt_trans {p q r : List Int} (h : pLt p q) (k : pLt q r) : pLt p r := by
  rcases h with h | ⟨h, h'⟩ <;> rcases k with k | ⟨k, k'⟩
  · exact .inl (by omega)
  · exact .inl (by omega)
  · exact .inl (by omega)
  · exact .inr ⟨by omega, lexB_trans h' k'⟩
theorem pLt_irr (p : List Int) : ¬ pLt p p := fun h => by
  rcases h with h | ⟨_, h⟩
  · omega
  · exact lexB_irr p h
theorem pLe_trans {p q r : List Int} (h : pLe p q) (k : pLe q r) : pLe p r := by
  rcases h with rfl | h
  · exact k
  · rcases k with rfl | k
    · exact .inr h
    · exact .inr (pLt_trans h k)
theorem pLe_anti {p q : List Int} (h : pLe p q) (k : pLe q p) : p = q := by
  rcases h with rfl | h
  · rfl
  · rcases k with rfl | k
    · rfl
    · exact absurd (pLt_trans h k) (pLt_irr p)
theorem pLe_len {p q : List Int} (h : pLe p q) : p.length ≤ q.length := by
  rcases h with rfl | h | ⟨h, _⟩ <;> omega
theorem pLe_snoc {p q : List Int} (v : Int) (h : pLe p q) : pLe (p ++ [v]) (q ++ [v]) := by
  rcases h with rfl | h | ⟨h, k⟩
  · exact .inl rfl
  · exact .inr (.inl (by simp; omega))
  · exact .inr (.inr ⟨by simp [h], lexB_app _ _ k⟩)
theorem lastI_one (x : Int) : lastI [x] = x := rfl
theorem lastI_snoc (p : List Int) (n : Int) : lastI (p ++ [n]) = n := by unfold lastI; simp
theorem snoc_of {r : List Int} (h : r ≠ []) : r = r.dropLast ++ [lastI r] := by
  unfold lastI
  rw [List.getLast?_eq_some_getLast h]
  exact (List.dropLast_concat_getLast h).symm
section
variable (nx : Int → List Int) (tx : Int)
/-- a way from tx -/
inductive Way : List Int → Prop
  | one : Way [tx]
  | snoc {p : List Int} {v : Int} (h : Way p) (hv : v ∈ nx (lastI p)) : Way (p ++ [v])
def Closed (p : List Int) : Prop := Way nx tx p ∧ tx ∈ nx (lastI p)
end
section
variable {nx : Int → List Int} {tx : Int}
theorem Way.ne {p : List Int} (h : Way nx tx p) : p ≠ [] := by cases h <;> simp
theorem Way.out {p : List Int} (h : Way nx tx p) : ∀ x ∈ p, x = lastI p ∨ ∃ b, b ∈ nx x := by
  induction h with
  | one => intro x hx; simp at hx; exact .inl hx
  | @snoc p v _ hv ih =>
    intro x hx
    rcases List.mem_append.1 hx with hx | hx
    · rcases ih x hx with rfl | h
      · exact .inr ⟨v, hv⟩
      · exact .inr h
    · simp at hx; subst hx; exact .inl (lastI_snoc p _).symm
theorem Closed.out {p : List Int} (h : Closed nx tx p) : ∀ x ∈ p, ∃ b, b ∈ nx x := fun x hx => by
  rcases h.1.out x hx with rfl | h2
  · exact ⟨tx, h.2⟩
  · exact h2
/-- p is the least way to where it ends -/
def Best (nx : Int → List Int) (tx : Int) (p : List Int) : Prop := Way nx tx p ∧ ∀ q, Way nx tx q → lastI q = lastI p → pLe p q
/-- the search behind the way p0: what it holds -/
structure SI (nx : Int → List Int) (tx : Int) (p0 : List Int) (act : Int → Prop) (top : Int → Prop) (seen : List Int) (queue : List (List Int)) : Prop where
  srt : queue.Pairwise pLt
  abv : ∀ r ∈ queue, pLt p0 r ∧ r.length ≤ p0.length + 1 ∧ (r.length = p0.length + 1 → lexB r.dropLast p0 ∨ (r.dropLast = p0 ∧ top (lastI r)))
  best : ∀ r ∈ queue, Best nx tx r ∧ r.Nodup ∧ ∀ x ∈ r, x ∈ seen
  proc : ∀ v ∈ seen, act v ∨ (∃ r ∈ queue, lastI r = v) ∨ (tx ∉ nx v ∧ ∀ b ∈ nx v, b ∈ seen)
  mem : tx ∈ seen
theorem SI.weak {p0 : List Int} {act act' top top' : Int → Prop} {seen : List Int} {queue : List (List Int)} (h : SI nx tx p0 act top seen queue) (ha : ∀ v, act v → act' v) (ht : ∀ v, top v → top' v) : SI nx tx p0 act' top' seen queue :=
  ⟨h.srt, fun r hr => ⟨(h.abv r hr).1, (h.abv r hr).2.1, fun e => ((h.abv r hr).2.2 e).imp id fun ⟨a, b⟩ => ⟨a, ht _ b⟩⟩, h.best, fun v hv => (h.proc v hv).imp (ha v) id, h.mem⟩
/-- a way to what is not seen is longer than the way that is at work, and its beginning is not less -/
theorem SI.far {p : List Int} {top : Int → Prop} {seen : List Int} {queue : List (List Int)} (h : SI nx tx p (· = lastI p) top seen queue) (hp : Best nx tx p) {q : List Int} (w : Way nx tx q) : lastI q ∉ seen → ∃ q' v, q = q' ++ [v] ∧ pLe p q' := by
  induction w with
  | one => intro hn; exact absurd h.mem hn
  | @snoc q v w hv ih =>
    intro hn
    rw [lastI_snoc] at hn
    refine ⟨q, v, rfl, ?_⟩
    by_cases hs : lastI q ∈ seen
    · rcases h.proc _ hs with e | ⟨r, hr, e⟩ | ⟨_, k⟩
      · exact hp.2 q w e
      · exact pLe_trans (.inr (h.abv r hr).1) ((h.best r hr).1.2 q w e.symm)
      · exact absurd (k v hv) hn
    · obtain ⟨q', u, rfl, hle⟩ := ih hs
      exact .inr (.inl (by have := pLe_len hle; simp; omega))
theorem SI.nb {p : List Int} (hp : Best nx tx p) (hpn : p.Nodup) : ∀ (ns seen : List Int) (queue : List (List Int)), ns.Pairwise (· < ·) → (∀ n ∈ ns, n ∈ nx (lastI p)) → (∀ x ∈ p, x ∈ seen) → SI nx tx p (· = lastI p) (fun v => ∀ n ∈ ns, v < n) seen queue →
    SI nx tx p (· = lastI p) (fun _ => True) (nbF p ns seen queue).1 (nbF p ns seen queue).2 ∧ (∀ n ∈ ns, n ∈ (nbF p ns seen queue).1) ∧ (∀ n ∈ seen, n ∈ (nbF p ns seen queue).1)
  | [], seen, queue, _, _, _, h => ⟨h.weak (fun _ e => e) (fun _ _ => trivial), by simp, fun _ hn => hn⟩
  | n :: ns, seen, queue, hs, hns, hps, h => by
    obtain ⟨hs1, hs2⟩ := List.pairwise_cons.1 hs
    cases hc : seen.contains n with
    | true =>
      have e : nbF p (n :: ns) seen queue = nbF p ns seen queue := by simp only [nbF, hc, if_true]
      rw [e]
      obtain ⟨h1, h2, h3⟩ := SI.nb hp hpn ns seen queue hs2 (fun m hm => hns m (by simp [hm])) hps (h.weak (fun _ e => e) fun v hv m hm => hv m (by simp [hm]))
      refine ⟨h1, fun m hm => ?_, h3⟩
      rcases List.mem_cons.1 hm with rfl | hm
      · exact h3 _ (by simpa using hc)
      · exact h2 m hm
    | false =>
      have e : nbF p (n :: ns) seen queue = nbF p ns (seen ++ [n]) (queue ++ [p ++ [n]]) := by simp only [nbF, hc, Bool.false_eq_true, if_false]
      rw [e]
      have hn : n ∉ seen := by simpa using hc
      have hnx : n ∈ nx (lastI p) := hns n (by simp)
      have step : SI nx tx p (· = lastI p) (fun v => ∀ m ∈ ns, v < m) (seen ++ [n]) (queue ++ [p ++ [n]]) := by
        refine ⟨?_, fun r hr => ?_, fun r hr => ?_, fun v hv => ?_, by simp [h.mem]⟩
        · rw [List.pairwise_append]
          refine ⟨h.srt, by simp, fun r hr s hs => ?_⟩
          simp at hs; subst hs
          obtain ⟨k1, k2, k3⟩ := h.abv r hr
          by_cases e : r.length = p.length + 1
          · have hne : r ≠ [] := fun e2 => by rw [e2] at e; simp at e
            refine .inr ⟨by simp [e], ?_⟩
            rcases k3 e with k | ⟨k, kt⟩
            · rw [snoc_of hne]; exact lexB_app _ _ k
            · rw [snoc_of hne, k]; exact lexB_pre p (.inl (kt n (by simp)))
          · exact .inl (by simp; omega)
        · rcases List.mem_append.1 hr with hr | hr
          · obtain ⟨k1, k2, k3⟩ := h.abv r hr
            exact ⟨k1, k2, fun e => (k3 e).imp id fun ⟨a, b⟩ => ⟨a, fun m hm => b m (by simp [hm])⟩⟩
          · simp at hr; subst hr
            exact ⟨.inl (by simp), by simp, fun _ => .inr ⟨by simp, by rw [lastI_snoc]; exact hs1⟩⟩
        · rcases List.mem_append.1 hr with hr | hr
          · exact ⟨(h.best r hr).1, (h.best r hr).2.1, fun x hx => by simp [(h.best r hr).2.2 x hx]⟩
          · simp at hr; subst hr
            refine ⟨⟨.snoc hp.1 hnx, fun q w hq => ?_⟩, ?_, fun x hx => ?_⟩
            · rw [lastI_snoc] at hq
              obtain ⟨q', v, rfl, hle⟩ := h.far hp w (by rw [hq]; exact hn)
              rw [lastI_snoc] at hq
              rw [hq]
              exact pLe_snoc n hle
            · rw [List.nodup_append]
              exact ⟨hpn, by simp, fun a ha b hb => by simp at hb; subst hb; rintro rfl; exact hn (hps _ ha)⟩
            · rcases List.mem_append.1 hx with hx | hx
              · simp [hps x hx]
              · simp at hx; simp [hx]
        · rcases List.mem_append.1 hv with hv | hv
          · rcases h.proc v hv with k | ⟨r, hr, k⟩ | ⟨k1, k2⟩
            · exact .inl k
            · exact .inr (.inl ⟨r, by simp [hr], k⟩)
            · exact .inr (.inr ⟨k1, fun b hb => by simp [k2 b hb]⟩)
          · simp at hv; subst hv
            exact .inr (.inl ⟨p ++ [v], by simp, lastI_snoc p v⟩)
      obtain ⟨h1, h2, h3⟩ := SI.nb hp hpn ns (seen ++ [n]) (queue ++ [p ++ [n]]) hs2 (fun m hm => hns m (by simp [hm])) (fun x hx => by simp [hps x hx]) step
      refine ⟨h1, fun m hm => ?_, fun m hm => h3 m (by simp [hm])⟩
      rcases List.mem_cons.1 hm with rfl | hm
      · exact h3 _ (by simp)
      · exact h2 m hm
/-- what is not done yet is behind the head of the queue -/
theorem SI.head {p0 p : List Int} {top : Int → Prop} {seen : List Int} {queue : List (List Int)} (h : SI nx tx p0 (fun _ => False) top seen (p :: queue)) {q : List Int} (w : Way nx tx q) : (lastI q ∉ seen ∨ ∃ r ∈ p :: queue, lastI r = lastI q) → pLe p q := by
  have hd : ∀ r ∈ p :: queue, pLe p r := fun r hr => by
    rcases List.mem_cons.1 hr with rfl | hr
    · exact .inl rfl
    · exact .inr ((List.pairwise_cons.1 h.srt).1 r hr)
  induction w with
  | one =>
    rintro (k | ⟨r, hr, e⟩)
    · exact absurd h.mem k
    · exact pLe_trans (hd r hr) ((h.best r hr).1.2 _ .one e.symm)
  | @snoc q v w hv ih =>
    rintro (k | ⟨r, hr, e⟩)
    · rw [lastI_snoc] at k
      have hle : pLe p q := by
        apply ih
        by_cases hs : lastI q ∈ seen
        · rcases h.proc _ hs with e | e | ⟨_, e⟩
          · exact e.elim
          · exact .inr e
          · exact absurd (e v hv) k
        · exact .inl hs
      exact .inr (.inl (by have := pLe_len hle; simp; omega))
    · exact pLe_trans (hd r hr) ((h.best r hr).1.2 _ (.snoc w hv) e.symm)
theorem SI.none {p0 : List Int} {top : Int → Prop} {seen : List Int} (h : SI nx tx p0 (fun _ => False) top seen []) {q : List Int} (w : Way nx tx q) : lastI q ∈ seen ∧ tx ∉ nx (lastI q) := by
  have pr : ∀ v ∈ seen, tx ∉ nx v ∧ ∀ b ∈ nx v, b ∈ seen := fun v hv => by
    rcases h.proc v hv with e | ⟨r, hr, _⟩ | e
    · exact e.elim
    · cases hr
    · exact e
  have : lastI q ∈ seen := by
    induction w with
    | one => exact h.mem
    | snoc w hv ih => rw [lastI_snoc]; exact (pr _ ih).2 _ hv
  exact ⟨this, (pr _ this).1⟩
structure Least (nx : Int → List Int) (tx : Int) (p : List Int) : Prop where
  closed : Closed nx tx p
  nodup : p.Nodup
  le : ∀ q, Closed nx tx q → pLe p q
theorem bfs_least {U : List Int} (hU : ∀ a, ∀ b ∈ nx a, b ∈ U) (hS : ∀ a, (nx a).Pairwise (· < ·)) : ∀ (k : Nat) (p0 seen : List Int) (queue : List (List Int)), BfInv U k seen queue → SI nx tx p0 (fun _ => False) (fun _ => True) seen queue →
    (bfsF nx tx k seen queue = [] ∧ ∀ q, ¬ Closed nx tx q) ∨ Least nx tx (bfsF nx tx k seen queue)
  | k, p0, seen, [], hb, h => by
    have e : bfsF nx tx k seen [] = [] := by cases k <;> rfl
    exact .inl ⟨e, fun q c => (h.none c.1).2 c.2⟩
  | 0, p0, seen, p :: queue, hb, h => by
    obtain ⟨h0, _⟩ := hb.pop
    omega
  | k + 1, p0, seen, p :: queue, hb, h => by
    obtain ⟨hp, hpn, hps⟩ := h.best p (by simp)
    cases hc : (nx (lastI p)).contains tx with
    | true =>
      have e : bfsF nx tx (k + 1) seen (p :: queue) = p := by simp only [bfsF, hc, if_true]
      rw [e]
      refine .inr ⟨⟨hp.1, by simpa using hc⟩, hpn, fun q c => h.head c.1 ?_⟩
      by_cases hs : lastI q ∈ seen
      · rcases h.proc _ hs with e | e | ⟨e, _⟩
        · exact e.elim
        · exact .inr e
        · exact absurd c.2 e
      · exact .inl hs
    | false =>
      have e : bfsF nx tx (k + 1) seen (p :: queue) = bfsF nx tx k (nbF p (nx (lastI p)) seen queue).1 (nbF p (nx (lastI p)) seen queue).2 := by simp only [bfsF, hc, Bool.false_eq_true, if_false]
      rw [e]
      have start : SI nx tx p (· = lastI p) (fun v => ∀ n ∈ nx (lastI p), v < n) seen queue := by
        obtain ⟨hs1, hs2⟩ := List.pairwise_cons.1 h.srt
        obtain ⟨a1, a2, a3⟩ := h.abv p (by simp)
        refine ⟨hs2, fun r hr => ⟨hs1 r hr, ?_, fun el => .inl ?_⟩, fun r hr => h.best r (by simp [hr]), fun v hv => ?_, h.mem⟩
        · obtain ⟨b1, b2, b3⟩ := h.abv r (by simp [hr])
          have : p0.length ≤ p.length := pLe_len (.inr a1)
          omega
        · obtain ⟨b1, b2, b3⟩ := h.abv r (by simp [hr])
          have hl : p0.length ≤ p.length := pLe_len (.inr a1)
          have e1 : p.length = p0.length := by omega
          have hlex : lexB p0 p := by
            rcases a1 with a1 | ⟨_, a1⟩
            · omega
            · exact a1
          rcases b3 (by omega) with b | ⟨b, _⟩
          · exact lexB_trans b hlex
          · rw [b]; exact hlex
        · rcases h.proc v hv with k | ⟨r, hr, k⟩ | k
          · exact k.elim
          · rcases List.mem_cons.1 hr with rfl | hr
            · exact .inl k.symm
            · exact .inr (.inl ⟨r, hr, k⟩)
          · exact .inr (.inr k)
      obtain ⟨h1, h2, h3⟩ := SI.nb hp hpn (nx (lastI p)) seen queue (hS _) (fun n hn => hn) hps start
      have hseen : lastI p ∈ seen := hps _ (by
        have hne := hp.1.ne
        rw [snoc_of hne]
        rw [lastI_snoc]
        simp)
      have fin : SI nx tx p (fun _ => False) (fun _ => True) (nbF p (nx (lastI p)) seen queue).1 (nbF p (nx (lastI p)) seen queue).2 := ⟨h1.srt, h1.abv, h1.best, fun v hv => by
        rcases h1.proc v hv with rfl | k | k
        · exact .inr (.inr ⟨by simpa using hc, h2⟩)
        · exact .inr (.inl k)
        · exact .inr (.inr k), h1.mem⟩
      obtain ⟨_, hb2, hb3, hb4⟩ := hb.pop
      have hb5 : BfInv U k (nbF p (nx (lastI p)) seen queue).1 (nbF p (nx (lastI p)) seen queue).2 := by
        have : ∀ (ns seen : List Int) (queue : List (List Int)), (∀ n ∈ ns, n ∈ U) → BfInv U k seen queue → p.length ≤ seen.length → BfInv U k (nbF p ns seen queue).1 (nbF p ns seen queue).2 := by
          intro ns
          induction ns with
          | nil => intro s q _ h _; exact h
          | cons n ns ih =>
            intro s q hn h hl
            cases hc : s.contains n with
            | true =>
              have e : nbF p (n :: ns) s q = nbF p ns s q := by simp only [nbF, hc, if_true]
              rw [e]; exact ih s q (fun m hm => hn m (by simp [hm])) h hl
            | false =>
              have e : nbF p (n :: ns) s q = nbF p ns (s ++ [n]) (q ++ [p ++ [n]]) := by simp only [nbF, hc, Bool.false_eq_true, if_false]
              rw [e]; exact ih _ _ (fun m hm => hn m (by simp [hm])) (h.push (by simpa using hc) (hn n (by simp)) hl) (by simp; omega)
        exact this _ _ _ (fun n hn => hU _ _ hn) (by simpa using hb2) (by simpa using hb4)
      exact bfs_least hU hS k p _ _ hb5 fin
end
def tryF (f : List Int → List Int) (way : List Int) : List Int → List Int
  | [] => []
  | x :: xs => if way.contains x then tryF f way xs else if (f (way ++ [x])).isEmpty then tryF f way xs else f (way ++ [x])
def closF (nx : Int → List Int) (tx : Int) : Nat → List Int → List Int
  | 0, way => if (nx (lastI way)).contains tx then way else []
  | k + 1, way => tryF (closF nx tx k) way (nx (lastI way))
def cycL (nx : Int → List Int) (tx : Int) : List Nat → List Int
  | [] => []
  | n :: ns => if (closF nx tx n [tx]).isEmpty then cycL nx tx ns else closF nx tx n [tx]
section
variable {nx : Int → List Int} {tx : Int}
theorem way_last {r : List Int} (w : Way nx tx r) : ∀ p x, r = p ++ [x] → p ≠ [] → Way nx tx p ∧ x ∈ nx (lastI p) := by
  intro p x e hp
  cases w with
  | one =>
    have := congrArg List.length e
    simp at this
    exact absurd this hp
  | @snoc q v w hv =>
    obtain ⟨rfl, e2⟩ := List.append_inj' e rfl
    simp at e2; subst e2
    exact ⟨w, hv⟩
theorem way_pre : ∀ (n : Nat) (p q : List Int), q.length = n → Way nx tx (p ++ q) → p ≠ [] → Way nx tx p
  | 0, p, q, h, w, _ => by
    have : q = [] := List.eq_nil_of_length_eq_zero h
    subst this; simpa using w
  | n + 1, p, q, h, w, hp => by
    have hq : q ≠ [] := fun e => by rw [e] at h; simp at h
    have e := snoc_of hq
    have w2 : Way nx tx ((p ++ q.dropLast) ++ [lastI q]) := by rw [List.append_assoc, ← e]; exact w
    exact way_pre n p q.dropLast (by rw [List.length_dropLast]; omega) (way_last w2 _ _ rfl (by simp [hp])).1 hp
theorem way_step {p e : List Int} {x : Int} (w : Way nx tx (p ++ x :: e)) (hp : p ≠ []) : Way nx tx (p ++ [x]) ∧ x ∈ nx (lastI p) := by
  have w2 : Way nx tx ((p ++ [x]) ++ e) := by simpa using w
  have w3 := way_pre e.length (p ++ [x]) e rfl w2 (by simp)
  exact ⟨w3, (way_last w3 p x rfl hp).2⟩
/-- what a search of given depth finds -/
def Finds (nx : Int → List Int) (tx : Int) (k : Nat) (way out : List Int) : Prop :=
  (out = [] ∧ ∀ e, e.length = k → ¬ (Closed nx tx (way ++ e) ∧ (way ++ e).Nodup)) ∨
  ∃ e, out = way ++ e ∧ e.length = k ∧ Closed nx tx (way ++ e) ∧ (way ++ e).Nodup ∧ ∀ e', e'.length = k → Closed nx tx (way ++ e') → (way ++ e').Nodup → e = e' ∨ lexB e e'
theorem try_finds {k : Nat} {way : List Int} {f : List Int → List Int} (hw : way ≠ []) (hf : ∀ x, x ∈ nx (lastI way) → x ∉ way → Finds nx tx k (way ++ [x]) (f (way ++ [x]))) : ∀ ns : List Int, ns.Pairwise (· < ·) → (∀ n ∈ ns, n ∈ nx (lastI way)) →
    (tryF f way ns = [] ∧ ∀ x ∈ ns, ∀ e, e.length = k → ¬ (Closed nx tx (way ++ x :: e) ∧ (way ++ x :: e).Nodup)) ∨
    ∃ x e, x ∈ ns ∧ tryF f way ns = way ++ x :: e ∧ e.length = k ∧ Closed nx tx (way ++ x :: e) ∧ (way ++ x :: e).Nodup ∧ ∀ x' ∈ ns, ∀ e', e'.length = k → Closed nx tx (way ++ x' :: e') → (way ++ x' :: e').Nodup → x :: e = x' :: e' ∨ lexB (x :: e) (x' :: e')
  | [], _, _ => .inl ⟨rfl, by simp⟩
  | x :: ns, hs, hn => by
    obtain ⟨hs1, hs2⟩ := List.pairwise_cons.1 hs
    have ih := try_finds hw hf ns hs2 (fun m hm => hn m (by simp [hm]))
    have skip : tryF f way (x :: ns) = tryF f way ns → (∀ e, e.length = k → ¬ (Closed nx tx (way ++ x :: e) ∧ (way ++ x :: e).Nodup)) →
        (tryF f way (x :: ns) = [] ∧ ∀ y ∈ x :: ns, ∀ e, e.length = k → ¬ (Closed nx tx (way ++ y :: e) ∧ (way ++ y :: e).Nodup)) ∨
        ∃ y e, y ∈ x :: ns ∧ tryF f way (x :: ns) = way ++ y :: e ∧ e.length = k ∧ Closed nx tx (way ++ y :: e) ∧ (way ++ y :: e).Nodup ∧ ∀ x' ∈ x :: ns, ∀ e', e'.length = k → Closed nx tx (way ++ x' :: e') → (way ++ x' :: e').Nodup → y :: e = x' :: e' ∨ lexB (y :: e) (x' :: e') := by
      intro e1 hno
      rw [e1]
      rcases ih with ⟨i1, i2⟩ | ⟨y, e, hy, i1, i2, i3, i4, i5⟩
      · refine .inl ⟨i1, fun y hy => ?_⟩
        rcases List.mem_cons.1 hy with rfl | hy
        · exact hno
        · exact i2 y hy
      · refine .inr ⟨y, e, by simp [hy], i1, i2, i3, i4, fun x' hx' e' h1 h2 h3 => ?_⟩
        rcases List.mem_cons.1 hx' with rfl | hx'
        · exact absurd ⟨h2, h3⟩ (hno e' h1)
        · exact i5 x' hx' e' h1 h2 h3
    by_cases hx : x ∈ way
    · refine skip (by simp only [tryF]; rw [if_pos (by simpa using hx)]) fun e _ h => ?_
      have nd := h.2
      rw [List.nodup_append] at nd
      exact nd.2.2 x hx x (by simp) rfl
    · have e0 : tryF f way (x :: ns) = if (f (way ++ [x])).isEmpty then tryF f way ns else f (way ++ [x]) := by
        conv => lhs; unfold tryF
        rw [if_neg (by simpa using hx)]
      rcases hf x (hn x (by simp)) hx with ⟨f1, f2⟩ | ⟨e, f1, f2, f3, f4, f5⟩
      · refine skip (by rw [e0, f1]; rfl) fun e he h => f2 e he (by simpa using h)
      · refine .inr ⟨x, e, by simp, ?_, f2, by simpa using f3, by simpa using f4, fun x' hx' e' h1 h2 h3 => ?_⟩
        · rw [e0, f1]
          have : ((way ++ [x]) ++ e).isEmpty = false := by simp
          rw [this]
          simp
        · rcases List.mem_cons.1 hx' with rfl | hx'
          · rcases f5 e' h1 (by simpa using h2) (by simpa using h3) with rfl | k2
            · exact .inl rfl
            · exact .inr (.inr ⟨rfl, k2⟩)
          · exact .inr (.inl (hs1 x' hx'))
theorem clos_finds (hS : ∀ a, (nx a).Pairwise (· < ·)) : ∀ (k : Nat) (way : List Int), Way nx tx way → way.Nodup → Finds nx tx k way (closF nx tx k way)
  | 0, way, hw, hn => by
    unfold closF
    split
    · rename_i h
      exact .inr ⟨[], by simp, rfl, ⟨by simpa using hw, by simpa using h⟩, by simpa using hn, fun e' he _ _ => .inl (List.eq_nil_of_length_eq_zero he).symm⟩
    · rename_i h
      refine .inl ⟨rfl, fun e he hc => h ?_⟩
      have : e = [] := List.eq_nil_of_length_eq_zero he
      subst this
      have := hc.1.2
      simpa using this
  | k + 1, way, hw, hn => by
    unfold closF
    have hne := hw.ne
    have h := try_finds (k := k) hne (fun x hx hxw => clos_finds hS k (way ++ [x]) (.snoc hw hx) (by
      rw [List.nodup_append]
      exact ⟨hn, by simp, fun a ha b hb => by simp at hb; subst hb; rintro rfl; exact hxw ha⟩)) (nx (lastI way)) (hS _) (fun n hn => hn)
    rcases h with ⟨h1, h2⟩ | ⟨x, e, hx, h1, h2, h3, h4, h5⟩
    · refine .inl ⟨h1, fun e he hc => ?_⟩
      cases e with
      | nil => simp at he
      | cons x e => exact h2 x (way_step hc.1.1 hne).2 e (by simpa using he) hc
    · refine .inr ⟨x :: e, h1, by simp [h2], h3, h4, fun e' he h6 h7 => ?_⟩
      cases e' with
      | nil => simp at he
      | cons x' e' => exact h5 x' (way_step h6.1 hne).2 e' (by simpa using he) h6 h7
theorem way_head {p : List Int} (w : Way nx tx p) : ∃ e, p = [tx] ++ e := by
  induction w with
  | one => exact ⟨[], rfl⟩
  | @snoc p v _ _ ih => obtain ⟨e, rfl⟩ := ih; exact ⟨e ++ [v], by simp⟩
theorem cycL_none (h : ∀ q, ¬ Closed nx tx q) (hS : ∀ a, (nx a).Pairwise (· < ·)) : ∀ ns, cycL nx tx ns = []
  | [] => rfl
  | n :: ns => by
    unfold cycL
    rcases clos_finds hS n [tx] .one (by simp) with ⟨h1, _⟩ | ⟨e, _, _, h3, _⟩
    · rw [h1]; exact cycL_none h hS ns
    · exact absurd h3 (h _)
theorem cycL_least {p : List Int} (h : Least nx tx p) (hS : ∀ a, (nx a).Pairwise (· < ·)) {d : Nat} (hd : p.length = d + 1) : ∀ (ns : List Nat) , d ∈ ns → ns.Pairwise (· < ·) → cycL nx tx ns = p
  | [], hm, _ => by cases hm
  | n :: ns, hm, hp => by
    obtain ⟨hp1, hp2⟩ := List.pairwise_cons.1 hp
    obtain ⟨e0, he0⟩ := way_head h.closed.1
    have hl0 : e0.length = d := by rw [he0] at hd; simp at hd; omega
    unfold cycL
    by_cases hnd : n = d
    · subst hnd
      rcases clos_finds hS n [tx] .one (by simp) with ⟨h1, h2⟩ | ⟨e, h1, h2, h3, h4, h5⟩
      · exact absurd ⟨by rw [← he0]; exact h.closed, by rw [← he0]; exact h.nodup⟩ (h2 e0 hl0)
      · have : (closF nx tx n [tx]).isEmpty = false := by rw [h1]; simp
        rw [this]
        simp only [Bool.false_eq_true, if_false]
        rw [h1]
        refine pLe_anti ?_ (h.le _ h3)
        rcases h5 e0 hl0 (by rw [← he0]; exact h.closed) (by rw [← he0]; exact h.nodup) with rfl | k
        · exact .inl he0.symm
        · rw [he0]; exact .inr (.inr ⟨by simp [h2, hl0], lexB_pre [tx] k⟩)
    · have hlt : n < d := by
        rcases List.mem_cons.1 hm with e | hm
        · exact absurd e.symm hnd
        · exact hp1 d hm
      rcases clos_finds hS n [tx] .one (by simp) with ⟨h1, _⟩ | ⟨e, h1, h2, h3, h4, _⟩
      · rw [h1]
        refine cycL_least h hS hd ns ?_ hp2
        rcases List.mem_cons.1 hm with e | hm
        · exact absurd e.symm hnd
        · exact hm
      · have := pLe_len (h.le _ h3)
        simp at this
        omega
/-- both searches find the same, if the lengths go far enough -/
theorem cyc_same {U : List Int} (hU : ∀ a, ∀ b ∈ nx a, b ∈ U) (hS : ∀ a, (nx a).Pairwise (· < ·)) (htx : tx ∈ U) {m : Nat} (hm : ∀ p : List Int, p.Nodup → (∀ x ∈ p, ∃ b, b ∈ nx x) → p.length ≤ m) :
    bfsF nx tx U.length [tx] [[tx]] = cycL nx tx (List.range m) := by
  have start : SI nx tx [] (fun _ => False) (fun _ => True) [tx] [[tx]] := by
    refine ⟨by simp, fun r hr => ?_, fun r hr => ?_, fun v hv => ?_, by simp⟩
    · simp at hr; subst hr
      exact ⟨.inl (by simp), by simp, fun _ => .inr ⟨rfl, trivial⟩⟩
    · simp at hr; subst hr
      refine ⟨⟨.one, fun q w hq => ?_⟩, by simp, fun x hx => hx⟩
      obtain ⟨e, rfl⟩ := way_head w
      cases e with
      | nil => exact .inl rfl
      | cons y e => exact .inr (.inl (by simp))
    · simp at hv; subst hv
      exact .inr (.inl ⟨[v], by simp, rfl⟩)
  rcases bfs_least hU hS U.length [] [tx] [[tx]] (BfInv.start U tx htx) start with ⟨h1, h2⟩ | h
  · rw [h1, cycL_none h2 hS]
  · have hlen := hm _ h.nodup h.closed.out
    have hpos : 0 < (bfsF nx tx U.length [tx] [[tx]]).length := by
      have := h.closed.1.ne
      exact List.length_pos_iff.2 this
    exact (cycL_least h hS (d := (bfsF nx tx U.length [tx] [[tx]]).length - 1) (by omega) (List.range m) (by rw [List.mem_range]; omega) List.pairwise_lt_range).symm
end
end Go.Proofs.YtnfkplohpjfocaaGreat.Xc
