/-
  The reference's test of tables of locks and its comparison of rows of numbers, plainly. No function of the program is named here.
-/
import Derived.Lib.SlicesCompact
set_option linter.unusedVariables false
set_option linter.unusedSimpArgs false
section
namespace Go.Proofs.YtgjindhjgmplgaaGreat.Wp
structure G where
  tx : Int
  page : Int
  slot : Int
  mode : Int
theorem G.ext {a b : G} (h1 : a.tx = b.tx) (h2 : a.page = b.page) (h3 : a.slot = b.slot) (h4 : a.mode = b.mode) : a = b := by
  cases a; cases b; simp_all
def sameLock (a b : G) : Bool := (a.page == b.page) && (a.slot == b.slot)
def conflictB (a b : G) : Bool := (a.tx != b.tx) && sameLock a b && ((a.mode == 2) || (b.mode == 2))
def validG (g : G) : Bool := decide (1 ≤ g.tx) && decide (g.tx ≤ 1073741824) && decide (0 ≤ g.page) && decide (g.page < 64) && decide (0 ≤ g.slot) && decide (g.slot < 16) && ((g.mode == 1) || (g.mode == 2))
def cmpI (x y : Int) : Int := if x < y then -1 else if y < x then 1 else 0
def ordI (a b : G) : Int := if cmpI a.page b.page ≠ 0 then cmpI a.page b.page else if cmpI a.slot b.slot ≠ 0 then cmpI a.slot b.slot else cmpI a.tx b.tx
def ltG (a b : G) : Prop := a.page < b.page ∨ (a.page = b.page ∧ (a.slot < b.slot ∨ (a.slot = b.slot ∧ a.tx < b.tx)))
theorem ordI_lt {a b : G} : ordI a b < 0 ↔ ltG a b := by
  unfold ordI cmpI ltG
  by_cases h1 : a.page < b.page
  · simp [h1]
  · by_cases h2 : b.page < a.page
    · simp [h1, h2]; omega
    · by_cases h3 : a.slot < b.slot
      · simp [h1, h2, h3]; omega
      · by_cases h4 : b.slot < a.slot
        · simp [h1, h2, h3, h4]; omega
        · simp only [h1, h2, h3, h4, if_false]
          by_cases h5 : a.tx < b.tx
          · simp [h5]; omega
          · by_cases h6 : b.tx < a.tx
            · simp [h5, h6]
            · simp [h5, h6]
def sameKey (t : G) (g : G) : Bool := (g.tx == t.tx) && sameLock g t
def modeF (gs : List G) (t : G) : Int := match gs.find? (sameKey t) with | some g => g.mode | none => 0
def heldAt (hs : List G) (i : Nat) : Bool := match hs[i]? with
  | some g => validG g && (match i with | 0 => true | k + 1 => match hs[k]? with | some y => decide (ordI y g < 0) && !conflictB y g | none => true)
  | none => true
def waitAt (hs ws : List G) (i : Nat) : Bool := match ws[i]? with
  | some g => validG g && decide (modeF hs g < g.mode) && !((ws.take i).any fun x => x.tx == g.tx)
  | none => true
def heldOk (hs : List G) : Bool := (List.range hs.length).all (heldAt hs)
def waitOk (hs ws : List G) : Bool := (List.range ws.length).all (waitAt hs ws)
def validT (hs ws : List G) : Bool := decide (hs.length + ws.length ≤ 1024) && heldOk hs && waitOk hs ws
def blockedB (hs ws : List G) (i : Nat) : Bool := match ws[i]? with | some g => hs.any (fun x => conflictB x g) || (ws.take i).any (fun x => conflictB x g) | none => false
def sortI (ns : List Int) : List Int := ns.mergeSort fun x y => decide (x ≤ y)
def outsF (ys : List G) (g : G) : List Int := (ys.filter fun x => conflictB x g).map G.tx
def blockF (hs ws : List G) (tx : Int) : List Int := match ws.findIdx? (fun x => x.tx == tx) with
  | none => []
  | some i => match ws[i]? with | some g => Lib.compact (sortI (outsF (hs ++ ws.take i) g)) | none => []
def nbF (p : List Int) : List Int → List Int → List (List Int) → List Int × List (List Int)
  | [], seen, queue => (seen, queue)
  | n :: ns, seen, queue => if seen.contains n then nbF p ns seen queue else nbF p ns (seen ++ [n]) (queue ++ [p ++ [n]])
def lastI (p : List Int) : Int := p.getLast?.getD 0
def bfsF (nx : Int → List Int) (tx : Int) : Nat → List Int → List (List Int) → List Int
  | _, _, [] => []
  | 0, _, _ :: _ => []
  | k + 1, seen, p :: queue => if (nx (lastI p)).contains tx then p else bfsF nx tx k (nbF p (nx (lastI p)) seen queue).1 (nbF p (nx (lastI p)) seen queue).2
end Go.Proofs.YtgjindhjgmplgaaGreat.Wp
end
section
namespace Go.Proofs.YtgjindhjgmplgaaGreat.Wp
open Relation
def Ed (hs ws : List G) (a b : Int) : Prop := ∃ p g s, ws = p ++ g :: s ∧ g.tx = a ∧ ∃ x, x ∈ hs ++ p ∧ conflictB x g = true ∧ x.tx = b
theorem conflict_symm (a b : G) : conflictB a b = conflictB b a := by
  have h : ∀ a b : G, conflictB a b = true → conflictB b a = true := by
    intro a b h
    unfold conflictB sameLock at *
    simp only [Bool.and_eq_true, bne_iff_ne, beq_iff_eq, Bool.or_eq_true, ne_eq] at *
    obtain ⟨⟨h1, h2, h3⟩, h4⟩ := h
    exact ⟨⟨fun e => h1 e.symm, h2.symm, h3.symm⟩, h4.symm⟩
  cases e : conflictB a b with
  | true => exact (h a b e).symm
  | false => cases e2 : conflictB b a with
    | true => rw [h b a e2] at e; cases e
    | false => rfl
theorem Ed.filter {hs ws : List G} {p q : G → Bool} {a b : Int} (h : Ed (hs.filter p) (ws.filter q) a b) : Ed hs ws a b := by
  obtain ⟨p', g, s', e, rfl, x, hx, hc, rfl⟩ := h
  obtain ⟨l1, l2, rfl, e1, e2⟩ := List.filter_eq_append_iff.1 e
  obtain ⟨m1, m2, rfl, _, hq, e3⟩ := List.filter_eq_cons_iff.1 e2
  refine ⟨l1 ++ m1, g, m2, by simp, rfl, x, ?_, hc, rfl⟩
  rcases List.mem_append.1 hx with h | h
  · exact List.mem_append_left _ (List.mem_filter.1 h).1
  · rw [← e1] at h; exact List.mem_append_right _ (List.mem_append_left _ (List.mem_filter.1 h).1)
theorem Ed.src {hs ws : List G} {a b : Int} (h : Ed hs ws a b) : ∃ g ∈ ws, g.tx = a := by
  obtain ⟨p, g, s, rfl, rfl, _⟩ := h
  exact ⟨g, by simp, rfl⟩
theorem Ed.dst {hs ws : List G} {a b : Int} (h : Ed hs ws a b) : ∃ g ∈ hs ++ ws, g.tx = b := by
  obtain ⟨p, g, s, rfl, rfl, x, hx, _, rfl⟩ := h
  exact ⟨x, by rcases List.mem_append.1 hx with h | h <;> simp [h], rfl⟩
def putF (g : G) : List G → List G
  | [] => [g]
  | x :: l => if ordI x g < 0 then x :: putF g l else if ordI x g = 0 then g :: l else g :: x :: l
theorem putF_mem {g x : G} : ∀ {hs : List G}, x ∈ putF g hs → x = g ∨ x ∈ hs
  | [], h => by simp [putF] at h; exact .inl h
  | y :: l, h => by
    unfold putF at h
    split at h
    · rcases List.mem_cons.1 h with rfl | h
      · exact .inr (by simp)
      · rcases putF_mem h with h | h
        · exact .inl h
        · exact .inr (by simp [h])
    · split at h
      · rcases List.mem_cons.1 h with rfl | h
        · exact .inl rfl
        · exact .inr (by simp [h])
      · rcases List.mem_cons.1 h with rfl | h
        · exact .inl rfl
        · exact .inr h
theorem Ed.step {hs p s : List G} {g : G} {a b : Int} (h : Ed (putF g hs) (p ++ s) a b) (hb : ∀ x, x ∈ hs ++ p → conflictB x g = false) : Ed hs (p ++ g :: s) a b := by
  obtain ⟨p', k, s', e, rfl, x, hx, hc, rfl⟩ := h
  have one : ∀ m, p' = p ++ m → s = m ++ k :: s' → Ed hs (p ++ g :: s) k.tx x.tx := by
    rintro m rfl rfl
    refine ⟨p ++ g :: m, k, s', by simp, rfl, x, ?_, hc, rfl⟩
    rcases List.mem_append.1 hx with h | h
    · rcases putF_mem h with rfl | h <;> simp_all
    · rcases List.mem_append.1 h with h | h <;> simp [h]
  rcases List.append_eq_append_iff.1 e with ⟨m, h1, h2⟩ | ⟨m, h1, h2⟩
  · exact one m h1 h2
  · cases m with
    | nil => exact one [] (by simpa using h1.symm) (by simpa using h2.symm)
    | cons y m =>
      cases h2
      subst h1
      refine ⟨p', k, m ++ g :: s, by simp, rfl, x, ?_, hc, rfl⟩
      rcases List.mem_append.1 hx with h | h
      · rcases putF_mem h with rfl | h
        · have := hb k (by simp)
          rw [conflict_symm] at hc
          rw [hc] at this; cases this
        · simp [h]
      · simp [h]
theorem Ed.ins {hs p s : List G} {g : G} {a b : Int} (h : Ed hs (p ++ g :: s) a b) : Ed hs (p ++ s) a b ∨ a = g.tx ∨ b = g.tx := by
  obtain ⟨p', k, s', e, rfl, x, hx, hc, rfl⟩ := h
  rcases List.append_eq_append_iff.1 e with ⟨m, h1, h2⟩ | ⟨m, h1, h2⟩
  · subst h1
    cases m with
    | nil => cases h2; exact .inr (.inl rfl)
    | cons y m =>
      cases h2
      rcases List.mem_append.1 hx with h | h
      · exact .inl ⟨p ++ m, k, s', by simp, rfl, x, by simp [h], hc, rfl⟩
      · rcases List.mem_append.1 h with h | h
        · exact .inl ⟨p ++ m, k, s', by simp, rfl, x, by simp [h], hc, rfl⟩
        · rcases List.mem_cons.1 h with rfl | h
          · exact .inr (.inr rfl)
          · exact .inl ⟨p ++ m, k, s', by simp, rfl, x, by simp [h], hc, rfl⟩
  · cases m with
    | nil => cases h2; exact .inr (.inl rfl)
    | cons y m =>
      cases h2
      subst h1
      exact .inl ⟨p', k, m ++ s, by simp, rfl, x, hx, hc, rfl⟩
def Acyc (R : Int → Int → Prop) : Prop := ∀ a, ¬ TransGen R a a
theorem tg_mono {R S : Int → Int → Prop} (h : ∀ a b, R a b → S a b) {a b : Int} (t : TransGen R a b) : TransGen S a b := by
  induction t with
  | single h1 => exact .single (h _ _ h1)
  | tail _ h2 ih => exact .tail ih (h _ _ h2)
theorem tg_trans {R : Int → Int → Prop} {a b c : Int} (t : TransGen R a b) (u : TransGen R b c) : TransGen R a c := by
  induction u with
  | single h1 => exact .tail t h1
  | tail _ h2 ih => exact .tail ih h2
theorem Acyc.mono {R S : Int → Int → Prop} (hS : Acyc S) (h : ∀ a b, R a b → S a b) : Acyc R := fun a t => hS a (tg_mono h t)
theorem tg_avoid {R S : Int → Int → Prop} {c : Int} (h : ∀ a b, S a b → R a b ∨ a = c ∨ b = c) {a b : Int} (t : TransGen S a b) : TransGen R a b ∨ ((a = c ∨ TransGen S a c) ∧ (b = c ∨ TransGen S c b)) := by
  induction t with
  | single h1 =>
    rcases h _ _ h1 with h2 | rfl | rfl
    · exact .inl (.single h2)
    · exact .inr ⟨.inl rfl, .inr (.single h1)⟩
    · exact .inr ⟨.inr (.single h1), .inl rfl⟩
  | tail h1 h2 ih =>
    rcases h _ _ h2 with h3 | rfl | rfl
    · rcases ih with ih | ⟨u, v⟩
      · exact .inl (.tail ih h3)
      · refine .inr ⟨u, .inr ?_⟩
        rcases v with rfl | v
        · exact .single h2
        · exact .tail v h2
    · exact .inr ⟨.inr h1, .inr (.single h2)⟩
    · exact .inr ⟨.inr (.tail h1 h2), .inl rfl⟩
theorem Acyc.new {R S : Int → Int → Prop} {c : Int} (hR : Acyc R) (h : ∀ a b, S a b → R a b ∨ a = c ∨ b = c) (hc : ¬ TransGen S c c) : Acyc S := by
  intro a t
  rcases tg_avoid h t with h1 | ⟨u, v⟩
  · exact hR a h1
  · rcases u with rfl | u
    · exact hc t
    · rcases v with rfl | v
      · exact hc t
      · exact hc (tg_trans v u)
theorem Acyc.cut {R S T : Int → Int → Prop} {c : Int} (hR : Acyc R) (h : ∀ a b, S a b → R a b ∨ a = c ∨ b = c) (hT : ∀ a b, T a b → S a b ∧ a ≠ c) : Acyc T := by
  have first : ∀ {a b : Int}, TransGen T a b → a ≠ c := by
    intro a b t
    induction t with
    | single h1 => exact (hT _ _ h1).2
    | tail _ _ ih => exact ih
  exact Acyc.new (R := R) (S := T) (c := c) hR (fun a b t => h a b (hT a b t).1) fun t => first t rfl
theorem nodup_le : ∀ (l m : List Int), l.Nodup → (∀ x ∈ l, x ∈ m) → l.length ≤ m.length
  | [], _, _, _ => Nat.zero_le _
  | x :: l, m, hn, hs => by
    have hx : x ∈ m := hs x (by simp)
    have h1 := nodup_le l (m.erase x) (List.nodup_cons.1 hn).2 (fun y hy => (List.mem_erase_of_ne (by rintro rfl; exact (List.nodup_cons.1 hn).1 hy)).2 (hs y (by simp [hy])))
    have h2 := List.length_erase_of_mem hx
    have h3 := List.length_pos_of_mem hx
    simp only [List.length_cons]
    omega
section
variable {nx : Int → List Int} {tx : Int} {U : List Int}
structure BI (nx : Int → List Int) (tx : Int) (U : List Int) (k : Nat) (seen : List Int) (queue : List (List Int)) (act : Int → Prop) : Prop where
  nodup : seen.Nodup
  sub : ∀ x ∈ seen, x ∈ U
  size : U.length - seen.length + queue.length ≤ k
  mem : tx ∈ seen
  last : ∀ q ∈ queue, q ≠ [] ∧ lastI q ∈ seen
  done : ∀ n ∈ seen, act n ∨ (∃ q ∈ queue, lastI q = n) ∨ (tx ∉ nx n ∧ ∀ m ∈ nx n, m ∈ seen)
  from_ : ∀ n ∈ seen, n = tx ∨ TransGen (fun a b => b ∈ nx a) tx n
theorem lastI_snoc (p : List Int) (n : Int) : lastI (p ++ [n]) = n := by unfold lastI; simp
theorem BI.nb {k : Nat} {p : List Int} (hU : ∀ a, ∀ b ∈ nx a, b ∈ U) : ∀ (ns seen : List Int) (queue : List (List Int)), (∀ n ∈ ns, n ∈ nx (lastI p)) → lastI p ∈ seen → BI nx tx U k seen queue (· = lastI p) → BI nx tx U k (nbF p ns seen queue).1 (nbF p ns seen queue).2 (· = lastI p) ∧ (∀ n ∈ ns, n ∈ (nbF p ns seen queue).1) ∧ ∀ n ∈ seen, n ∈ (nbF p ns seen queue).1
  | [], seen, queue, _, _, h => ⟨h, by simp, fun n hn => hn⟩
  | n :: ns, seen, queue, hns, hp, h => by
    cases hc : seen.contains n with
    | true =>
      have e : nbF p (n :: ns) seen queue = nbF p ns seen queue := by simp only [nbF, hc, if_true]
      rw [e]
      obtain ⟨h1, h2, h3⟩ := BI.nb hU ns seen queue (fun m hm => hns m (by simp [hm])) hp h
      refine ⟨h1, fun m hm => ?_, h3⟩
      rcases List.mem_cons.1 hm with rfl | hm
      · exact h3 _ (by simpa using hc)
      · exact h2 m hm
    | false =>
      have e : nbF p (n :: ns) seen queue = nbF p ns (seen ++ [n]) (queue ++ [p ++ [n]]) := by simp only [nbF, hc, Bool.false_eq_true, if_false]
      rw [e]
      have hn : n ∉ seen := by simpa using hc
      have hnx : n ∈ nx (lastI p) := hns n (by simp)
      have hnU : n ∈ U := hU _ _ hnx
      have nd : (seen ++ [n]).Nodup := by
        rw [List.nodup_append]
        exact ⟨h.nodup, by simp, fun a ha b hb => by simp at hb; subst hb; rintro rfl; exact hn ha⟩
      have sb : ∀ x ∈ seen ++ [n], x ∈ U := fun x hx => by
        rcases List.mem_append.1 hx with hx | hx
        · exact h.sub x hx
        · simp at hx; subst hx; exact hnU
      have hl := nodup_le _ _ nd sb
      have hsz := h.size
      simp only [List.length_append, List.length_cons, List.length_nil] at hl
      have step : BI nx tx U k (seen ++ [n]) (queue ++ [p ++ [n]]) (· = lastI p) := by
        refine ⟨nd, sb, by simp only [List.length_append, List.length_cons, List.length_nil]; omega, by simp [h.mem], fun q hq => ?_, fun m hm => ?_, fun m hm => ?_⟩
        · rcases List.mem_append.1 hq with hq | hq
          · exact ⟨(h.last q hq).1, by simp [(h.last q hq).2]⟩
          · simp at hq; subst hq
            exact ⟨by simp, by rw [lastI_snoc]; simp⟩
        · rcases List.mem_append.1 hm with hm | hm
          · rcases h.done m hm with hd | ⟨q, hq, e⟩ | ⟨h4, h5⟩
            · exact .inl hd
            · exact .inr (.inl ⟨q, by simp [hq], e⟩)
            · exact .inr (.inr ⟨h4, fun x hx => by simp [h5 x hx]⟩)
          · simp at hm; subst hm
            exact .inr (.inl ⟨p ++ [m], by simp, lastI_snoc p m⟩)
        · rcases List.mem_append.1 hm with hm | hm
          · exact h.from_ m hm
          · simp at hm; subst hm
            rcases h.from_ _ hp with e | e
            · rw [e] at hnx; exact .inr (.single hnx)
            · exact .inr (.tail e hnx)
      obtain ⟨h1, h2, h3⟩ := BI.nb (k := k) hU ns (seen ++ [n]) (queue ++ [p ++ [n]]) (fun m hm => hns m (by simp [hm])) (by simp [hp]) step
      refine ⟨h1, fun m hm => ?_, fun m hm => h3 m (by simp [hm])⟩
      rcases List.mem_cons.1 hm with rfl | hm
      · exact h3 _ (by simp)
      · exact h2 m hm
theorem bfs_inv (hU : ∀ a, ∀ b ∈ nx a, b ∈ U) : ∀ (k : Nat) (seen : List Int) (queue : List (List Int)), BI nx tx U k seen queue (fun _ => False) → (bfsF nx tx k seen queue = [] ↔ ¬ TransGen (fun a b => b ∈ nx a) tx tx)
  | k, seen, [], h => by
    have e : bfsF nx tx k seen [] = [] := by cases k <;> rfl
    rw [e]
    refine ⟨fun _ t => ?_, fun _ => rfl⟩
    have key : ∀ b, TransGen (fun a b => b ∈ nx a) tx b → b ∈ seen ∧ b ≠ tx := by
      intro b t
      induction t with
      | single h1 =>
        rcases h.done tx h.mem with hd | ⟨q, hq, _⟩ | ⟨h4, h5⟩
        · cases hd
        · cases hq
        · exact ⟨h5 _ h1, fun e => h4 (e ▸ h1)⟩
      | tail _ h2 ih =>
        rcases h.done _ ih.1 with hd | ⟨q, hq, _⟩ | ⟨h4, h5⟩
        · cases hd
        · cases hq
        · exact ⟨h5 _ h2, fun e => h4 (e ▸ h2)⟩
    exact (key tx t).2 rfl
  | 0, seen, p :: queue, h => by
    have := h.size
    simp at this
  | k + 1, seen, p :: queue, h => by
    obtain ⟨hp, hpl⟩ := h.last p (by simp)
    cases hc : (nx (lastI p)).contains tx with
    | true =>
      have e : bfsF nx tx (k + 1) seen (p :: queue) = p := by simp only [bfsF, hc, if_true]
      rw [e]
      have hm : tx ∈ nx (lastI p) := by simpa using hc
      refine ⟨fun e => absurd e hp, fun hn => absurd ?_ hn⟩
      rcases h.from_ _ hpl with e | e
      · rw [e] at hm; exact .single hm
      · exact .tail e hm
    | false =>
      have e : bfsF nx tx (k + 1) seen (p :: queue) = bfsF nx tx k (nbF p (nx (lastI p)) seen queue).1 (nbF p (nx (lastI p)) seen queue).2 := by simp only [bfsF, hc, Bool.false_eq_true, if_false]
      rw [e]
      have hsz := h.size
      simp only [List.length_cons] at hsz
      obtain ⟨h1, h2, h3⟩ := BI.nb (k := k) hU (nx (lastI p)) seen queue (fun n hn => hn) hpl ⟨h.nodup, h.sub, (by omega : U.length - seen.length + queue.length ≤ k), h.mem, fun q hq => h.last q (by simp [hq]), fun n hn => by
        rcases h.done n hn with hd | ⟨q, hq, e5⟩ | hd
        · cases hd
        · rcases List.mem_cons.1 hq with e6 | hq
          · exact .inl (by rw [← e5, e6])
          · exact .inr (.inl ⟨q, hq, e5⟩)
        · exact .inr (.inr hd), h.from_⟩
      refine bfs_inv hU k _ _ ⟨h1.nodup, h1.sub, h1.size, h1.mem, h1.last, fun n hn => ?_, h1.from_⟩
      rcases h1.done n hn with rfl | hd
      · exact .inr (.inr ⟨by simpa using hc, h2⟩)
      · exact .inr hd
theorem bfs_iff (hU : ∀ a, ∀ b ∈ nx a, b ∈ U) (ht : tx ∈ U) : bfsF nx tx U.length [tx] [[tx]] = [] ↔ ¬ TransGen (fun a b => b ∈ nx a) tx tx :=
  bfs_inv hU _ _ _ ⟨by simp, by simpa using ht, by have := List.length_pos_of_mem ht; simp; omega, by simp, fun q hq => by simp at hq; subst hq; exact ⟨by simp, by simp [lastI]⟩, fun n hn => by simp at hn; subst hn; exact .inr (.inl ⟨[n], by simp, by simp [lastI]⟩), fun n hn => by simp at hn; exact .inl hn⟩
def chainF (nx : Int → List Int) : Nat → Int → Bool
  | 0, a => (nx a).isEmpty
  | k + 1, a => (nx a).isEmpty || chainF nx k (lastI (nx a))
theorem lastI_mem {l : List Int} (h : l.isEmpty = false) : lastI l ∈ l := by
  unfold lastI
  cases e : l.getLast? with
  | none => rw [List.getLast?_eq_none_iff] at e; subst e; cases h
  | some x => exact List.mem_of_getLast? e
theorem chain_inv (ha : Acyc fun a b => b ∈ nx a) (hU : ∀ a, ∀ b ∈ nx a, b ∈ U) : ∀ (k : Nat) (v : List Int) (a : Int), v.Nodup → (∀ x ∈ v, x ∈ U ∧ TransGen (fun a b => b ∈ nx a) x a) → a ∈ U → U.length ≤ v.length + k → chainF nx k a = true
  | k, v, a, hn, hv, hm, hk => by
    have hav : a ∉ v := fun h => ha a (hv a h).2
    have hn2 : (v ++ [a]).Nodup := by
      rw [List.nodup_append]
      exact ⟨hn, by simp, fun x hx b hb => by simp at hb; subst hb; rintro rfl; exact hav hx⟩
    have hs : ∀ x ∈ v ++ [a], x ∈ U := fun x hx => by
      rcases List.mem_append.1 hx with hx | hx
      · exact (hv x hx).1
      · simp at hx; subst hx; exact hm
    have hl := nodup_le _ _ hn2 hs
    simp only [List.length_append, List.length_cons, List.length_nil] at hl
    cases k with
    | zero => omega
    | succ k =>
      unfold chainF
      cases he : (nx a).isEmpty with
      | true => rfl
      | false =>
        have hlm := lastI_mem he
        rw [Bool.false_or]
        refine chain_inv ha hU k (v ++ [a]) _ hn2 (fun x hx => ?_) (hU _ _ hlm) (by simp only [List.length_append, List.length_cons, List.length_nil]; omega)
        rcases List.mem_append.1 hx with hx | hx
        · exact ⟨(hv x hx).1, .tail (hv x hx).2 hlm⟩
        · simp at hx; subst hx; exact ⟨hm, .single hlm⟩
theorem chain_ok (ha : Acyc fun a b => b ∈ nx a) (hU : ∀ a, ∀ b ∈ nx a, b ∈ U) {a : Int} (hm : a ∈ U) : chainF nx U.length a = true := chain_inv ha hU _ [] a (by simp) (by simp) hm (by simp)
end
end Go.Proofs.YtgjindhjgmplgaaGreat.Wp
end
section
namespace Go.Proofs.YtgjindhjgmplgaaGreat.Wp
open Relation
theorem ltG_tr {a b c : G} (h : ltG a b) (k : ltG b c) : ltG a c := by unfold ltG at *; omega
theorem ltG_tri {a b : G} (h : ¬ ltG a b) (h2 : ¬ (a.page = b.page ∧ a.slot = b.slot ∧ a.tx = b.tx)) : ltG b a := by unfold ltG at *; omega
theorem ordI_z {a b : G} : ordI a b = 0 ↔ a.page = b.page ∧ a.slot = b.slot ∧ a.tx = b.tx := by
  unfold ordI cmpI
  by_cases h1 : a.page < b.page
  · simp [h1]; omega
  · by_cases h2 : b.page < a.page
    · simp [h1, h2]; omega
    · by_cases h3 : a.slot < b.slot
      · simp [h1, h2, h3]; omega
      · by_cases h4 : b.slot < a.slot
        · simp [h1, h2, h3, h4]; omega
        · simp only [h1, h2, h3, h4, if_false]
          by_cases h5 : a.tx < b.tx
          · simp [h5]; omega
          · by_cases h6 : b.tx < a.tx
            · simp [h5, h6]; omega
            · simp [h5, h6]; omega
theorem sk_iff {t g : G} : sameKey t g = true ↔ g.page = t.page ∧ g.slot = t.slot ∧ g.tx = t.tx := by
  unfold sameKey sameLock
  simp only [Bool.and_eq_true, beq_iff_eq]
  exact ⟨fun ⟨a, b, c⟩ => ⟨b, c, a⟩, fun ⟨a, b, c⟩ => ⟨c, a, b⟩⟩
theorem ltG_l {a b c : G} (h : ltG a b) (e : c.page = a.page ∧ c.slot = a.slot ∧ c.tx = a.tx) : ltG c b := by unfold ltG at *; omega
structure TV (hs ws : List G) : Prop where
  srt : hs.Pairwise ltG
  vh : ∀ g ∈ hs, validG g = true
  cf : hs.Pairwise fun a b => conflictB a b = false
  vw : ∀ g ∈ ws, validG g = true ∧ modeF hs g < g.mode
  nd : (ws.map G.tx).Nodup
theorem validG_mode {g : G} (h : validG g = true) : g.mode = 1 ∨ g.mode = 2 := by
  unfold validG at h
  simp only [Bool.and_eq_true, Bool.or_eq_true, beq_iff_eq] at h
  exact h.2
theorem TV.ok {hs ws : List G} (h : TV hs ws) (hl : hs.length + ws.length ≤ 1024) : validT hs ws = true := by
  unfold validT
  simp only [Bool.and_eq_true, decide_eq_true_eq]
  refine ⟨⟨hl, ?_⟩, ?_⟩
  · unfold heldOk
    rw [List.all_eq_true]
    intro i hi
    have hi' : i < hs.length := by simpa using hi
    unfold heldAt
    rw [List.getElem?_eq_getElem hi']
    simp only [Bool.and_eq_true]
    refine ⟨h.vh _ (List.getElem_mem hi'), ?_⟩
    cases i with
    | zero => rfl
    | succ k =>
      have hk : k < hs.length := by omega
      simp only [List.getElem?_eq_getElem hk, Bool.and_eq_true, decide_eq_true_eq]
      exact ⟨ordI_lt.2 (List.pairwise_iff_getElem.1 h.srt k (k + 1) hk hi' (by omega)), by rw [List.pairwise_iff_getElem.1 h.cf k (k + 1) hk hi' (by omega)]; rfl⟩
  · unfold waitOk
    rw [List.all_eq_true]
    intro i hi
    have hi' : i < ws.length := by simpa using hi
    unfold waitAt
    rw [List.getElem?_eq_getElem hi']
    obtain ⟨h1, h2⟩ := h.vw _ (List.getElem_mem hi')
    simp only [Bool.and_eq_true, decide_eq_true_eq, h1, h2, true_and, Bool.not_eq_true', List.any_eq_false, beq_iff_eq]
    intro x hx e
    obtain ⟨j, hj, hjx⟩ := List.mem_iff_getElem.1 hx
    have hj1 : j < i := by simp at hj; omega
    have hj2 : j < ws.length := by omega
    rw [List.getElem_take] at hjx
    have := List.pairwise_iff_getElem.1 h.nd j i (by simpa using hj2) (by simpa using hi') hj1
    apply this
    simp [hjx, e]
theorem modeF_ne {g h : G} (hn : h.tx ≠ g.tx) : ∀ hs : List G, modeF (putF g hs) h = modeF hs h := by
  have e : sameKey h g = false := by
    cases k : sameKey h g with
    | true => exact absurd (sk_iff.1 k).2.2.symm hn
    | false => rfl
  intro hs
  induction hs with
  | nil => simp [putF, modeF, e]
  | cons x l ih =>
    unfold putF
    split
    · cases k : sameKey h x with
      | true => simp [modeF, k]
      | false =>
        have : modeF (x :: putF g l) h = modeF (putF g l) h := by simp [modeF, k]
        rw [this, ih]
        simp [modeF, k]
    · split
      · rename_i e0
        have k : sameKey h x = false := by
          cases k : sameKey h x with
          | true => exact absurd ((sk_iff.1 k).2.2.symm.trans (ordI_z.1 e0).2.2) hn
          | false => rfl
        simp [modeF, e, k]
      · simp [modeF, e]
theorem put_srt {g : G} : ∀ {hs : List G}, hs.Pairwise ltG → (putF g hs).Pairwise ltG
  | [], _ => by simp [putF]
  | x :: l, h => by
    obtain ⟨h1, h2⟩ := List.pairwise_cons.1 h
    unfold putF
    split
    · rename_i e
      refine List.pairwise_cons.2 ⟨fun y hy => ?_, put_srt h2⟩
      rcases putF_mem hy with rfl | hy
      · exact ordI_lt.1 e
      · exact h1 y hy
    · rename_i e
      split
      · rename_i e0
        obtain ⟨a1, a2, a3⟩ := ordI_z.1 e0
        exact List.pairwise_cons.2 ⟨fun y hy => ltG_l (h1 y hy) ⟨a1.symm, a2.symm, a3.symm⟩, h2⟩
      · rename_i e0
        have hgx : ltG g x := ltG_tri (fun k => e (ordI_lt.2 k)) (fun k => e0 (ordI_z.2 k))
        refine List.pairwise_cons.2 ⟨fun y hy => ?_, h⟩
        rcases List.mem_cons.1 hy with rfl | hy
        · exact hgx
        · exact ltG_tr hgx (h1 y hy)
theorem put_cf {g : G} : ∀ {hs : List G}, hs.Pairwise (fun a b => conflictB a b = false) → (∀ x ∈ hs, conflictB x g = false) → (putF g hs).Pairwise fun a b => conflictB a b = false
  | [], _, _ => by simp [putF]
  | x :: l, h, hg => by
    obtain ⟨h1, h2⟩ := List.pairwise_cons.1 h
    unfold putF
    split
    · refine List.pairwise_cons.2 ⟨fun y hy => ?_, put_cf h2 fun y hy => hg y (by simp [hy])⟩
      rcases putF_mem hy with rfl | hy
      · exact hg x (by simp)
      · exact h1 y hy
    · split
      · exact List.pairwise_cons.2 ⟨fun y hy => by rw [conflict_symm]; exact hg y (by simp [hy]), h2⟩
      · exact List.pairwise_cons.2 ⟨fun y hy => by rw [conflict_symm]; exact hg y hy, h⟩
theorem TV.step {hs p s : List G} {g : G} (h : TV hs (p ++ g :: s)) (hb : ∀ x, x ∈ hs ++ p → conflictB x g = false) : TV (putF g hs) (p ++ s) := by
  have nd := h.nd
  rw [List.map_append, List.map_cons] at nd
  have hn : ∀ x ∈ p ++ s, x.tx ≠ g.tx := by
    intro x hx e
    have h1 := (List.nodup_append.1 nd)
    rcases List.mem_append.1 hx with hx | hx
    · exact h1.2.2 x.tx (List.mem_map.2 ⟨x, hx, rfl⟩) g.tx (by simp) e
    · exact (List.nodup_cons.1 h1.2.1).1 (e ▸ List.mem_map.2 ⟨x, hx, rfl⟩)
  refine ⟨put_srt h.srt, fun x hx => ?_, put_cf h.cf fun x hx => hb x (List.mem_append_left _ hx), fun x hx => ?_, ?_⟩
  · rcases putF_mem hx with rfl | hx
    · exact (h.vw x (by simp)).1
    · exact h.vh x hx
  · rw [modeF_ne (hn x hx)]
    exact h.vw x (by rcases List.mem_append.1 hx with hx | hx <;> simp [hx])
  · rw [List.map_append]
    exact nd.sublist (List.Sublist.append (List.Sublist.refl _) (List.sublist_cons_self _ _))
theorem TV.ins {hs p s : List G} {g : G} (h : TV hs (p ++ s)) (hv : validG g = true) (hm : modeF hs g < g.mode) (hw : ∀ x ∈ p ++ s, x.tx ≠ g.tx) : TV hs (p ++ g :: s) := by
  refine ⟨h.srt, h.vh, h.cf, fun x hx => ?_, ?_⟩
  · have : x = g ∨ x ∈ p ++ s := by simp at hx; rcases hx with h | h | h <;> simp [h]
    rcases this with rfl | hx
    · exact ⟨hv, hm⟩
    · exact h.vw x hx
  · have nd := h.nd
    rw [List.map_append] at nd
    rw [List.map_append, List.map_cons, List.nodup_append]
    have h1 := List.nodup_append.1 nd
    refine ⟨h1.1, List.nodup_cons.2 ⟨fun hx => ?_, h1.2.1⟩, fun a ha b hb => ?_⟩
    · obtain ⟨x, hx, e⟩ := List.mem_map.1 hx
      exact hw x (by simp [hx]) e
    · rcases List.mem_cons.1 hb with rfl | hb
      · obtain ⟨x, hx, rfl⟩ := List.mem_map.1 ha
        exact hw x (by simp [hx])
      · exact h1.2.2 a ha b hb
theorem modeF_of {hs : List G} {g x : G} (hs' : hs.Pairwise ltG) (hx : x ∈ hs) (hk : sameKey g x = true) : modeF hs g = x.mode := by
  unfold modeF
  cases e : hs.find? (sameKey g) with
  | none => exact absurd hk (by simpa using List.find?_eq_none.1 e x hx)
  | some y =>
    have hy := List.find?_some e
    have hym := List.mem_of_find?_eq_some e
    have : x = y := by
      obtain ⟨i, hi, rfl⟩ := List.mem_iff_getElem.1 hx
      obtain ⟨j, hj, rfl⟩ := List.mem_iff_getElem.1 hym
      obtain ⟨a1, a2, a3⟩ := sk_iff.1 hk
      obtain ⟨b1, b2, b3⟩ := sk_iff.1 hy
      rcases Nat.lt_trichotomy i j with h | h | h
      · have := List.pairwise_iff_getElem.1 hs' i j hi hj h
        unfold ltG at this; omega
      · subst h; rfl
      · have := List.pairwise_iff_getElem.1 hs' j i hj hi h
        unfold ltG at this; omega
    rw [this]
theorem TV.filter {hs ws : List G} (h : TV hs ws) (p q : G → Bool) : TV (hs.filter p) (ws.filter q) := by
  refine ⟨h.srt.filter _, fun g hg => h.vh g (List.mem_filter.1 hg).1, h.cf.filter _, fun g hg => ?_, (h.nd.sublist ?_)⟩
  · obtain ⟨h1, h2⟩ := h.vw g (List.mem_filter.1 hg).1
    refine ⟨h1, ?_⟩
    unfold modeF
    cases e : (hs.filter p).find? (sameKey g) with
    | none => rcases validG_mode h1 with e | e <;> simp [e]
    | some y =>
      have hy := List.find?_some e
      have hym := (List.mem_filter.1 (List.mem_of_find?_eq_some e)).1
      rw [modeF_of h.srt hym hy] at h2
      exact h2
  · exact (List.filter_sublist).map _
end Go.Proofs.YtgjindhjgmplgaaGreat.Wp
end
section
namespace Go.Proofs.YtgjindhjgmplgaaGreat.Wp
open Relation
def placeP (hs : List G) (g x : G) : Bool := (x.tx != g.tx) && sameLock x g && (modeF hs x == 0)
def placeF (hs ws : List G) (g : G) : Nat := if modeF hs g = 0 then ws.length else (ws.findIdx? (placeP hs g)).getD ws.length
def passF : Nat → List G → List G → Nat → Bool → List G × List G × Bool
  | 0, hs, ws, _, c => (hs, ws, c)
  | k + 1, hs, ws, i, c => match ws[i]? with
    | none => (hs, ws, c)
    | some g => if blockedB hs ws i then passF k hs ws (i + 1) c else passF k (putF g hs) (ws.eraseIdx i) i true
def settleF : Nat → List G → List G → List G × List G
  | 0, hs, ws => (hs, ws)
  | k + 1, hs, ws => if (passF ws.length hs ws 0 false).2.2 then settleF k (passF ws.length hs ws 0 false).1 (passF ws.length hs ws 0 false).2.1 else ((passF ws.length hs ws 0 false).1, (passF ws.length hs ws 0 false).2.1)
def settle (hs ws : List G) : List G × List G := settleF (ws.length + 1) hs ws
inductive Sts : List G → List G → List G → List G → Prop
  | refl {hs ws : List G} : Sts hs ws hs ws
  | step {hs p s hs' ws' : List G} {g : G} (hb : ∀ x, x ∈ hs ++ p → conflictB x g = false) (t : Sts (putF g hs) (p ++ s) hs' ws') : Sts hs (p ++ g :: s) hs' ws'
theorem Sts.trans {a b c d e f : List G} (h : Sts a b c d) (k : Sts c d e f) : Sts a b e f := by
  induction h with
  | refl => exact k
  | step hb _ ih => exact .step hb (ih k)
theorem Sts.tv {hs ws hs' ws' : List G} (h : Sts hs ws hs' ws') (t : TV hs ws) : TV hs' ws' := by
  induction h with
  | refl => exact t
  | step hb _ ih => exact ih (t.step hb)
theorem Sts.ed {hs ws hs' ws' : List G} (h : Sts hs ws hs' ws') {a b : Int} (e : Ed hs' ws' a b) : Ed hs ws a b := by
  induction h with
  | refl => exact e
  | step hb _ ih => exact (ih e).step hb
theorem Sts.mem {hs ws hs' ws' : List G} (h : Sts hs ws hs' ws') {x : G} (e : x ∈ hs' ++ ws') : x ∈ hs ++ ws := by
  induction h with
  | refl => exact e
  | step hb _ ih =>
    rcases List.mem_append.1 (ih e) with h | h
    · rcases putF_mem h with rfl | h
      · simp
      · simp [h]
    · rcases List.mem_append.1 h with h | h <;> simp [h]
theorem Sts.wait {hs ws hs' ws' : List G} (h : Sts hs ws hs' ws') {x : G} (e : x ∈ ws') : x ∈ ws := by
  induction h with
  | refl => exact e
  | step hb _ ih => rcases List.mem_append.1 (ih e) with h | h <;> simp [h]
theorem cut_at {l : List G} {i : Nat} {g : G} (h : l[i]? = some g) : l = l.take i ++ g :: l.drop (i + 1) := by
  obtain ⟨hi, rfl⟩ := List.getElem?_eq_some_iff.1 h
  rw [List.getElem_cons_drop, List.take_append_drop]
theorem passF_sts : ∀ (k : Nat) (hs ws : List G) (i : Nat) (c : Bool), Sts hs ws (passF k hs ws i c).1 (passF k hs ws i c).2.1
  | 0, _, _, _, _ => .refl
  | k + 1, hs, ws, i, c => by
    unfold passF
    split
    · exact .refl
    · rename_i g e
      split
      · exact passF_sts k hs ws (i + 1) c
      · rename_i hb
        have hb' : blockedB hs ws i = false := by simpa using hb
        unfold blockedB at hb'
        rw [e] at hb'
        simp only [Bool.or_eq_false_iff, List.any_eq_false] at hb'
        have hc := cut_at e
        have he : ws.eraseIdx i = ws.take i ++ ws.drop (i + 1) := List.eraseIdx_eq_take_drop_succ _ _
        rw [he]
        have := Sts.step (hs := hs) (p := ws.take i) (s := ws.drop (i + 1)) (g := g) (fun x hx => by
          rcases List.mem_append.1 hx with hx | hx
          · simpa using hb'.1 x hx
          · simpa using hb'.2 x hx) (passF_sts k (putF g hs) (ws.take i ++ ws.drop (i + 1)) i true)
        rw [← hc] at this
        exact this
theorem settleF_sts : ∀ (k : Nat) (hs ws : List G), Sts hs ws (settleF k hs ws).1 (settleF k hs ws).2
  | 0, _, _ => .refl
  | k + 1, hs, ws => by
    unfold settleF
    split
    · exact (passF_sts _ hs ws 0 false).trans (settleF_sts k _ _)
    · exact passF_sts _ hs ws 0 false
theorem settle_sts (hs ws : List G) : Sts hs ws (settle hs ws).1 (settle hs ws).2 := settleF_sts _ _ _
def small (g : G) : Prop := 1 ≤ g.tx ∧ g.tx ≤ 5 ∧ 0 ≤ g.page ∧ g.page ≤ 1 ∧ 0 ≤ g.slot ∧ g.slot ≤ 1
structure Good (hs ws : List G) : Prop where
  tv : TV hs ws
  ac : Acyc (Ed hs ws)
  sm : ∀ x ∈ hs ++ ws, small x
def U5 : List Int := [1, 2, 3, 4, 5]
theorem small_tx {g : G} (h : small g) : g.tx ∈ U5 := by
  obtain ⟨h1, h2, _⟩ := h
  have : g.tx = 1 ∨ g.tx = 2 ∨ g.tx = 3 ∨ g.tx = 4 ∨ g.tx = 5 := by omega
  unfold U5
  rcases this with e | e | e | e | e <;> simp [e]
def keyI (g : G) : Int := g.page * 10 + g.slot * 5 + (g.tx - 1)
theorem len_ok {hs ws : List G} (t : TV hs ws) (s : ∀ x ∈ hs ++ ws, small x) : hs.length ≤ 20 ∧ ws.length ≤ 5 := by
  constructor
  · have h1 : (hs.map keyI).Nodup := by
      rw [List.Nodup, List.pairwise_map, List.pairwise_iff_getElem]
      intro i j hi hj hij
      have h2 := List.pairwise_iff_getElem.1 t.srt i j hi hj hij
      have a := s _ (List.mem_append_left ws (List.getElem_mem hi))
      have b := s _ (List.mem_append_left ws (List.getElem_mem hj))
      unfold ltG at h2
      unfold small at a b
      unfold keyI
      omega
    have h2 := nodup_le (hs.map keyI) ((List.range 20).map Int.ofNat) h1 fun x hx => by
      obtain ⟨g, hg, rfl⟩ := List.mem_map.1 hx
      have a := s _ (List.mem_append_left ws hg)
      unfold small at a
      unfold keyI
      exact List.mem_map.2 ⟨(g.page * 10 + g.slot * 5 + (g.tx - 1)).toNat, List.mem_range.2 (by omega), by show (((g.page * 10 + g.slot * 5 + (g.tx - 1)).toNat : Nat) : Int) = _; omega⟩
    simpa using h2
  · have h2 := nodup_le (ws.map G.tx) U5 t.nd fun x hx => by
      obtain ⟨g, hg, rfl⟩ := List.mem_map.1 hx
      exact small_tx (s g (by simp [hg]))
    simpa [U5] using h2
theorem Good.valid {hs ws : List G} (t : TV hs ws) (s : ∀ x ∈ hs ++ ws, small x) : validT hs ws = true := t.ok (by have := len_ok t s; omega)
theorem compact_iff {ns : List Int} {x : Int} : x ∈ Lib.compact ns ↔ x ∈ ns := by
  unfold Lib.compact Lib.compactUpTo
  constructor
  · intro h
    obtain ⟨i, hi, rfl⟩ := List.mem_map.1 h
    have hi2 : i < ns.length := by simpa using (List.mem_filter.1 hi).1
    simp [hi2]
  · intro h
    obtain ⟨i, hi⟩ : ∃ i, ns.findIdx? (fun y => y == x) = some i := by
      cases e : ns.findIdx? (fun y => y == x) with
      | some i => exact ⟨i, rfl⟩
      | none => have := List.findIdx?_eq_none_iff.1 e x h; simp at this
    obtain ⟨h1, h2, h3⟩ := List.findIdx?_eq_some_iff_getElem.1 hi
    have h2' : ns[i] = x := by simpa using h2
    refine List.mem_map.2 ⟨i, List.mem_filter.2 ⟨List.mem_range.2 h1, ?_⟩, by simp [h1, h2']⟩
    unfold Lib.keeps
    cases i with
    | zero => simp
    | succ k =>
      have := h3 k (by omega)
      have hk : k < ns.length := by omega
      simp [h1, hk, h2'] at this ⊢
      exact fun e => this e.symm
theorem block_iff {hs ws : List G} (t : TV hs ws) {a b : Int} : b ∈ blockF hs ws a ↔ Ed hs ws a b := by
  unfold blockF
  constructor
  · intro h
    cases e : ws.findIdx? (fun x => x.tx == a) with
    | none => rw [e] at h; cases h
    | some i =>
      rw [e] at h
      obtain ⟨h1, h2, _⟩ := List.findIdx?_eq_some_iff_getElem.1 e
      have h3 : ws[i]? = some ws[i] := List.getElem?_eq_getElem h1
      simp only [h3] at h
      rw [compact_iff] at h
      unfold sortI at h
      rw [List.mem_mergeSort] at h
      unfold outsF at h
      obtain ⟨x, hx, rfl⟩ := List.mem_map.1 h
      obtain ⟨hx1, hx2⟩ := List.mem_filter.1 hx
      exact ⟨ws.take i, ws[i], ws.drop (i + 1), cut_at h3, by simpa using h2, x, hx1, hx2, rfl⟩
  · rintro ⟨p, g, s, rfl, rfl, x, hx, hc, rfl⟩
    have nd := t.nd
    rw [List.map_append, List.map_cons] at nd
    have h1 := List.nodup_append.1 nd
    have e : (p ++ g :: s).findIdx? (fun x => x.tx == g.tx) = some p.length := by
      rw [List.findIdx?_eq_some_iff_getElem]
      refine ⟨by simp, by simp, fun j hj => ?_⟩
      rw [List.getElem_append_left hj]
      have := h1.2.2 (p[j]).tx (List.mem_map.2 ⟨_, List.getElem_mem hj, rfl⟩) g.tx (by simp)
      simpa using this
    rw [e]
    simp only [List.getElem?_append_right (Nat.le_refl _), Nat.sub_self, List.getElem?_cons_zero, List.take_left']
    rw [compact_iff]
    unfold sortI
    rw [List.mem_mergeSort]
    exact List.mem_map.2 ⟨x, List.mem_filter.2 ⟨by simpa using hx, hc⟩, rfl⟩
end Go.Proofs.YtgjindhjgmplgaaGreat.Wp
end
section
namespace Go.Proofs.YtgjindhjgmplgaaGreat.Wp
open Relation
def univ (hs ws : List G) (tx : Int) : List Int := tx :: (hs ++ ws).map G.tx
def cycF (hs ws : List G) (tx : Int) : List Int := if validT hs ws then bfsF (blockF hs ws) tx (univ hs ws tx).length [tx] [[tx]] else []
def forF (hs ws : List G) (tx : Int) : List Int := if validT hs ws then blockF hs ws tx else []
def sameG (a b : G) : Bool := (a.tx == b.tx) && sameLock a b && (a.mode == b.mode)
def reqF (hs ws : List G) (g : G) : Option (List G × List G × Bool) :=
  if validT hs ws && validG g then
    match ws.find? (fun x => x.tx == g.tx) with
    | some w => if sameG w g then some (hs, ws, false) else none
    | none => if g.mode ≤ modeF hs g then some (hs, ws, true) else if hs.length + ws.length = 1024 then none else
      some ((settle hs (ws.take (placeF hs ws g) ++ g :: ws.drop (placeF hs ws g))).1, (settle hs (ws.take (placeF hs ws g) ++ g :: ws.drop (placeF hs ws g))).2, decide (g.mode ≤ modeF (settle hs (ws.take (placeF hs ws g) ++ g :: ws.drop (placeF hs ws g))).1 g))
  else none
def withoutF (p q : G → Bool) (hs ws : List G) : List G × List G := if validT hs ws then settle (hs.filter fun g => !p g) (ws.filter fun g => !q g) else (hs, ws)
def cancelF (tx : Int) : List G → List G → List G × List G := withoutF (fun _ => false) fun g => g.tx == tx
def dropF (k : G) : List G → List G → List G × List G := withoutF (fun g => (g.tx == k.tx) && sameLock g k) fun _ => false
def releaseF (tx : Int) : List G → List G → List G × List G := withoutF (fun g => g.tx == tx) fun g => g.tx == tx
theorem Good.empty : Good [] [] := by
  refine ⟨⟨.nil, by simp, .nil, by simp, by simp⟩, fun a t => ?_, by simp⟩
  have no : ∀ {a b : Int}, TransGen (Ed [] []) a b → False := by
    intro a b t
    induction t with
    | single h => obtain ⟨g, hg, _⟩ := h.src; cases hg
    | tail _ _ ih => exact ih
  exact no t
theorem cyc_iff {hs ws : List G} (t : TV hs ws) (s : ∀ x ∈ hs ++ ws, small x) (a : Int) : cycF hs ws a = [] ↔ ¬ TransGen (Ed hs ws) a a := by
  unfold cycF
  rw [if_pos (Good.valid t s)]
  have hU : ∀ x, ∀ b ∈ blockF hs ws x, b ∈ univ hs ws a := fun x b hb => by
    obtain ⟨g, hg, rfl⟩ := ((block_iff t).1 hb).dst
    exact List.mem_cons_of_mem _ (List.mem_map.2 ⟨g, hg, rfl⟩)
  rw [bfs_iff hU (by simp [univ])]
  exact ⟨fun h k => h (tg_mono (fun x b e => (block_iff t).2 e) k), fun h k => h (tg_mono (fun x b e => (block_iff t).1 e) k)⟩
structure Req (hs ws : List G) (g : G) (u v : List G) : Prop where
  tv : TV u v
  sm : ∀ x ∈ u ++ v, small x
  ed : ∀ a b, Ed u v a b → Ed hs ws a b ∨ a = g.tx ∨ b = g.tx
theorem Req.good {hs ws u v : List G} {g : G} (h : Good hs ws) (r : Req hs ws g u v) (hc : cycF u v g.tx = []) : Good u v :=
  ⟨r.tv, h.ac.new r.ed ((cyc_iff r.tv r.sm g.tx).1 hc), r.sm⟩
theorem Req.cancel {hs ws u v : List G} {g : G} (h : Good hs ws) (r : Req hs ws g u v) : Good (cancelF g.tx u v).1 (cancelF g.tx u v).2 := by
  unfold cancelF withoutF
  rw [if_pos (Good.valid r.tv r.sm)]
  have st := settle_sts (u.filter fun _ => !false) (v.filter fun x => !(x.tx == g.tx))
  refine ⟨st.tv (r.tv.filter _ _), h.ac.cut r.ed fun a b k => ⟨(st.ed k).filter, fun e => ?_⟩, fun x hx => r.sm x ?_⟩
  · obtain ⟨y, hy, ey⟩ := (st.ed k).src
    have := (List.mem_filter.1 hy).2
    simp [ey, e] at this
  · rcases List.mem_append.1 (st.mem hx) with k | k
    · exact List.mem_append_left _ (List.mem_filter.1 k).1
    · exact List.mem_append_right _ (List.mem_filter.1 k).1
theorem Good.asks {hs ws : List G} (h : Good hs ws) {a : Int} (ha : a ∈ U5) : validT hs ws = true ∧ cycF hs ws a = [] ∧ chainF (forF hs ws) 5 a = true := by
  refine ⟨Good.valid h.tv h.sm, (cyc_iff h.tv h.sm a).2 (h.ac a), ?_⟩
  have e : forF hs ws = blockF hs ws := by funext x; unfold forF; rw [if_pos (Good.valid h.tv h.sm)]
  rw [e]
  have hU : ∀ x, ∀ b ∈ blockF hs ws x, b ∈ U5 := fun x b hb => by
    obtain ⟨g, hg, rfl⟩ := ((block_iff h.tv).1 hb).dst
    exact small_tx (h.sm g hg)
  exact chain_ok (U := U5) (h.ac.mono fun x b k => (block_iff h.tv).1 k) hU ha
end Go.Proofs.YtgjindhjgmplgaaGreat.Wp
end
section
namespace Go.Proofs.YtgjindhjgmplgaaGreat.Wp
structure Found (gs : List G) (t : G) (i : Nat) : Prop where
  le : i ≤ gs.length
  before : ∀ (j : Nat) (x : G), j < i → gs[j]? = some x → ltG x t
  behind : ∀ (j : Nat) (x : G), i ≤ j → gs[j]? = some x → ¬ ltG x t
def hitB (gs : List G) (t : G) (i : Nat) : Bool := match gs[i]? with | some x => ordI x t == 0 | none => false
theorem Found.tail {x t : G} {l : List G} {i : Nat} (h : Found (x :: l) t (i + 1)) : Found l t i :=
  ⟨by have := h.le; simpa using this, fun j y hj hy => h.before (j + 1) y (by omega) (by simpa using hy), fun j y hj hy => h.behind (j + 1) y (by omega) (by simpa using hy)⟩
theorem put_hit {g : G} : ∀ {hs : List G} {i : Nat}, Found hs g i → hitB hs g i = true → putF g hs = hs.set i g
  | [], i, h, k => by unfold hitB at k; simp at k
  | x :: l, 0, h, k => by
    have e : ordI x g = 0 := by unfold hitB at k; simpa using k
    unfold putF
    rw [if_neg (by omega), if_pos e]; rfl
  | x :: l, i + 1, h, k => by
    have e := ordI_lt.2 (h.before 0 x (by omega) (by simp))
    unfold putF
    rw [if_pos e, put_hit h.tail (by unfold hitB at k ⊢; simpa using k)]; rfl
theorem put_new {g : G} : ∀ {hs : List G} {i : Nat}, Found hs g i → hitB hs g i = false → putF g hs = hs.take i ++ g :: hs.drop i
  | [], i, h, k => by
    have := h.le
    simp at this; subst this; rfl
  | x :: l, 0, h, k => by
    have e : ¬ ordI x g = 0 := by unfold hitB at k; simpa using k
    have e2 := fun q => h.behind 0 x (by omega) (by simp) (ordI_lt.1 q)
    unfold putF
    rw [if_neg e2, if_neg e]; rfl
  | x :: l, i + 1, h, k => by
    have e := ordI_lt.2 (h.before 0 x (by omega) (by simp))
    unfold putF
    rw [if_pos e, put_new h.tail (by unfold hitB at k ⊢; simpa using k)]; rfl
theorem found_mode {hs : List G} {t : G} {i : Nat} (hs' : hs.Pairwise ltG) (h : Found hs t i) : modeF hs t = match hs[i]? with | some x => if ordI x t = 0 then x.mode else 0 | none => 0 := by
  have none_of : (∀ x ∈ hs, sameKey t x = false) → modeF hs t = 0 := fun hn => by
    unfold modeF
    rw [List.find?_eq_none.2 fun x hx => by simp [hn x hx]]
  have only : ∀ x ∈ hs, sameKey t x = true → hs[i]? = some x := by
    intro x hx hk
    obtain ⟨j, hj, rfl⟩ := List.mem_iff_getElem.1 hx
    have hz := sk_iff.1 hk
    rcases Nat.lt_trichotomy j i with q | q | q
    · have := h.before j _ q (List.getElem?_eq_getElem hj)
      unfold ltG at this; omega
    · subst q; exact List.getElem?_eq_getElem hj
    · have hi : i < hs.length := by omega
      have h1 := h.behind i _ (Nat.le_refl _) (List.getElem?_eq_getElem hi)
      have h2 := List.pairwise_iff_getElem.1 hs' i j hi hj q
      exact absurd (by unfold ltG at *; omega) h1
  cases e : hs[i]? with
  | none =>
    refine none_of fun x hx => ?_
    cases k : sameKey t x with
    | true => rw [only x hx k] at e; cases e
    | false => rfl
  | some x =>
    have hx := List.mem_of_getElem? e
    show _ = if ordI x t = 0 then x.mode else 0
    by_cases hz : ordI x t = 0
    · rw [if_pos hz, modeF_of hs' hx (sk_iff.2 (ordI_z.1 hz))]
    · rw [if_neg hz]
      refine none_of fun y hy => ?_
      cases k : sameKey t y with
      | true =>
        have := only y hy k
        rw [e] at this
        cases this
        exact absurd (ordI_z.2 (sk_iff.1 k)) hz
      | false => rfl
end Go.Proofs.YtgjindhjgmplgaaGreat.Wp
end
section
namespace Go.Proofs.YtgjindhjgmplgaaGreat.Wp
def ltB (a b : G) : Bool := if a.page ≠ b.page then decide (a.page < b.page) else if a.slot ≠ b.slot then decide (a.slot < b.slot) else decide (a.tx < b.tx)
theorem ltB_iff {a b : G} : ltB a b = true ↔ ltG a b := by
  unfold ltB ltG
  by_cases h1 : a.page = b.page
  · by_cases h2 : a.slot = b.slot
    · simp [h1, h2]
    · simp [h1, h2]
  · simp [h1]
def backF (hs : List G) (g : G) : Nat → Bool
  | 0 => true
  | k + 1 => match hs[k]? with
    | some y => if sameLock y g then (if conflictB y g then false else backF hs g k) else true
    | none => true
def refHeldAt (hs : List G) (i : Nat) : Bool := match hs[i]? with
  | some g => validG g && (match i with | 0 => true | k + 1 => match hs[k]? with | some y => ltB y g | none => true) && backF hs g i
  | none => true
def refValid (hs ws : List G) : Bool := decide (hs.length + ws.length ≤ 1024) && (List.range hs.length).all (refHeldAt hs) && waitOk hs ws
theorem back_ok {hs : List G} (cf : hs.Pairwise fun a b => conflictB a b = false) {i : Nat} {g : G} (hi : hs[i]? = some g) : ∀ k, k ≤ i → backF hs g k = true
  | 0, _ => rfl
  | k + 1, hk => by
    obtain ⟨h1, rfl⟩ := List.getElem?_eq_some_iff.1 hi
    have h2 : k < hs.length := by omega
    unfold backF
    rw [List.getElem?_eq_getElem h2]
    have := List.pairwise_iff_getElem.1 cf k i h2 h1 (by omega)
    simp only [this, Bool.false_eq_true, if_false]
    split
    · exact back_ok cf hi k (by omega)
    · rfl
theorem TV.ref {hs ws : List G} (h : TV hs ws) (hl : hs.length + ws.length ≤ 1024) : refValid hs ws = true := by
  have hv := h.ok hl
  unfold validT at hv
  simp only [Bool.and_eq_true] at hv
  unfold refValid
  simp only [Bool.and_eq_true]
  refine ⟨⟨hv.1.1, ?_⟩, hv.2⟩
  rw [List.all_eq_true]
  intro i hi
  have hi' : i < hs.length := by simpa using hi
  have e : hs[i]? = some hs[i] := List.getElem?_eq_getElem hi'
  unfold refHeldAt
  rw [e]
  simp only [Bool.and_eq_true]
  refine ⟨⟨h.vh _ (List.getElem_mem hi'), ?_⟩, back_ok h.cf e i (Nat.le_refl _)⟩
  cases i with
  | zero => rfl
  | succ k =>
    have hk : k < hs.length := by omega
    simp only [List.getElem?_eq_getElem hk]
    exact ltB_iff.2 (List.pairwise_iff_getElem.1 h.srt k (k + 1) hk hi' (by omega))
theorem Good.ref {hs ws : List G} (h : Good hs ws) : refValid hs ws = true := h.tv.ref (by have := len_ok h.tv h.sm; omega)
end Go.Proofs.YtgjindhjgmplgaaGreat.Wp
end
