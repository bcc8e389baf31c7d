/-
  A verified evaluator: regions that draw their order are evaluated soundly. No function of the program is named here.
-/
import Derived.Test.YtmbbciidknchiaaGreatEnY
namespace Go.Proofs.YtmbbciidknchiaaGreat
section
variable {P : Program} {E : Env} {call : CallF} {l : List (AOp × AK)} {fr fr' : Fr} {h h' : Hp} {past pf : List Hp} {rid : Bid} {rs : List Rec}
/-- a number is fresh until it is used -/
theorem trc_fresh (t : Trc P E call l fr h past rid rs fr' h' pf) : ∀ r ∈ rs, r.made.isSome = true → ∀ s ∈ line past h, s.get r.rid = none := by
  induction t with
  | nil => intro r hr; cases hr
  | skip hw t ih =>
    rename_i o k l fr fr' h h' past pf rid rs
    intro r hr hm s hs
    rcases List.mem_cons.1 hr with rfl | hr
    · cases hm
    · refine ih r hr hm s ?_
      cases k with
      | effect => show s ∈ line (h :: past) h; rw [line_cons]; exact List.mem_append_left _ hs
      | _ => exact hs
  | pure hw ho t ih =>
    intro r hr hm s hs
    rcases List.mem_cons.1 hr with rfl | hr
    · cases hm
    · exact ih r hr hm s hs
  | read hw ho hsi t ih =>
    intro r hr hm s hs
    rcases List.mem_cons.1 hr with rfl | hr
    · cases hm
    · exact ih r hr hm s hs
  | make hw ho hb hri hn t ih =>
    rename_i o l fr fr' h h' h1 past pf rid r1 rs v b
    intro r hr hm s hs
    rcases List.mem_cons.1 hr with rfl | hr
    · exact fresh_of hn (line_mem.1 hs)
    · have := ih r hr hm (s.putB rid (some b)) (by rw [line_put]; exact List.mem_map_of_mem hs)
      by_cases hne : r.rid = rid
      · rw [hne, Hp.get_putB] at this; cases this
      · rwa [Hp.get_putB_ne hne] at this
  | effect hw ho t ih =>
    intro r hr hm s hs
    rcases List.mem_cons.1 hr with rfl | hr
    · cases hm
    · exact ih r hr hm s (by rw [line_cons]; exact List.mem_append_left _ hs)
theorem drop_at {α : Type} {l : List α} {p : Nat} {x : α} (h : l[p]? = some x) : l.drop p = x :: l.drop (p + 1) := by
  obtain ⟨hlt, rfl⟩ := List.getElem?_eq_some_iff.1 h
  exact List.drop_eq_getElem_cons hlt
/-- what was made is there at the end -/
theorem made_final (t : Trc P E call l fr h past rid rs fr' h' pf) {q : Nat} {r : Rec} (hr : rs[q]? = some r) {b : AB} (hm : r.made = some b) {i : Nat} (hi : i ≤ r.past.length) : ∃ s, (line pf h')[i]? = some s ∧ s.get r.rid = some b := by
  have t1 := trc_at t q r hr
  rw [drop_at hr] at t1
  have hlt : q < l.length := by rw [← trc_len t]; exact (List.getElem?_eq_some_iff.1 hr).1
  rw [List.drop_eq_getElem_cons hlt] at t1
  have hex : i < (line r.past r.h).length := by rw [line_len]; omega
  generalize l[q] = x at t1
  obtain ⟨rb, rv, rfr, rh, rpast, rrid, rmade⟩ := r
  dsimp only at t1 hm hi hex ⊢
  cases t1 with
  | make hw ho hb hri hn t2 =>
    cases hm
    obtain ⟨s', h2, g⟩ := trc_grow t2 i (((line _ _)[i]'hex).putB _ (some b)) (by rw [line_put, List.getElem?_map, List.getElem?_eq_getElem hex]; rfl)
    exact ⟨s', h2, g.keep _ _ (Hp.get_putB _ _ _)⟩
  | _ => cases hm
theorem rid_lt (t : Trc P E call l fr h past rid rs fr' h' pf) {q q' : Nat} {r r' : Rec} (hr : rs[q]? = some r) (hr' : rs[q']? = some r') (hm : r.made.isSome = true) (hq : q < q') : r.rid.num < r'.rid.num := by
  have t1 := trc_at t q r hr
  rw [drop_at hr] at t1
  have hlt : q < l.length := by rw [← trc_len t]; exact (List.getElem?_eq_some_iff.1 hr).1
  rw [List.drop_eq_getElem_cons hlt] at t1
  generalize l[q] = x at t1
  have hmem : r' ∈ rs.drop (q + 1) := by
    refine List.mem_of_getElem? (i := q' - (q + 1)) ?_
    rw [List.getElem?_drop, show q + 1 + (q' - (q + 1)) = q' by omega]
    exact hr'
  obtain ⟨rb, rv, rfr, rh, rpast, rrid, rmade⟩ := r
  dsimp only at t1 hm ⊢
  cases t1 with
  | make hw ho hb hri hn t2 =>
    have := trc_rid t2 r' hmem
    have := Bid.inc_num hri
    omega
  | _ => cases hm
theorem rid_inj (t : Trc P E call l fr h past rid rs fr' h' pf) {q q' : Nat} {r r' : Rec} (hr : rs[q]? = some r) (hr' : rs[q']? = some r') (hm : r.made.isSome = true) (hm' : r'.made.isSome = true) (he : r.rid = r'.rid) : q = q' := by
  rcases Nat.lt_trichotomy q q' with h1 | h1 | h1
  · have := rid_lt t hr hr' hm h1; rw [he] at this; omega
  · exact h1
  · have := rid_lt t hr' hr hm' h1; rw [he] at this; omega
theorem effN_mono (l : List (AOp × AK)) {b p : Nat} (h : b ≤ p) : effN l b ≤ effN l p := by
  unfold effN
  exact List.Sublist.length_le (List.Sublist.filter _ (List.take_sublist_take_left h))
theorem effN_const {b : Nat} : ∀ {p : Nat}, b ≤ p → p ≤ l.length → (∀ q o k, b ≤ q → q < p → l[q]? = some (o, k) → isEff k = false) → effN l b = effN l p
  | 0, hb, _, _ => by rw [Nat.le_zero.1 hb]
  | p + 1, hb, hp, hq => by
    rcases Nat.lt_or_ge p b with h1 | h1
    · rw [show b = p + 1 by omega]
    · have hlt : p < l.length := hp
      have ho : l[p]? = some (l[p].1, l[p].2) := List.getElem?_eq_getElem hlt
      rw [effN_succ ho, hq p _ _ h1 (by omega) ho, effN_const h1 (by omega) fun q o k h2 h3 => hq q o k h2 (by omega)]
      rfl
theorem sameIn_get {o : AO} {v : AV} : ∀ {n : Nat} {past : List Hp}, sameIn P E o fr v n past = true → ∀ (k : Nat) s, k < n → past[k]? = some s → ∃ h1, aop P E noCall o fr s = .ok v h1
  | 0, _, _, k, s, hk, _ => by omega
  | n + 1, [], e, _, _, _, _ => by cases e
  | n + 1, g :: past, e, k, s, hk, hs => by
    have e' : ((match aop P E noCall o fr g with | .ok u _ => AV.beq u v | .no => false) && sameIn P E o fr v n past) = true := e
    rw [Bool.and_eq_true] at e'
    cases k with
    | zero =>
      simp at hs
      subst hs
      cases hop : aop P E noCall o fr g with
      | no => rw [hop] at e'; exact absurd e'.1 (by simp)
      | ok u h1 =>
        rw [hop] at e'
        have : AV.beq u v = true := e'.1
        refine ⟨h1, ?_⟩
        congr 1
        cases u <;> cases v <;> first | (exact absurd this Bool.false_ne_true) | (have h2 : decide _ = true := this; rw [of_decide_eq_true h2])
    | succ k => exact sameIn_get e'.2 k s (by omega) (by simpa using hs)
theorem exists_drop : ∀ (ids : List Bid) (S : Hp), ∃ H : Hp, H.next = S.next ∧ (∀ id, id ∈ ids → H.get id = none) ∧ (∀ id, id ∉ ids → H.get id = S.get id)
  | [], S => ⟨S, rfl, fun id h => absurd h List.not_mem_nil, fun _ _ => rfl⟩
  | i :: ids, S => by
    obtain ⟨H, h1, h2, h3⟩ := exists_drop ids S
    refine ⟨H.putB i none, by rw [Hp.next_putB, h1], fun id hid => ?_, fun id hid => ?_⟩
    · by_cases he : id = i
      · subst he; exact Hp.get_putB _ _ _
      · rw [Hp.get_putB_ne he]
        exact h2 id ((List.mem_cons.1 hid).resolve_left he)
    · rw [Hp.get_putB_ne fun he => hid (by rw [he]; exact List.mem_cons_self)]
      exact h3 id fun hm => hid (List.mem_cons_of_mem _ hm)
theorem line_get {past : List Hp} {h : Hp} {j : Nat} (hj : j < past.length) : (line past h)[j]? = past[past.length - 1 - j]? := by
  unfold line
  rw [List.getElem?_append_left (by simpa using hj), List.getElem?_reverse hj]
theorem line_last {past : List Hp} {h : Hp} : (line past h)[past.length]? = some h := by
  unfold line
  rw [List.getElem?_append_right (by simp)]
  simp
end
theorem Hp.get_raise (m : Bid) (H : Hp) (id : Bid) : (Hp.mk m H.bl).get id = H.get id := by cases H; rfl
theorem Stp.raise {ρ : Vn} {φ0 φ : Emb} {h0 H : Hp} {w0 w : World} (S : Stp ρ φ0 h0 w0 φ H w) {m : Bid} (hm : H.next.num ≤ m.num) : Stp ρ φ0 h0 w0 φ ⟨m, H.bl⟩ w :=
  ⟨S.le, ⟨fun id c hc => S.rel.cells id c (by rw [← Hp.get_raise m]; exact hc), fun id l hl => S.rel.maps id l (by rw [← Hp.get_raise m]; exact hl), fun i j x y hi hj => S.rel.inj i j x y (by rw [← Hp.get_raise m]; exact hi) (by rw [← Hp.get_raise m]; exact hj),
    fun i hi => Nat.lt_of_lt_of_le (S.rel.low i (by rw [← Hp.get_raise m]; exact hi)) hm, fun i hi => S.rel.free i (Nat.le_trans hm hi)⟩, S.size, S.frame, fun i x hi => S.sub i x (by rw [← Hp.get_raise m]; exact hi), Nat.le_trans S.next hm, S.dom, S.os, S.tape, S.output⟩
/-- the checks, as facts -/
theorem perm_ok {n : Nat} {order : List Nat} (h : drawPerm n order = true) : order.length = n ∧ (∀ i, i < n → ∃ p, p < n ∧ order.getD p 0 = i) ∧ (∀ p, p < n → order.getD p 0 < n) ∧ (∀ p q, p < q → q < n → order.getD p 0 ≠ order.getD q 0) := by
  simp only [drawPerm, Bool.and_eq_true, List.all_eq_true, List.mem_range, beq_iff_eq, decide_eq_true_eq, Bool.not_eq_true', beq_eq_false_iff_ne, ne_eq] at h
  obtain ⟨⟨⟨h1, h2⟩, h3⟩, h4⟩ := h
  refine ⟨h1, fun i hi => ?_, fun p hp => ?_, fun p q hpq hq => h4 q hq p hpq⟩
  · have hm : i ∈ order := by simpa using h2 i hi
    obtain ⟨p, hp, he⟩ := List.getElem_of_mem hm
    exact ⟨p, by omega, by simp [List.getD, hp, he]⟩
  · have hp' : p < order.length := by omega
    have : order.getD p 0 = order[p] := by simp [List.getD, hp']
    rw [this]
    exact h3 _ (List.getElem_mem hp')
theorem kind_le (ao : AO) : kindOf ao ≤ 3 := by cases ao <;> simp [kindOf]
section
variable {bm ks order : List Nat} {n i : Nat} {ao : AO}
theorem ak_cases : (kindOf ao = 0 ∧ akOf bm ks order n i ao = .pure) ∨ (kindOf ao = 1 ∧ akOf bm ks order n i ao = .read (loOf bm ks order n i)) ∨ (kindOf ao = 2 ∧ akOf bm ks order n i ao = .make) ∨ (kindOf ao = 3 ∧ akOf bm ks order n i ao = .effect) := by
  have := kind_le ao
  have hc : kindOf ao = 0 ∨ kindOf ao = 1 ∨ kindOf ao = 2 ∨ kindOf ao = 3 := by omega
  unfold akOf
  rcases hc with h | h | h | h <;> rw [h] <;> simp
theorem ak_pure (h : akOf bm ks order n i ao = .pure) : kindOf ao = 0 := by
  rcases ak_cases (bm := bm) (ks := ks) (order := order) (n := n) (i := i) (ao := ao) with ⟨h1, h2⟩ | ⟨h1, h2⟩ | ⟨h1, h2⟩ | ⟨h1, h2⟩ <;> rw [h] at h2 <;> first | exact h1 | cases h2
theorem ak_read {lo : Nat} (h : akOf bm ks order n i ao = .read lo) : kindOf ao = 1 ∧ lo = loOf bm ks order n i := by
  rcases ak_cases (bm := bm) (ks := ks) (order := order) (n := n) (i := i) (ao := ao) with ⟨h1, h2⟩ | ⟨h1, h2⟩ | ⟨h1, h2⟩ | ⟨h1, h2⟩ <;> rw [h] at h2 <;> cases h2
  exact ⟨h1, rfl⟩
theorem ak_make (h : akOf bm ks order n i ao = .make) : kindOf ao = 2 := by
  rcases ak_cases (bm := bm) (ks := ks) (order := order) (n := n) (i := i) (ao := ao) with ⟨h1, h2⟩ | ⟨h1, h2⟩ | ⟨h1, h2⟩ | ⟨h1, h2⟩ <;> rw [h] at h2 <;> first | exact h1 | cases h2
theorem ak_eff (h : akOf bm ks order n i ao = .effect) : kindOf ao = 3 := by
  rcases ak_cases (bm := bm) (ks := ks) (order := order) (n := n) (i := i) (ao := ao) with ⟨h1, h2⟩ | ⟨h1, h2⟩ | ⟨h1, h2⟩ | ⟨h1, h2⟩ <;> rw [h] at h2 <;> first | exact h1 | cases h2
theorem ak_eff' : isEff (akOf bm ks order n i ao) = true ↔ kindOf ao = 3 := by
  rcases ak_cases (bm := bm) (ks := ks) (order := order) (n := n) (i := i) (ao := ao) with ⟨h1, h2⟩ | ⟨h1, h2⟩ | ⟨h1, h2⟩ | ⟨h1, h2⟩ <;> rw [h1, h2] <;> simp [isEff]
end
theorem noCall_kind {P : Program} {E : Env} {call : CallF} {ao : AO} (h : kindOf ao ≠ 3) : aop P E call ao = aop P E noCall ao :=
  aop_noCall (fun f l he => by subst he; simp [kindOf] at h) (fun f l he => by subst he; simp [kindOf] at h)
/-- a region that draws its order, compiled -/
structure Ctx (P : Program) (N : Nat) (ops : Array Oper) (l : List AOp) (bm ks order : List Nat) : Prop where
  hl : mapO (cOper P N ops) ops.toList = some l
  hks : ks = l.map fun o => kindOf o.op
  perm : drawPerm ops.size order = true
  edges : drawEdges ops bm ops.size = true
  keeps : drawKeeps bm ks order ops.size = true
  dsts : drawDsts ops bm ops.size = true
def dlOf (n : Nat) (l : List AOp) (bm ks order : List Nat) : List (AOp × AK) := order.map fun i => (l.getD i default, akOf bm ks order n i (l.getD i default).op)
section
variable {P : Program} {N : Nat} {ops : Array Oper} {l : List AOp} {bm ks order : List Nat}
theorem Ctx.at (c : Ctx P N ops l bm ks order) {p : Nat} (hp : p < ops.size) : ∃ o ao, ops[order.getD p 0]? = some o ∧ cOper P N ops o = some ao ∧ (dlOf ops.size l bm ks order)[p]? = some (ao, akOf bm ks order ops.size (order.getD p 0) ao.op) ∧ ks.getD (order.getD p 0) 0 = kindOf ao.op := by
  obtain ⟨h1, h2, h3, h4⟩ := perm_ok c.perm
  have hi := h3 p hp
  obtain ⟨ao, h5, h6⟩ := (mapO_get c.hl).2 (order.getD p 0) ops[order.getD p 0] (by simp [hi])
  have hlen := (mapO_get c.hl).1
  have hp' : p < order.length := by omega
  have hop : order[p]? = some (order.getD p 0) := by simp [List.getD, hp']
  have hld : l.getD (order.getD p 0) default = ao := by rw [List.getD_eq_getElem?_getD, h5]; rfl
  refine ⟨ops[order.getD p 0], ao, by simp [hi], h6, ?_, ?_⟩
  · unfold dlOf
    rw [List.getElem?_map, hop]
    simp only [Option.map_some, hld]
  · rw [c.hks, List.getD_eq_getElem?_getD, List.getElem?_map, h5]
    rfl
theorem Ctx.len (c : Ctx P N ops l bm ks order) : (dlOf ops.size l bm ks order).length = ops.size := by
  simp [dlOf, (perm_ok c.perm).1]
/-- what an operation waits for, through its edges -/
theorem Ctx.edge (c : Ctx P N ops l bm ks order) {i : Nat} {o : Oper} (ho : ops[i]? = some o) : (∀ e ∈ o.after, Region.binds .any e = true → e.on < i) ∧ ∀ j, j < ops.size → bAt bm i j = true → ∃ e ∈ o.after, Region.binds .any e = true ∧ (e.on = j ∨ bAt bm e.on j = true) := by
  have hi : i < ops.size := (Array.getElem?_eq_some_iff.1 ho).1
  have := c.edges
  simp only [drawEdges, List.all_eq_true, List.mem_range] at this
  have h1 := this i hi
  rw [ho] at h1
  simp only [Bool.and_eq_true, List.all_eq_true, List.mem_range, Bool.or_eq_true, Bool.not_eq_true', decide_eq_true_eq, List.any_eq_true, beq_iff_eq, Array.mem_toList_iff] at h1
  refine ⟨fun e he hb => (h1.1 e he).resolve_left (by rw [hb]; simp), fun j hj hb => ?_⟩
  obtain ⟨e, he, h2, h3⟩ := (h1.2 j hj).resolve_left (by rw [hb]; simp)
  exact ⟨e, he, h2, h3⟩
theorem Ctx.keep (c : Ctx P N ops l bm ks order) {p q : Nat} (hpq : p < q) (hq : q < ops.size) : bAt bm (order.getD p 0) (order.getD q 0) = false ∧
    (ks.getD (order.getD q 0) 0 = 3 → bAt bm (order.getD q 0) (order.getD p 0) = true ∨ ∃ r, p < r ∧ r < q ∧ ks.getD (order.getD r 0) 0 = 3 ∧ bAt bm (order.getD r 0) (order.getD p 0) = true) := by
  have := c.keeps
  simp only [drawKeeps, List.all_eq_true, List.mem_range, Bool.and_eq_true, Bool.not_eq_true', Bool.or_eq_true, List.any_eq_true, beq_iff_eq, decide_eq_true_eq, beq_eq_false_iff_ne, ne_eq] at this
  have h1 := this q hq p hpq
  refine ⟨h1.1, fun hk => ?_⟩
  rcases h1.2 with h2 | h2 | ⟨r, hr, ⟨h3, h4⟩, h5⟩
  · exact absurd hk h2
  · exact .inl h2
  · exact .inr ⟨r, h3, hr, h4, h5⟩
theorem Ctx.dst (c : Ctx P N ops l bm ks order) {i j : Nat} (hne : i ≠ j) {x y : Oper} (hx : ops[i]? = some x) (hy : ops[j]? = some y) {t : Tmp} (ht : y.dst = some t) : x.dst ≠ some t ∧ (t ∈ looks ops x → bAt bm i j = true ∨ bAt bm j i = true) := by
  have := c.dsts
  simp only [drawDsts, List.all_eq_true, List.mem_range] at this
  have h1 := this i (Array.getElem?_eq_some_iff.1 hx).1 j (Array.getElem?_eq_some_iff.1 hy).1
  rw [hx, hy] at h1
  simp only [ht, Bool.or_eq_true, beq_iff_eq, hne, false_or, Bool.and_eq_true, Bool.not_eq_true', beq_eq_false_iff_ne, ne_eq] at h1
  refine ⟨h1.1, fun hm => ?_⟩
  rcases h1.2 with (h2 | h2) | h2
  · rw [List.contains_eq_mem, decide_eq_false_iff_not] at h2; exact absurd hm h2
  · exact .inl h2
  · exact .inr h2
/-- whose destination a place is -/
theorem dst_tmp {o : Oper} {ao : AOp} (hc : cOper P N ops o = some ao) {x : D16 × D16} (hd : ao.dst = some x) : o.dst = some (tn x.1 x.2) := by
  have h1 := (cOper_ok hc).1
  rw [hd] at h1
  cases ho : o.dst with
  | none => rw [ho] at h1; cases h1
  | some t =>
    rw [ho] at h1
    simp only [cDst] at h1
    split at h1
    · split at h1
      · rename_i p hp
        cases h1
        rw [tmpOf_tn (i := x.1) (j := x.2) hp]
      · cases h1
    · cases h1
theorem Ctx.dist (c : Ctx P N ops l bm ks order) : Dist (dlOf ops.size l bm ks order) := by
  intro p q o k o' k' hne ho ho' t ht ht'
  obtain ⟨h1, h2, h3, h4⟩ := perm_ok c.perm
  have hp : p < ops.size := by rw [← c.len]; exact (List.getElem?_eq_some_iff.1 ho).1
  have hq : q < ops.size := by rw [← c.len]; exact (List.getElem?_eq_some_iff.1 ho').1
  obtain ⟨x, ax, g1, g2, g3, _⟩ := c.at hp
  obtain ⟨y, ay, k1, k2, k3, _⟩ := c.at hq
  rw [ho] at g3; cases g3
  rw [ho'] at k3; cases k3
  have hne' : order.getD p 0 ≠ order.getD q 0 := by
    rcases Nat.lt_or_ge p q with h | h
    · exact h4 p q h hq
    · exact (h4 q p (by omega) hp).symm
  exact (c.dst hne' g1 k1 (dst_tmp k2 ht')).1 (dst_tmp g2 ht)
end
end Go.Proofs.YtmbbciidknchiaaGreat
