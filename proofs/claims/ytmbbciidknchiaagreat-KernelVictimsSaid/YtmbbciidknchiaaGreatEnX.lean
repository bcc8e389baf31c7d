/-
  A verified evaluator: what the canonical run of a region leaves, operation by operation. No function of the program is named here.
-/
import Derived.Test.YtmbbciidknchiaaGreatEnW
namespace Go.Proofs.YtmbbciidknchiaaGreat
/-- one of these records made this block -/
def Made (rs : List Rec) (id : Bid) (b : AB) : Prop := ∃ r ∈ rs, r.made = some b ∧ r.rid = id
/-- memory has grown by what these records made -/
structure Grow (rs : List Rec) (s s' : Hp) : Prop where
  next : s'.next = s.next
  keep : ∀ id b, s.get id = some b → s'.get id = some b
  only : ∀ id b, s'.get id = some b → s.get id = some b ∨ Made rs id b
/-- the memories before each effect, and the last one -/
def line (past : List Hp) (h : Hp) : List Hp := past.reverse ++ [h]
theorem line_mem {past : List Hp} {h s : Hp} : s ∈ line past h ↔ s ∈ h :: past := by simp [line, or_comm]
theorem line_cons (past : List Hp) (h h1 : Hp) : line (h :: past) h1 = line past h ++ [h1] := by simp [line]
theorem line_put (past : List Hp) (h : Hp) (id : Bid) (b : AB) : line (putAll id b past) (h.putB id (some b)) = (line past h).map fun s => s.putB id (some b) := by simp [line, putAll]
theorem line_len (past : List Hp) (h : Hp) : (line past h).length = past.length + 1 := by simp [line]
theorem Made.tail {r : Rec} {rs : List Rec} {id : Bid} {b : AB} (h : Made rs id b) : Made (r :: rs) id b := by
  obtain ⟨x, h1, h2⟩ := h
  exact ⟨x, List.mem_cons_of_mem _ h1, h2⟩
theorem Grow.refl (rs : List Rec) (s : Hp) : Grow rs s s := ⟨rfl, fun _ _ h => h, fun _ _ h => .inl h⟩
theorem Grow.tail {r : Rec} {rs : List Rec} {s s' : Hp} (g : Grow rs s s') : Grow (r :: rs) s s' := ⟨g.next, g.keep, fun id b h => (g.only id b h).imp (fun x => x) Made.tail⟩
theorem fresh_of {id : Bid} {l : List Hp} (h : freshIn id l = true) {s : Hp} (hs : s ∈ l) : s.get id = none := by
  have := List.all_eq_true.1 h s hs
  cases hg : s.get id with
  | none => rfl
  | some b => rw [hg] at this; cases this
def isEff (k : AK) : Bool := match k with | .effect => true | _ => false
section
variable {P : Program} {E : Env} {call : CallF} {l : List (AOp × AK)} {fr fr' : Fr} {h h' : Hp} {past pf : List Hp} {rid : Bid} {rs : List Rec}
theorem trc_grow (t : Trc P E call l fr h past rid rs fr' h' pf) : ∀ (i : Nat) s, (line past h)[i]? = some s → ∃ s', (line pf h')[i]? = some s' ∧ Grow rs s s' := by
  induction t with
  | nil => intro i s hs; exact ⟨s, hs, Grow.refl _ _⟩
  | skip hw t ih =>
    rename_i o k l fr fr' h h' past pf rid rs
    intro i s hs
    have : (line (pastOf k h past) h)[i]? = some s := by
      cases k with
      | effect =>
        show (line (h :: past) h)[i]? = some s
        rw [line_cons, List.getElem?_append_left (List.getElem?_eq_some_iff.1 hs).1]
        exact hs
      | _ => exact hs
    obtain ⟨s', h1, h2⟩ := ih i s this
    exact ⟨s', h1, h2.tail⟩
  | pure hw ho t ih =>
    intro i s hs
    obtain ⟨s', h1, h2⟩ := ih i s hs
    exact ⟨s', h1, h2.tail⟩
  | read hw ho hsi t ih =>
    intro i s hs
    obtain ⟨s', h1, h2⟩ := ih i s hs
    exact ⟨s', h1, h2.tail⟩
  | make hw ho hb hr hn t ih =>
    rename_i o l fr fr' h h' h1 past pf rid r rs v b
    intro i s hs
    have hfr := fresh_of hn (line_mem.1 (List.mem_of_getElem? hs))
    obtain ⟨s', h2, g⟩ := ih i (s.putB rid (some b)) (by rw [line_put, List.getElem?_map, hs]; rfl)
    refine ⟨s', h2, by rw [g.next, Hp.next_putB], fun id b' hb' => ?_, fun id b' hb' => ?_⟩
    · have hne : id ≠ rid := by rintro rfl; rw [hfr] at hb'; cases hb'
      exact g.keep id b' (by rw [Hp.get_putB_ne hne]; exact hb')
    · rcases g.only id b' hb' with h3 | h3
      · by_cases hne : id = rid
        · subst hne
          rw [Hp.get_putB] at h3
          exact .inr ⟨_, List.mem_cons_self, h3, rfl⟩
        · rw [Hp.get_putB_ne hne] at h3
          exact .inl h3
      · exact .inr h3.tail
  | effect hw ho t ih =>
    intro i s hs
    obtain ⟨s', h1, h2⟩ := ih i s (by rw [line_cons, List.getElem?_append_left (List.getElem?_eq_some_iff.1 hs).1]; exact hs)
    exact ⟨s', h1, h2.tail⟩
theorem trc_len (t : Trc P E call l fr h past rid rs fr' h' pf) : rs.length = l.length := by
  induction t with
  | nil => rfl
  | _ => simp_all
theorem trc_at (t : Trc P E call l fr h past rid rs fr' h' pf) : ∀ (p : Nat) r, rs[p]? = some r → Trc P E call (l.drop p) r.fr r.h r.past r.rid (rs.drop p) fr' h' pf := by
  induction t with
  | nil => intro p r hr; simp at hr
  | skip hw t ih =>
    intro p r hr
    cases p with
    | zero => simp at hr; subst hr; exact .skip hw t
    | succ p => simpa using ih p r (by simpa using hr)
  | pure hw ho t ih =>
    intro p r hr
    cases p with
    | zero => simp at hr; subst hr; exact .pure hw ho t
    | succ p => simpa using ih p r (by simpa using hr)
  | read hw ho hs t ih =>
    intro p r hr
    cases p with
    | zero => simp at hr; subst hr; exact .read hw ho hs t
    | succ p => simpa using ih p r (by simpa using hr)
  | make hw ho hb hri hn t ih =>
    intro p r hr
    cases p with
    | zero => simp at hr; subst hr; exact .make hw ho hb hri hn t
    | succ p => simpa using ih p r (by simpa using hr)
  | effect hw ho t ih =>
    intro p r hr
    cases p with
    | zero => simp at hr; subst hr; exact .effect hw ho t
    | succ p => simpa using ih p r (by simpa using hr)
/-- numbers are handed out upward -/
theorem trc_rid (t : Trc P E call l fr h past rid rs fr' h' pf) : ∀ r ∈ rs, rid.num ≤ r.rid.num := by
  induction t with
  | nil => intro r hr; cases hr
  | make hw ho hb hri hn t ih =>
    intro r hr
    rcases List.mem_cons.1 hr with rfl | hr
    · exact Nat.le_refl _
    · have := ih r hr
      have := Bid.inc_num hri
      omega
  | _ =>
    rename_i ih
    intro r hr
    rcases List.mem_cons.1 hr with rfl | hr
    · exact Nat.le_refl _
    · exact ih r hr
theorem reserve_le : ∀ {l : List (AOp × AK)} {n m : Bid}, reserve l n = some m → n.num ≤ m.num
  | [], n, m, e => by cases e; exact Nat.le_refl _
  | (o, k) :: l, n, m, e => by
    cases k with
    | make =>
      obtain ⟨n1, h1, h2⟩ := ob_some (show ob n.inc (reserve l) = some m from e)
      have := Bid.inc_num h1
      have := reserve_le h2
      omega
    | _ => exact reserve_le (show reserve l n = some m from e)
theorem trc_res (t : Trc P E call l fr h past rid rs fr' h' pf) : ∀ (n m : Bid), rid.num ≤ n.num → reserve l n = some m → ∀ r ∈ rs, r.made.isSome = true → r.rid.num < m.num := by
  induction t with
  | nil => intro n m _ _ r hr; cases hr
  | skip hw t ih =>
    rename_i o k l _ _ _ _ _ _ _ _
    intro n m hn e r hr hm
    rcases List.mem_cons.1 hr with rfl | hr
    · cases hm
    · cases k with
      | make =>
        obtain ⟨n1, h1, h2⟩ := ob_some (show ob n.inc (reserve l) = some m from e)
        have := Bid.inc_num h1
        exact ih n1 m (by omega) h2 r hr hm
      | _ => exact ih n m hn e r hr hm
  | make hw ho hb hri hf t ih =>
    rename_i o l _ _ _ _ _ _ _ rid r1 rs v b
    intro n m hn e r hr hm
    obtain ⟨n1, h1, h2⟩ := ob_some (show ob n.inc (reserve l) = some m from e)
    have h3 := Bid.inc_num h1
    have h4 := Bid.inc_num hri
    rcases List.mem_cons.1 hr with rfl | hr
    · have := reserve_le h2
      show rid.num < m.num
      omega
    · exact ih n1 m (by omega) h2 r hr hm
  | _ =>
    rename_i ih
    intro n m hn e r hr hm
    rcases List.mem_cons.1 hr with rfl | hr
    · cases hm
    · exact ih n m hn e r hr hm
/-- what the first record says -/
theorem trc_head {o : AOp} {k : AK} {r : Rec} (t : Trc P E call ((o, k) :: l) fr h past rid (r :: rs) fr' h' pf) : r.fr = fr ∧ r.h = h ∧ r.past = past ∧ r.rid = rid ∧ wantedA fr o.guard = some r.b ∧
    ∃ h1 past1 rid1, Trc P E call l (setDst o.dst r.v fr) h1 past1 rid1 rs fr' h' pf ∧ past1.length = past.length + (bif isEff k then 1 else 0) ∧ (r.b = false → r.v = .t [] ∧ r.made = none ∧ h1 = h) ∧ (k ≠ .make → r.made = none) ∧ (k = .effect → past1 = h :: past) := by
  cases t with
  | skip hw t => exact ⟨rfl, rfl, rfl, rfl, hw, _, _, _, t, by cases k <;> rfl, fun _ => ⟨rfl, rfl, rfl⟩, fun _ => rfl, fun hk => by subst hk; rfl⟩
  | pure hw ho t => exact ⟨rfl, rfl, rfl, rfl, hw, _, _, _, t, rfl, (fun h => by cases h), fun _ => rfl, fun hk => by cases hk⟩
  | read hw ho hs t => exact ⟨rfl, rfl, rfl, rfl, hw, _, _, _, t, rfl, (fun h => by cases h), fun _ => rfl, fun hk => by cases hk⟩
  | make hw ho hb hri hn t => exact ⟨rfl, rfl, rfl, rfl, hw, _, _, _, t, by simp [putAll, isEff], (fun h => by cases h), fun hk => absurd rfl hk, fun hk => by cases hk⟩
  | effect hw ho t => exact ⟨rfl, rfl, rfl, rfl, hw, _, _, _, t, rfl, (fun h => by cases h), fun _ => rfl, fun _ => rfl⟩
/-- a frame that holds what the operations in D gave -/
def FrAt (l : List (AOp × AK)) (rs : List Rec) (fr0 : Fr) (D : Nat → Prop) (fr : Fr) : Prop :=
  ∀ i j, (∀ p o k r, D p → l[p]? = some (o, k) → rs[p]? = some r → o.dst = some (i, j) → getF i j fr = some r.v) ∧ ((∀ p o k, D p → l[p]? = some (o, k) → o.dst ≠ some (i, j)) → getF i j fr = getF i j fr0)
def Dist (l : List (AOp × AK)) : Prop := ∀ (p q : Nat) (o : AOp) (k : AK) (o' : AOp) (k' : AK), p ≠ q → l[p]? = some (o, k) → l[q]? = some (o', k') → ∀ t, o.dst = some t → o'.dst ≠ some t
theorem FrAt.step {fr0 : Fr} {D : Nat → Prop} (hd : Dist l) (f : FrAt l rs fr0 D fr) {p : Nat} {o : AOp} {k : AK} {r : Rec} (ho : l[p]? = some (o, k)) (hr : rs[p]? = some r) : FrAt l rs fr0 (fun q => D q ∨ q = p) (setDst o.dst r.v fr) := by
  intro i j
  cases hdst : o.dst with
  | none =>
    show (∀ (q : Nat) _ _ _, _ → _ → _ → _ → getF i j fr = _) ∧ (_ → getF i j fr = _)
    refine ⟨fun q o' k' r' hq ho' hr' hd' => ?_, fun hn => (f i j).2 fun q o' k' hq ho' => hn q o' k' (.inl hq) ho'⟩
    rcases hq with hq | rfl
    · exact (f i j).1 q o' k' r' hq ho' hr' hd'
    · rw [ho] at ho'; cases ho'; rw [hdst] at hd'; cases hd'
  | some t =>
    show (∀ (q : Nat) _ _ _, _ → _ → _ → _ → getF i j (putF t.1 t.2 r.v fr) = _) ∧ (_ → getF i j (putF t.1 t.2 r.v fr) = _)
    by_cases hij : i = t.1 ∧ j = t.2
    · obtain ⟨rfl, rfl⟩ := hij
      refine ⟨fun q o' k' r' hq ho' hr' hd' => ?_, fun hn => absurd hdst (hn p o k (.inr rfl) ho)⟩
      by_cases hqp : q = p
      · subst hqp
        rw [hr] at hr'; cases hr'
        rw [getF_putF]
      · exact absurd hd' (hd p q o k o' k' (Ne.symm hqp) ho ho' _ hdst)
    · refine ⟨fun q o' k' r' hq ho' hr' hd' => ?_, fun hn => ?_⟩
      · rw [getF_putF_ne hij]
        rcases hq with hq | rfl
        · exact (f i j).1 q o' k' r' hq ho' hr' hd'
        · rw [ho] at ho'; cases ho'
          rw [hdst] at hd'; cases hd'
          exact absurd ⟨rfl, rfl⟩ hij
      · rw [getF_putF_ne hij]
        exact (f i j).2 fun q o' k' hq ho' => hn q o' k' (.inl hq) ho'
theorem FrAt.agree {fr0 fx fy : Fr} {D D' : Nat → Prop} (hl : rs.length = l.length) (f : FrAt l rs fr0 D fx) (g : FrAt l rs fr0 D' fy) {i j : D16} (h : ∀ q o k, l[q]? = some (o, k) → o.dst = some (i, j) → (D q ↔ D' q)) : getF i j fx = getF i j fy := by
  by_cases hx : ∃ q o k, l[q]? = some (o, k) ∧ o.dst = some (i, j) ∧ D q
  · obtain ⟨q, o, k, h1, h2, h3⟩ := hx
    have hlt : q < rs.length := by rw [hl]; exact (List.getElem?_eq_some_iff.1 h1).1
    have hr : rs[q]? = some rs[q] := List.getElem?_eq_getElem hlt
    rw [(f i j).1 q o k _ h3 h1 hr h2, (g i j).1 q o k _ ((h q o k h1 h2).1 h3) h1 hr h2]
  · rw [(f i j).2 fun q o k hq h1 h2 => hx ⟨q, o, k, h1, h2, hq⟩, (g i j).2 fun q o k hq h1 h2 => hx ⟨q, o, k, h1, h2, (h q o k h1 h2).2 hq⟩]
theorem FrAt.mono {fr0 : Fr} {D D' : Nat → Prop} (f : FrAt l rs fr0 D fr) (h : ∀ q, q < l.length → (D q ↔ D' q)) : FrAt l rs fr0 D' fr := fun i j =>
  ⟨fun p o k r hp ho hr hd => (f i j).1 p o k r ((h p (List.getElem?_eq_some_iff.1 ho).1).2 hp) ho hr hd, fun hn => (f i j).2 fun p o k hp ho => hn p o k ((h p (List.getElem?_eq_some_iff.1 ho).1).1 hp) ho⟩
theorem FrAt.nil {fr0 : Fr} {D : Nat → Prop} (h : ∀ p, ¬D p) : FrAt l rs fr0 D fr0 := fun _ _ => ⟨fun p _ _ _ hp => absurd hp (h p), fun _ => rfl⟩
/-- the effects among the first p operations -/
def effN (l : List (AOp × AK)) (p : Nat) : Nat := ((l.take p).filter fun x => isEff x.2).length
theorem effN_succ {p : Nat} {o : AOp} {k : AK} (h : l[p]? = some (o, k)) : effN l (p + 1) = effN l p + (bif isEff k then 1 else 0) := by
  have : l.take (p + 1) = l.take p ++ [(o, k)] := by rw [List.take_add_one, h]; rfl
  unfold effN
  rw [this, List.filter_append, List.length_append]
  cases hk : isEff k <;> simp [hk]
/-- the canonical run, cut ahead of operation p -/
theorem trc_cut (t : Trc P E call l fr h [] rid rs fr' h' pf) (hd : Dist l) : ∀ p, p ≤ l.length → ∃ f g past r1, Trc P E call (l.drop p) f g past r1 (rs.drop p) fr' h' pf ∧ FrAt l rs fr (fun q => q < p) f ∧ past.length = effN l p
  | 0, _ => ⟨fr, h, [], rid, t, FrAt.nil fun p => Nat.not_lt_zero p, rfl⟩
  | p + 1, hp => by
    obtain ⟨f, g, past, r1, h1, h2, h3⟩ := trc_cut t hd p (by omega)
    have hlt : p < l.length := hp
    have hlr : p < rs.length := by rw [trc_len t]; exact hp
    rw [List.drop_eq_getElem_cons hlt, List.drop_eq_getElem_cons hlr] at h1
    have ho : l[p]? = some (l[p].1, l[p].2) := List.getElem?_eq_getElem hlt
    obtain ⟨_, _, _, _, _, g1, past1, rid1, h4, h5, _⟩ := trc_head (o := l[p].1) (k := l[p].2) h1
    refine ⟨_, g1, past1, rid1, h4, ?_, by rw [effN_succ ho, h5, h3]⟩
    exact (h2.step hd ho (List.getElem?_eq_getElem hlr)).mono fun q _ => by omega
end
end Go.Proofs.YtmbbciidknchiaaGreat
