/-
  A verified evaluator of the model: EvF.
-/
import Derived.Test.YtjnfgapfhpihmaaGreatEvE
set_option linter.unusedVariables false
set_option linter.unusedSimpArgs false
namespace Go.Proofs.YtjnfgapfhpihmaaGreat
def Cst (F : Hp → RO) : Prop := ∃ r : Option AV, ∀ h, F h = ro r fun v => .ok v h
section
variable {P : Program} {E : Env} {fr : Fr}
theorem Cst.ok (v : AV) : Cst (fun h => .ok v h) := ⟨some v, fun _ => rfl⟩
theorem Cst.no : Cst (fun _ => .no) := ⟨none, fun _ => rfl⟩
theorem Cst.ro {α : Type} {o : Option α} {F : α → Hp → RO} (h : ∀ x, Cst (F x)) : Cst (fun k => Go.Proofs.YtjnfgapfhpihmaaGreat.ro o fun x => F x k) := by
  cases o with
  | none => exact ⟨none, fun _ => rfl⟩
  | some x => exact h x
theorem Cst.br {b : Bool} {F : Hp → RO} (h : Cst F) : Cst (fun k => Go.Proofs.YtjnfgapfhpihmaaGreat.br b (F k)) := by
  cases b with
  | false => exact ⟨none, fun _ => rfl⟩
  | true => exact h
theorem Cst.evC {x : AX} {F : AC → Hp → RO} (h : ∀ v, Cst (F v)) : Cst (fun k => Go.Proofs.YtjnfgapfhpihmaaGreat.evC x fr fun v => F v k) := Cst.ro fun v => Cst.ro fun c => h c
theorem Cst.evP {x : AX} {F : Bid → Nat → Hp → RO} (h : ∀ id off, Cst (F id off)) : Cst (fun k => Go.Proofs.YtjnfgapfhpihmaaGreat.evP x fr fun id off => F id off k) := Cst.evC fun v => by
  cases v <;> first | exact h _ _ | exact Cst.no
theorem Cst.onD {x : AC} {e : Hp → RO} {F : Sh → Nm → Hp → RO} (he : Cst e) (h : ∀ s y, Cst (F s y)) : Cst (fun k => Go.Proofs.YtjnfgapfhpihmaaGreat.onD x (e k) fun s y => F s y k) := by
  cases x <;> first | exact h _ _ | exact he
theorem Cst.onPd {x : AC} {e : Bid → Nat → Hp → RO} {F : Sh → Nm → Nm → Nat → Hp → RO} (he : ∀ id off, Cst (e id off)) (h : ∀ s y t o, Cst (F s y t o)) : Cst (fun k => Go.Proofs.YtjnfgapfhpihmaaGreat.onPd x (Go.Proofs.YtjnfgapfhpihmaaGreat.onP x fun id off => e id off k) fun s y t o => F s y t o k) := by
  cases x <;> first | exact h _ _ _ _ | exact he _ _ | exact Cst.no
theorem Cst.onB {x : AC} {F : Bool → Hp → RO} (h : ∀ b, Cst (F b)) : Cst (fun k => Go.Proofs.YtjnfgapfhpihmaaGreat.onB x fun b => F b k) := by
  cases x <;> first | exact h _ | exact Cst.no
theorem Cst.asI {x : AC} {e : Hp → RO} {F : IntKind → Int → Hp → RO} (h : ∀ k n, Cst (F k n)) (he : Cst e) : Cst (fun w => Go.Proofs.YtjnfgapfhpihmaaGreat.asI x (e w) fun k n => F k n w) := by
  cases x <;> first | exact h _ _ | exact he
theorem cst_of {call : CallF} {ao : AO} (hk : kindOf ao = 0) : Cst (aop P E call ao fr) := by
  cases ao
  all_goals first | (exfalso; simp [kindOf] at hk; done) | skip
  case mv x => exact Cst.ro fun v => Cst.ok v
  case pick c x y => exact Cst.evC fun v => Cst.onB fun b => by cases b <;> exact Cst.ro fun v => Cst.ok v
  case gen o => exact Cst.ro fun v => Cst.ok v
  case bin op x y =>
    exact Cst.evC fun u => Cst.evC fun v => Cst.asI (fun k a => Cst.asI (fun k' b => Cst.br (Cst.ro fun r => Cst.ok _)) (Cst.ro fun b => Cst.ok _)) (Cst.ro fun b => Cst.ok _)
  case not x => exact Cst.evC fun v => Cst.onB fun b => Cst.ok _
  case ci k x =>
    refine Cst.evC fun v => Cst.asI (fun _ n => Cst.ok _) ?_
    cases v <;> first | exact Cst.ro fun c => Cst.ok _ | exact Cst.no
  case eqs neg x y => exact Cst.evC fun u => Cst.evC fun v => Cst.ro fun b => Cst.ok _
  case eqa neg ks x y => exact Cst.ro fun u => Cst.ro fun v => Cst.ro fun l => Cst.ro fun m => Cst.ro fun b => Cst.ok _
  case bd z ps => exact Cst.ro fun l => Cst.ok _
  case nc x => exact Cst.evC fun v => by cases v <;> first | exact Cst.ok _ | exact Cst.no
  case mf f l m => exact Cst.ro fun us => Cst.ro fun vs => Cst.ro fun l => Cst.ro fun m => Cst.ok _
  case ixa n size agg x i => exact Cst.ro fun v => Cst.ro fun l => Cst.ro fun i => Cst.br (by cases agg <;> exact Cst.ro fun x => Cst.ok _)
  case sll size x lo hi mx =>
    refine Cst.evC fun v => Cst.onD ?_ fun s y => Cst.br (Cst.ro fun l => Cst.ro fun u => Cst.ro fun m => Cst.ro fun t => by cases m <;> first | exact Cst.ok _ | exact Cst.br (Cst.ok _))
    cases v <;> first | exact Cst.no | skip
    case sn => exact Cst.ro fun l => Cst.ro fun e => Cst.ro fun m => Cst.br (Cst.ok _)
    case sl id off len cap => exact Cst.ro fun l => Cst.ro fun e => Cst.ro fun m => Cst.br (Cst.ok _)
    case su id off len lb es =>
      refine Cst.br ?_
      cases mx with
      | some m => exact Cst.ro fun l => Cst.ro fun e => Cst.ro fun m => Cst.br (Cst.ok _)
      | none => exact Cst.ro fun l => Cst.ro fun e => Cst.br (Cst.ok _)
    case se id es => exact Cst.br (Cst.ro fun l => Cst.ro fun e => Cst.br (Cst.ok _))
  case sla n size x lo hi mx => exact Cst.evP fun id off => Cst.ro fun l => Cst.ro fun e => Cst.ro fun m => Cst.br (Cst.ok _)
  case fa o x => exact Cst.evC fun c => Cst.onPd (fun id off => Cst.ok _) fun s y t o => Cst.ok _
  case fd o x => exact Cst.ro fun v => Cst.ro fun l => Cst.ro fun x => Cst.ok _
  case fdn o n x => exact Cst.ro fun v => Cst.ro fun l => Cst.ro fun x => Cst.ok _
  case iaa n size x i => exact Cst.evC fun c => Cst.onPd (fun id off => Cst.ro fun i => Cst.br (Cst.ok _)) fun s y t o => Cst.ro fun i => Cst.br (Cst.ok _)
  case ias size x i =>
    refine Cst.evC fun v => Cst.onD (Cst.ro fun i => ?_) fun s y => Cst.br (Cst.evC fun c => Cst.ro fun t => Cst.ok _)
    cases v <;> first | exact Cst.br (Cst.ok _) | exact Cst.no
  case eqn neg x y => exact Cst.evC fun u => Cst.evC fun v => Cst.ro fun a => Cst.ro fun b => Cst.br (Cst.ok _)
  case len x => exact Cst.evC fun v => Cst.onD (Cst.ro fun n => Cst.ok _) fun s y => Cst.ro fun c => Cst.ok _
  case lens x => exact Cst.evC fun v => Cst.ro fun n => Cst.ok _
  case cap x => exact Cst.evC fun v => by cases v <;> first | exact Cst.ok _ | exact Cst.no
  case ex x i => exact Cst.ro fun v => Cst.ro fun l => Cst.ro fun v => Cst.ok _
  case no => exact Cst.no
theorem pure_any {call : CallF} {ao : AO} (hk : kindOf ao = 0) {h h1 : Hp} {v : AV} (e : aop P E call ao fr h = .ok v h1) (h2 : Hp) : aop P E call ao fr h2 = .ok v h2 := by
  obtain ⟨r, hr⟩ := cst_of (P := P) (E := E) (fr := fr) (call := call) hk
  rw [hr] at e ⊢
  cases r with
  | none => cases e
  | some u => cases e; rfl
theorem evC_eq {x : AX} {c : AC} (h : ev x fr = some (.c c)) (f : AC → RO) : evC x fr f = f c := by
  unfold evC; rw [h]; rfl
theorem read_of {op : Op} {ao : AO} (hc : cOp P op = some ao) (hk : kindOf ao = 1) : ∃ y ax, cX y = some ax ∧ (ao = .ld ax ∨ (∃ n, ao = .ldn n ax) ∨ ∃ z ok ag ks i, ao = .lk z ok ag ks ax i) := by
  cases op with
  | load t y =>
    simp only [cOp] at hc
    split at hc
    · rename_i hx; cases hc; exact ⟨_, _, hx, .inr (.inl ⟨_, rfl⟩)⟩
    · rename_i hx; cases hc; exact ⟨_, _, hx, .inr (.inl ⟨_, rfl⟩)⟩
    · rename_i hx; cases hc; exact ⟨_, _, hx, .inl rfl⟩
    · cases hc
  | lookup t x i ok =>
    simp only [cOp] at hc
    split at hc
    · rename_i hx hi
      split at hc
      · cases hc; exact ⟨_, _, hx, .inr (.inr ⟨_, _, _, _, _, rfl⟩)⟩
      · cases hc
    · cases hc
  | unOp uo t x =>
    exfalso
    cases uo <;> first | (cases hc; simp [kindOf] at hk; done) | (obtain ⟨_, _, rfl⟩ := map_some (show (cX x).map AO.not = some _ from hc); simp [kindOf] at hk; done) | (simp [cOp] at hc; done)
  | _ =>
    exfalso
    revert hc hk
    simp only [cOp]
    (try unfold cEqa)
    (try unfold cMu)
    (try unfold cAp)
    (repeat' split) <;> intro hk hc <;> first | (cases hc; done) | (obtain ⟨_, _, rfl⟩ := map_some hc; simp [kindOf] at hk; done) | (cases hc; simp [kindOf] at hk; done) | (obtain ⟨_, _, _, _, _, _, _, rfl⟩ := cOv_ok hc; simp [kindOf] at hk; done) | contradiction
theorem read_any {ρ : Vn} {φ : Emb} {a : Act} {op : Op} {ao : AO} (hc : cOp P op = some ao) (hk : kindOf ao = 1) (hf : FR ρ φ fr a.tmps) {h h1 : Hp} {v : AV} (e : aop P E noCall ao fr h = .ok v h1) {h2 : Hp}
    (hs : ∀ id b, φ id ≠ none → h.get id = some b → h2.get id = some b) : aop P E noCall ao fr h2 = .ok v h2 := by
  have cells : ∀ {id : Bid} {x : Nat × Nat × Nat} {c : List AC}, φ id = some x → cellsOf (h.get id) = some c → cellsOf (h2.get id) = some c := by
    intro id x c hx hl
    obtain ⟨b, hb, hk⟩ := ob_some hl
    rw [hs id b (by rw [hx]; simp) hb]
    exact hk
  obtain ⟨y, ax, hy, hao⟩ := read_of hc hk
  rcases hao with rfl | ⟨n, rfl⟩ | ⟨z, ok, ag, ks, i, rfl⟩
  · rcases evPd_ok (show opLd E ax fr h = .ok v h1 from e) with ⟨s', y', t, o, h3, e1⟩ | ⟨id, off, h3, e1⟩
    · obtain ⟨c, h4, e2⟩ := ro_ok e1
      cases e2
      show opLd E ax fr h2 = _
      unfold opLd
      rw [evC_eq h3]
      show ro (E.dld s' y' t o) _ = _
      rw [h4]
      rfl
    obtain ⟨c, h4, e2⟩ := ro_ok e1
    cases e2
    obtain ⟨b, base, tot, h5, _⟩ : PtrAt φ (id, off) (a.eval y) := cX_ok hy hf h3
    obtain ⟨l, h6, h7⟩ := ob_some h4
    show opLd E ax fr h2 = _
    unfold opLd
    rw [evC_eq h3]
    show ro (h2.ld id off) _ = _
    have : h2.ld id off = some c := by
      show ob (cellsOf (h2.get id)) (lget off) = some c
      rw [cells h5 h6]
      exact h7
    rw [this]
    rfl
  · rcases evPd_ok (show opLdn E n ax fr h = .ok v h1 from e) with ⟨s', y', t, o, h3, e1⟩ | ⟨id, off, h3, e1⟩
    · obtain ⟨c, h4, e2⟩ := ro_ok e1
      cases e2
      show opLdn E n ax fr h2 = _
      unfold opLdn
      rw [evC_eq h3]
      show ro (dlds E s' y' t n o) _ = _
      rw [h4]
      rfl
    obtain ⟨c, h4, e2⟩ := ro_ok e1
    cases e2
    obtain ⟨b, base, tot, h5, _⟩ : PtrAt φ (id, off) (a.eval y) := cX_ok hy hf h3
    obtain ⟨l, h6, h7⟩ := ob_some h4
    show opLdn E n ax fr h2 = _
    unfold opLdn
    rw [evC_eq h3]
    show ro (h2.lds id off n) _ = _
    have : h2.lds id off n = some c := by
      show ob (cellsOf (h2.get id)) (lsub n off) = some c
      rw [cells h5 h6]
      exact h7
    rw [this]
    rfl
  · obtain ⟨c, h3, e1⟩ := evC_ok (show opLk E z ok ag ks ax i fr h = .ok v h1 from e)
    obtain ⟨k, h4, e2⟩ := ro_ok e1
    have hv : VC ρ φ c (a.eval y) := cX_ok hy hf h3
    split at e2
    · rename_i id
      obtain ⟨b, base, tot, h5, _⟩ := hv
      obtain ⟨l, h6, e3⟩ := ro_ok e2
      obtain ⟨hb, e4⟩ := br_ok e3
      obtain ⟨r, h7, e5⟩ := ro_ok e4
      have hm : mapOf (h2.get id) = some l := by
        obtain ⟨b', hb', hk'⟩ := ob_some h6
        rw [hs id b' (by rw [h5]; simp) hb']
        exact hk'
      show opLk E z ok ag ks ax i fr h2 = _
      unfold opLk
      rw [evC_eq h3, h4]
      show ro (mapOf (h2.get id)) _ = _
      rw [hm]
      show br (keyOk ag ks k) (ro (mapGet E ag ks k l 0) _) = _
      rw [hb, h7]
      have pb : ∀ {v' : AV} {t : Bool} {g g' g1 : Hp} {u : AV}, pairB ok v' t g = .ok u g1 → pairB ok v' t g' = .ok u g' := by
        intro v' t g g' g1 u h
        cases ok with
        | false => cases h; rfl
        | true =>
          obtain ⟨x, hx, h⟩ := ro_ok (show ro v'.tv _ = .ok u g1 from h)
          cases h
          show ro v'.tv _ = _
          rw [hx]; rfl
      cases r with
      | none => exact pb e5
      | some p => exact pb e5
    · cases e2
end
end Go.Proofs.YtjnfgapfhpihmaaGreat
namespace Go.Proofs.YtjnfgapfhpihmaaGreat
def Made (rs : List Rec) (id : Bid) (b : AB) : Prop := ∃ r ∈ rs, r.made = some b ∧ r.rid = id
structure Grow (rs : List Rec) (s s' : Hp) : Prop where
  next : s'.next = s.next
  keep : ∀ id b, s.get id = some b → s'.get id = some b
  only : ∀ id b, s'.get id = some b → s.get id = some b ∨ Made rs id b
def line (past : List Hp) (h : Hp) : List Hp := past.reverse ++ [h]
theorem line_mem {past : List Hp} {h s : Hp} : s ∈ line past h ↔ s ∈ h :: past := by simp [line, or_comm]
theorem line_cons (past : List Hp) (h h1 : Hp) : line (h :: past) h1 = line past h ++ [h1] := by simp [line]
theorem line_put (past : List Hp) (h : Hp) (id : Bid) (b : AB) : line (putAll id b past) (h.putB id (some b)) = (line past h).map fun s => s.putB id (some b) := by simp [line, putAll]
theorem line_len (past : List Hp) (h : Hp) : (line past h).length = past.length + 1 := by simp [line]
theorem Made.tail {r : Rec} {rs : List Rec} {id : Bid} {b : AB} (h : Made rs id b) : Made (r :: rs) id b := by
  obtain ⟨x, h1, h2⟩ := h
  exact ⟨x, List.mem_cons_of_mem _ h1, h2⟩
theorem Grow.refl (rs : List Rec) (s : Hp) : Grow rs s s := ⟨rfl, fun _ _ h => h, fun _ _ h => .inl h⟩
theorem Grow.tail {r : Rec} {rs : List Rec} {s s' : Hp} (g : Grow rs s s') : Grow (r :: rs) s s' := ⟨g.next, g.keep, fun id b h => (g.only id b h).imp (fun x => x) Made.tail⟩
theorem fresh_of {id : Bid} {l : List Hp} (h : freshIn id l = true) {s : Hp} (hs : s ∈ l) : s.get id = none := by
  have := List.all_eq_true.1 h s hs
  cases hg : s.get id with
  | none => rfl
  | some b => rw [hg] at this; cases this
def isEff (k : AK) : Bool := match k with | .effect => true | _ => false
section
variable {P : Program} {E : Env} {call : CallF} {l : List (AOp × AK)} {fr fr' : Fr} {h h' : Hp} {past pf : List Hp} {rid : Bid} {rs : List Rec}
theorem trc_grow (t : Trc P E call l fr h past rid rs fr' h' pf) : ∀ (i : Nat) s, (line past h)[i]? = some s → ∃ s', (line pf h')[i]? = some s' ∧ Grow rs s s' := by
  induction t with
  | nil => intro i s hs; exact ⟨s, hs, Grow.refl _ _⟩
  | skip hw t ih =>
    rename_i o k l fr fr' h h' past pf rid rs
    intro i s hs
    have : (line (pastOf k h past) h)[i]? = some s := by
      cases k with
      | effect =>
        show (line (h :: past) h)[i]? = some s
        rw [line_cons, List.getElem?_append_left (List.getElem?_eq_some_iff.1 hs).1]
        exact hs
      | _ => exact hs
    obtain ⟨s', h1, h2⟩ := ih i s this
    exact ⟨s', h1, h2.tail⟩
  | pure hw ho t ih =>
    intro i s hs
    obtain ⟨s', h1, h2⟩ := ih i s hs
    exact ⟨s', h1, h2.tail⟩
  | read hw ho hsi t ih =>
    intro i s hs
    obtain ⟨s', h1, h2⟩ := ih i s hs
    exact ⟨s', h1, h2.tail⟩
  | make hw ho hb hr hn t ih =>
    rename_i o l fr fr' h h' h1 past pf rid r rs v b
    intro i s hs
    have hfr := fresh_of hn (line_mem.1 (List.mem_of_getElem? hs))
    obtain ⟨s', h2, g⟩ := ih i (s.putB rid (some b)) (by rw [line_put, List.getElem?_map, hs]; rfl)
    refine ⟨s', h2, by rw [g.next, Hp.next_putB], fun id b' hb' => ?_, fun id b' hb' => ?_⟩
    · have hne : id ≠ rid := by rintro rfl; rw [hfr] at hb'; cases hb'
      exact g.keep id b' (by rw [Hp.get_putB_ne hne]; exact hb')
    · rcases g.only id b' hb' with h3 | h3
      · by_cases hne : id = rid
        · subst hne
          rw [Hp.get_putB] at h3
          exact .inr ⟨_, List.mem_cons_self, h3, rfl⟩
        · rw [Hp.get_putB_ne hne] at h3
          exact .inl h3
      · exact .inr h3.tail
  | effect hw ho t ih =>
    intro i s hs
    obtain ⟨s', h1, h2⟩ := ih i s (by rw [line_cons, List.getElem?_append_left (List.getElem?_eq_some_iff.1 hs).1]; exact hs)
    exact ⟨s', h1, h2.tail⟩
theorem trc_len (t : Trc P E call l fr h past rid rs fr' h' pf) : rs.length = l.length := by
  induction t with
  | nil => rfl
  | _ => simp_all
theorem trc_at (t : Trc P E call l fr h past rid rs fr' h' pf) : ∀ (p : Nat) r, rs[p]? = some r → Trc P E call (l.drop p) r.fr r.h r.past r.rid (rs.drop p) fr' h' pf := by
  induction t with
  | nil => intro p r hr; simp at hr
  | skip hw t ih =>
    intro p r hr
    cases p with
    | zero => simp at hr; subst hr; exact .skip hw t
    | succ p => simpa using ih p r (by simpa using hr)
  | pure hw ho t ih =>
    intro p r hr
    cases p with
    | zero => simp at hr; subst hr; exact .pure hw ho t
    | succ p => simpa using ih p r (by simpa using hr)
  | read hw ho hs t ih =>
    intro p r hr
    cases p with
    | zero => simp at hr; subst hr; exact .read hw ho hs t
    | succ p => simpa using ih p r (by simpa using hr)
  | make hw ho hb hri hn t ih =>
    intro p r hr
    cases p with
    | zero => simp at hr; subst hr; exact .make hw ho hb hri hn t
    | succ p => simpa using ih p r (by simpa using hr)
  | effect hw ho t ih =>
    intro p r hr
    cases p with
    | zero => simp at hr; subst hr; exact .effect hw ho t
    | succ p => simpa using ih p r (by simpa using hr)
theorem trc_rid (t : Trc P E call l fr h past rid rs fr' h' pf) : ∀ r ∈ rs, rid.num ≤ r.rid.num := by
  induction t with
  | nil => intro r hr; cases hr
  | make hw ho hb hri hn t ih =>
    intro r hr
    rcases List.mem_cons.1 hr with rfl | hr
    · exact Nat.le_refl _
    · have := ih r hr
      have := Bid.inc_num hri
      omega
  | _ =>
    rename_i ih
    intro r hr
    rcases List.mem_cons.1 hr with rfl | hr
    · exact Nat.le_refl _
    · exact ih r hr
theorem reserve_le : ∀ {l : List (AOp × AK)} {n m : Bid}, reserve l n = some m → n.num ≤ m.num
  | [], n, m, e => by cases e; exact Nat.le_refl _
  | (o, k) :: l, n, m, e => by
    cases k with
    | make =>
      obtain ⟨n1, h1, h2⟩ := ob_some (show ob n.inc (reserve l) = some m from e)
      have := Bid.inc_num h1
      have := reserve_le h2
      omega
    | _ => exact reserve_le (show reserve l n = some m from e)
theorem trc_res (t : Trc P E call l fr h past rid rs fr' h' pf) : ∀ (n m : Bid), rid.num ≤ n.num → reserve l n = some m → ∀ r ∈ rs, r.made.isSome = true → r.rid.num < m.num := by
  induction t with
  | nil => intro n m _ _ r hr; cases hr
  | skip hw t ih =>
    rename_i o k l _ _ _ _ _ _ _ _
    intro n m hn e r hr hm
    rcases List.mem_cons.1 hr with rfl | hr
    · cases hm
    · cases k with
      | make =>
        obtain ⟨n1, h1, h2⟩ := ob_some (show ob n.inc (reserve l) = some m from e)
        have := Bid.inc_num h1
        exact ih n1 m (by omega) h2 r hr hm
      | _ => exact ih n m hn e r hr hm
  | make hw ho hb hri hf t ih =>
    rename_i o l _ _ _ _ _ _ _ rid r1 rs v b
    intro n m hn e r hr hm
    obtain ⟨n1, h1, h2⟩ := ob_some (show ob n.inc (reserve l) = some m from e)
    have h3 := Bid.inc_num h1
    have h4 := Bid.inc_num hri
    rcases List.mem_cons.1 hr with rfl | hr
    · have := reserve_le h2
      show rid.num < m.num
      omega
    · exact ih n1 m (by omega) h2 r hr hm
  | _ =>
    rename_i ih
    intro n m hn e r hr hm
    rcases List.mem_cons.1 hr with rfl | hr
    · cases hm
    · exact ih n m hn e r hr hm
theorem trc_head {o : AOp} {k : AK} {r : Rec} (t : Trc P E call ((o, k) :: l) fr h past rid (r :: rs) fr' h' pf) : r.fr = fr ∧ r.h = h ∧ r.past = past ∧ r.rid = rid ∧ wantedA fr o.guard = some r.b ∧
    ∃ h1 past1 rid1, Trc P E call l (setDst o.dst r.v fr) h1 past1 rid1 rs fr' h' pf ∧ past1.length = past.length + (bif isEff k then 1 else 0) ∧ (r.b = false → r.v = .t [] ∧ r.made = none ∧ h1 = h) ∧ (k ≠ .make → r.made = none) ∧ (k = .effect → past1 = h :: past) := by
  cases t with
  | skip hw t => exact ⟨rfl, rfl, rfl, rfl, hw, _, _, _, t, by cases k <;> rfl, fun _ => ⟨rfl, rfl, rfl⟩, fun _ => rfl, fun hk => by subst hk; rfl⟩
  | pure hw ho t => exact ⟨rfl, rfl, rfl, rfl, hw, _, _, _, t, rfl, (fun h => by cases h), fun _ => rfl, fun hk => by cases hk⟩
  | read hw ho hs t => exact ⟨rfl, rfl, rfl, rfl, hw, _, _, _, t, rfl, (fun h => by cases h), fun _ => rfl, fun hk => by cases hk⟩
  | make hw ho hb hri hn t => exact ⟨rfl, rfl, rfl, rfl, hw, _, _, _, t, by simp [putAll, isEff], (fun h => by cases h), fun hk => absurd rfl hk, fun hk => by cases hk⟩
  | effect hw ho t => exact ⟨rfl, rfl, rfl, rfl, hw, _, _, _, t, rfl, (fun h => by cases h), fun _ => rfl, fun _ => rfl⟩
def FrAt (l : List (AOp × AK)) (rs : List Rec) (fr0 : Fr) (D : Nat → Prop) (fr : Fr) : Prop :=
  ∀ i j, (∀ p o k r, D p → l[p]? = some (o, k) → rs[p]? = some r → o.dst = some (i, j) → getF i j fr = some r.v) ∧ ((∀ p o k, D p → l[p]? = some (o, k) → o.dst ≠ some (i, j)) → getF i j fr = getF i j fr0)
def Dist (l : List (AOp × AK)) : Prop := ∀ (p q : Nat) (o : AOp) (k : AK) (o' : AOp) (k' : AK), p ≠ q → l[p]? = some (o, k) → l[q]? = some (o', k') → ∀ t, o.dst = some t → o'.dst ≠ some t
theorem FrAt.step {fr0 : Fr} {D : Nat → Prop} (hd : Dist l) (f : FrAt l rs fr0 D fr) {p : Nat} {o : AOp} {k : AK} {r : Rec} (ho : l[p]? = some (o, k)) (hr : rs[p]? = some r) : FrAt l rs fr0 (fun q => D q ∨ q = p) (setDst o.dst r.v fr) := by
  intro i j
  cases hdst : o.dst with
  | none =>
    show (∀ (q : Nat) _ _ _, _ → _ → _ → _ → getF i j fr = _) ∧ (_ → getF i j fr = _)
    refine ⟨fun q o' k' r' hq ho' hr' hd' => ?_, fun hn => (f i j).2 fun q o' k' hq ho' => hn q o' k' (.inl hq) ho'⟩
    rcases hq with hq | rfl
    · exact (f i j).1 q o' k' r' hq ho' hr' hd'
    · rw [ho] at ho'; cases ho'; rw [hdst] at hd'; cases hd'
  | some t =>
    show (∀ (q : Nat) _ _ _, _ → _ → _ → _ → getF i j (putF t.1 t.2 r.v fr) = _) ∧ (_ → getF i j (putF t.1 t.2 r.v fr) = _)
    by_cases hij : i = t.1 ∧ j = t.2
    · obtain ⟨rfl, rfl⟩ := hij
      refine ⟨fun q o' k' r' hq ho' hr' hd' => ?_, fun hn => absurd hdst (hn p o k (.inr rfl) ho)⟩
      by_cases hqp : q = p
      · subst hqp
        rw [hr] at hr'; cases hr'
        rw [getF_putF]
      · exact absurd hd' (hd p q o k o' k' (Ne.symm hqp) ho ho' _ hdst)
    · refine ⟨fun q o' k' r' hq ho' hr' hd' => ?_, fun hn => ?_⟩
      · rw [getF_putF_ne hij]
        rcases hq with hq | rfl
        · exact (f i j).1 q o' k' r' hq ho' hr' hd'
        · rw [ho] at ho'; cases ho'
          rw [hdst] at hd'; cases hd'
          exact absurd ⟨rfl, rfl⟩ hij
      · rw [getF_putF_ne hij]
        exact (f i j).2 fun q o' k' hq ho' => hn q o' k' (.inl hq) ho'
theorem FrAt.agree {fr0 fx fy : Fr} {D D' : Nat → Prop} (hl : rs.length = l.length) (f : FrAt l rs fr0 D fx) (g : FrAt l rs fr0 D' fy) {i j : D16} (h : ∀ q o k, l[q]? = some (o, k) → o.dst = some (i, j) → (D q ↔ D' q)) : getF i j fx = getF i j fy := by
  by_cases hx : ∃ q o k, l[q]? = some (o, k) ∧ o.dst = some (i, j) ∧ D q
  · obtain ⟨q, o, k, h1, h2, h3⟩ := hx
    have hlt : q < rs.length := by rw [hl]; exact (List.getElem?_eq_some_iff.1 h1).1
    have hr : rs[q]? = some rs[q] := List.getElem?_eq_getElem hlt
    rw [(f i j).1 q o k _ h3 h1 hr h2, (g i j).1 q o k _ ((h q o k h1 h2).1 h3) h1 hr h2]
  · rw [(f i j).2 fun q o k hq h1 h2 => hx ⟨q, o, k, h1, h2, hq⟩, (g i j).2 fun q o k hq h1 h2 => hx ⟨q, o, k, h1, h2, (h q o k h1 h2).2 hq⟩]
theorem FrAt.mono {fr0 : Fr} {D D' : Nat → Prop} (f : FrAt l rs fr0 D fr) (h : ∀ q, q < l.length → (D q ↔ D' q)) : FrAt l rs fr0 D' fr := fun i j =>
  ⟨fun p o k r hp ho hr hd => (f i j).1 p o k r ((h p (List.getElem?_eq_some_iff.1 ho).1).2 hp) ho hr hd, fun hn => (f i j).2 fun p o k hp ho => hn p o k ((h p (List.getElem?_eq_some_iff.1 ho).1).1 hp) ho⟩
theorem FrAt.nil {fr0 : Fr} {D : Nat → Prop} (h : ∀ p, ¬D p) : FrAt l rs fr0 D fr0 := fun _ _ => ⟨fun p _ _ _ hp => absurd hp (h p), fun _ => rfl⟩
def effN (l : List (AOp × AK)) (p : Nat) : Nat := ((l.take p).filter fun x => isEff x.2).length
theorem effN_succ {p : Nat} {o : AOp} {k : AK} (h : l[p]? = some (o, k)) : effN l (p + 1) = effN l p + (bif isEff k then 1 else 0) := by
  have : l.take (p + 1) = l.take p ++ [(o, k)] := by rw [List.take_add_one, h]; rfl
  unfold effN
  rw [this, List.filter_append, List.length_append]
  cases hk : isEff k <;> simp [hk]
theorem trc_cut (t : Trc P E call l fr h [] rid rs fr' h' pf) (hd : Dist l) : ∀ p, p ≤ l.length → ∃ f g past r1, Trc P E call (l.drop p) f g past r1 (rs.drop p) fr' h' pf ∧ FrAt l rs fr (fun q => q < p) f ∧ past.length = effN l p
  | 0, _ => ⟨fr, h, [], rid, t, FrAt.nil fun p => Nat.not_lt_zero p, rfl⟩
  | p + 1, hp => by
    obtain ⟨f, g, past, r1, h1, h2, h3⟩ := trc_cut t hd p (by omega)
    have hlt : p < l.length := hp
    have hlr : p < rs.length := by rw [trc_len t]; exact hp
    rw [List.drop_eq_getElem_cons hlt, List.drop_eq_getElem_cons hlr] at h1
    have ho : l[p]? = some (l[p].1, l[p].2) := List.getElem?_eq_getElem hlt
    obtain ⟨_, _, _, _, _, g1, past1, rid1, h4, h5, _⟩ := trc_head (o := l[p].1) (k := l[p].2) h1
    refine ⟨_, g1, past1, rid1, h4, ?_, by rw [effN_succ ho, h5, h3]⟩
    exact (h2.step hd ho (List.getElem?_eq_getElem hlr)).mono fun q _ => by omega
end
end Go.Proofs.YtjnfgapfhpihmaaGreat
namespace Go.Proofs.YtjnfgapfhpihmaaGreat
section
variable {P : Program} {E : Env} {ρ : Vn} {φ φ' φ0 : Emb} {fr : Fr} {a : Act} {h0 hp h1 H H' : Hp} {w w' w0 : World}
theorem Stp.over (S : Stp ρ φ0 h0 w0 φ H w) (hsub : ∀ id b, hp.get id = some b → H.get id = some b) (hnx : hp.next = H.next) (T : Stp ρ φ hp w φ' h1 w') (hn : H'.next = h1.next) (hg : ∀ id b, H'.get id = some b → h1.get id = some b ∨ (hp.get id = none ∧ H.get id = some b)) : Stp ρ φ0 h0 w0 φ' H' w' := by
  have live : ∀ id, (hp.get id).isSome = true → (H.get id).isSome = true := by
    intro id hi
    obtain ⟨b, hb⟩ := Option.isSome_iff_exists.1 hi
    rw [hsub id b hb]; rfl
  have early : ∀ id b, hp.get id = none → H.get id = some b → ∃ x, φ id = some x ∧ φ' id = some x ∧ x.1 < w.heap.size ∧ w'.heap[x.1]? = w.heap[x.1]? ∧ (∀ id0 x0, (hp.get id0).isSome = true → φ id0 = some x0 → x0.1 ≠ x.1) := by
    intro id b hn hb
    obtain ⟨x, hx⟩ := S.rel.has (id := id) (by rw [hb]; rfl)
    have hne : ∀ id0 x0, (hp.get id0).isSome = true → φ id0 = some x0 → x0.1 ≠ x.1 := by
      intro id0 x0 hi0 hx0 he
      have := S.rel.inj id0 id x0 x (live id0 hi0) (by rw [hb]; rfl) hx0 hx he
      subst this
      rw [hn] at hi0; cases hi0
    have hlt := S.rel.block (id := id) (by rw [hb]; rfl) hx
    exact ⟨x, hx, T.le _ _ hx, hlt, T.frame _ hlt hne, hne⟩
  have hfz : Frz ρ φ' H' w' := ⟨T.rel.frz.zin, fun b x hb => ⟨(T.rel.frz.at_ b x hb).1, fun i y hi hy => by
    obtain ⟨B, hB⟩ := Option.isSome_iff_exists.1 hi
    rcases hg i B hB with h3 | ⟨h3, h4⟩
    · exact (T.rel.frz.at_ b x hb).2 i y (by rw [h3]; rfl) hy
    · obtain ⟨z, k1, k2, k3, _, k5⟩ := early i _ h3 h4
      rw [k2] at hy; cases hy
      rcases T.zdom b x hb with h5 | h5 | ⟨id0, x0, h5, h6, h7⟩
      · exact (S.rel.frz.at_ b x h5).2 i _ (by rw [h4]; rfl) k1
      · omega
      · rw [← h7]; exact fun he => k5 id0 x0 h5 h6 he.symm⟩⟩
  have hzd : ∀ b x, φ'.z b = some x → φ0.z b = some x ∨ w0.heap.size ≤ b ∨ ∃ id y, (h0.get id).isSome ∧ φ0 id = some y ∧ y.1 = b := by
    intro b x hb
    rcases T.zdom b x hb with h5 | h5 | ⟨id0, x0, h5, h6, h7⟩
    · exact S.zdom b x h5
    · exact .inr (.inl (Nat.le_trans S.size h5))
    · by_cases hlt : b < w0.heap.size
      · obtain ⟨id1, x1, h8, h9, h10⟩ := S.sub id0 x0 (live id0 h5) h6 (by omega)
        exact .inr (.inr ⟨id1, x1, h8, h9, h10.trans h7⟩)
      · exact .inr (.inl (by omega))
  refine ⟨S.le.trans T.le, ⟨⟨?_, ?_, ?_, ?_, ?_, ?_⟩, hfz⟩, Nat.le_trans S.size T.size, ?_, ?_, ?_, ?_, T.os.trans S.os, T.tape.trans S.tape, T.output.trans S.output, hzd⟩
  · intro id c hc
    rcases hg id _ hc with h3 | ⟨h3, h4⟩
    · exact T.rel.cells id c h3
    · obtain ⟨x, k1, k2, k3, k4, _⟩ := early id _ h3 h4
      obtain ⟨b, base, arr, Ty, g1, g2, g3⟩ := S.rel.cells id c h4
      rw [k1] at g1
      cases g1
      exact ⟨b, base, arr, Ty, k2, by rw [k4]; exact g2, g3.le T.le⟩
  · intro id l hc
    rcases hg id _ hc with h3 | ⟨h3, h4⟩
    · exact T.rel.maps id l h3
    · obtain ⟨x, k1, k2, k3, k4, _⟩ := early id _ h3 h4
      obtain ⟨b, es, cl, g1, g2, g3⟩ := S.rel.maps id l h4
      rw [k1] at g1
      cases g1
      exact ⟨b, es, cl, k2, by rw [k4]; exact g2, g3.mono fun _ _ h => ⟨h.1.le T.le, h.2.le T.le⟩⟩
  · intro id d y hc
    rcases hg id _ hc with h3 | ⟨h3, h4⟩
    · exact T.rel.rows id d y h3
    · obtain ⟨x, k1, k2, k3, k4, _⟩ := early id _ h3 h4
      obtain ⟨b, arr, Ty, g1, g2, g3⟩ := S.rel.rows id d y h4
      rw [k1] at g1
      cases g1
      exact ⟨b, arr, Ty, k2, by rw [k4]; exact g2, g3.le T.le.z⟩
  · intro id id' x x' hi hi' hx hx' he
    obtain ⟨b, hb⟩ := Option.isSome_iff_exists.1 hi
    obtain ⟨b', hb'⟩ := Option.isSome_iff_exists.1 hi'
    rcases hg id b hb with h3 | ⟨h3, h4⟩
    · rcases hg id' b' hb' with h5 | ⟨h5, h6⟩
      · exact T.rel.inj id id' x x' (by rw [h3]; rfl) (by rw [h5]; rfl) hx hx' he
      · obtain ⟨y, k1, k2, k3, k4, k5⟩ := early id' _ h5 h6
        rw [k2] at hx'; cases hx'
        obtain ⟨id0, x0, g1, g2, g3⟩ := T.sub id x (by rw [h3]; rfl) hx (by omega)
        exact absurd (g3.trans he) (k5 id0 x0 g1 g2)
    · obtain ⟨y, k1, k2, k3, k4, k5⟩ := early id _ h3 h4
      rw [k2] at hx; cases hx
      rcases hg id' b' hb' with h5 | ⟨h5, h6⟩
      · obtain ⟨id0, x0, g1, g2, g3⟩ := T.sub id' x' (by rw [h5]; rfl) hx' (by omega)
        exact absurd (g3.trans he.symm) (k5 id0 x0 g1 g2)
      · obtain ⟨y', k1', k2', _⟩ := early id' _ h5 h6
        rw [k2'] at hx'; cases hx'
        exact S.rel.inj id id' _ _ (by rw [h4]; rfl) (by rw [h6]; rfl) k1 k1' he
  · intro id hi
    obtain ⟨b, hb⟩ := Option.isSome_iff_exists.1 hi
    rw [hn]
    rcases hg id b hb with h3 | ⟨h3, h4⟩
    · exact T.rel.low id (by rw [h3]; rfl)
    · have := S.rel.low id (by rw [h4]; rfl)
      have := T.next
      rw [hnx] at this
      omega
  · intro id hi
    rw [hn] at hi
    exact T.rel.free id hi
  · intro g hg0 hne
    rw [T.frame g (Nat.lt_of_lt_of_le hg0 S.size) fun id x hi hx he => ?_]
    · exact S.frame g hg0 hne
    · obtain ⟨id0, x0, k1, k2, k3⟩ := S.sub id x (live id hi) hx (by omega)
      exact hne id0 x0 k1 k2 (k3.trans he)
  · intro id x hi hx hlt
    obtain ⟨b, hb⟩ := Option.isSome_iff_exists.1 hi
    rcases hg id b hb with h3 | ⟨h3, h4⟩
    · obtain ⟨id1, x1, k1, k2, k3⟩ := T.sub id x (by rw [h3]; rfl) hx (Nat.lt_of_lt_of_le hlt S.size)
      obtain ⟨id0, x0, g1, g2, g3⟩ := S.sub id1 x1 (live id1 k1) k2 (by omega)
      exact ⟨id0, x0, g1, g2, g3.trans k3⟩
    · obtain ⟨y, k1, k2, _⟩ := early id _ h3 h4
      rw [k2] at hx; cases hx
      exact S.sub id _ (by rw [h4]; rfl) k1 hlt
  · rw [hn]
    have := S.next
    have := T.next
    rw [hnx] at this
    omega
  · intro id hd
    have := S.next
    rcases T.dom id hd with h3 | h3
    · exact S.dom id h3
    · rw [hnx] at h3
      exact .inr (by omega)
theorem Stp.part (S : Stp ρ φ0 h0 w0 φ H w) (hsub : ∀ id b, hp.get id = some b → H.get id = some b) (hnx : hp.next = H.next) : Rel ρ φ hp w := by
  have live : ∀ id, (hp.get id).isSome = true → (H.get id).isSome = true := by
    intro id hi
    obtain ⟨b, hb⟩ := Option.isSome_iff_exists.1 hi
    rw [hsub id b hb]; rfl
  exact ⟨⟨fun id c hc => S.rel.cells id c (hsub id _ hc), fun id l hl => S.rel.maps id l (hsub id _ hl), fun id d y hl => S.rel.rows id d y (hsub id _ hl), fun id id' x x' h1 h2 => S.rel.inj id id' x x' (live id h1) (live id' h2), fun id hi => by rw [hnx]; exact S.rel.low id (live id hi), fun id hi => S.rel.free id (by rw [← hnx]; exact hi)⟩, ⟨S.rel.frz.zin, fun b x hb => ⟨(S.rel.frz.at_ b x hb).1, fun i y hi => (S.rel.frz.at_ b x hb).2 i y (live i hi)⟩⟩⟩
theorem Stp.push (S : Stp ρ φ0 h0 w0 φ H w) {id : Bid} (hid : φ id = none) (hlo : h0.next.num ≤ id.num) (hhi : id.num < H.next.num) {blk : Obj} {tot : Nat} {B : AB}
    (hb : (∃ c vs T, B = .cells c ∧ blk = .cells (List.toArray vs) T (0, 0) ∧ tot = vs.length ∧ All2 (VC ρ φ) c vs) ∨ (B = .map [] ∧ blk = .map #[] 0 ∧ tot = 0)) :
    Stp ρ φ0 h0 w0 (φ.add id (w.heap.size, 0, tot)) (H.putB id (some B)) { w with heap := w.heap.push blk } := by
  have hle := Emb.le_add hid (w.heap.size, 0, tot)
  have hold : ∀ g, g < w.heap.size → (w.heap.push blk)[g]? = w.heap[g]? := fun g hg => by rw [Array.getElem?_push_lt hg, Array.getElem?_eq_getElem hg]
  have hnew : (w.heap.push blk)[w.heap.size]? = some blk := by simp
  have hfz : Frz ρ (φ.add id (w.heap.size, 0, tot)) (H.putB id (some B)) { w with heap := w.heap.push blk } := ⟨S.rel.frz.zin, fun b x hb => by
    obtain ⟨k1, k2⟩ := S.rel.frz.at_ b x hb
    have hlt := (Array.getElem?_eq_some_iff.1 k1).1
    refine ⟨(hold b hlt).trans k1, fun i y hi hy he => ?_⟩
    by_cases h1 : i = id
    · subst h1
      rw [Emb.add_same] at hy; cases hy
      simp only at he
      omega
    · rw [Hp.get_putB_ne h1] at hi
      rw [Emb.add_ne h1] at hy
      exact k2 i y hi hy he⟩
  refine ⟨S.le.trans hle, ⟨⟨?_, ?_, ?_, ?_, ?_, ?_⟩, hfz⟩, by have := S.size; simp; omega, ?_, ?_, by rw [Hp.next_putB]; exact S.next, ?_, S.os, S.tape, S.output, S.zdom⟩
  · intro i c hc
    by_cases hi : i = id
    · subst hi
      rw [Hp.get_putB] at hc
      cases hc
      rcases hb with ⟨c', vs, T, hB, rfl, rfl, hv⟩ | ⟨hB, _⟩
      · cases hB
        refine ⟨w.heap.size, 0, vs.toArray, T, by rw [Emb.add_same]; simp, hnew, by have := hv.length; simp; omega, fun o x hx => ?_⟩
        obtain ⟨v, h3, h4⟩ := hv.get hx
        exact ⟨v, by simpa using h3, h4.le hle⟩
      · cases hB
    · rw [Hp.get_putB_ne hi] at hc
      obtain ⟨b, base, arr, T, k1, k2, k3⟩ := S.rel.cells i c hc
      have := S.rel.block (id := i) (by rw [hc]; rfl) k1
      exact ⟨b, base, arr, T, hle _ _ k1, by rw [hold _ this]; exact k2, k3.le hle⟩
  · intro i l hc
    by_cases hi : i = id
    · subst hi
      rw [Hp.get_putB] at hc
      cases hc
      rcases hb with ⟨c', vs, T, hB, _⟩ | ⟨hB, rfl, rfl⟩
      · cases hB
      · cases hB
        exact ⟨w.heap.size, #[], 0, Emb.add_same _ _ _, hnew, .nil⟩
    · rw [Hp.get_putB_ne hi] at hc
      obtain ⟨b, es, cl, k1, k2, k3⟩ := S.rel.maps i l hc
      have := S.rel.block (id := i) (by rw [hc]; rfl) k1
      exact ⟨b, es, cl, hle _ _ k1, by rw [hold _ this]; exact k2, k3.mono fun _ _ h => ⟨h.1.le hle, h.2.le hle⟩⟩
  · intro i d y hc
    by_cases hi : i = id
    · subst hi
      rw [Hp.get_putB] at hc
      cases hc
      rcases hb with ⟨c', vs, T, hB, _⟩ | ⟨hB, _⟩ <;> cases hB
    · rw [Hp.get_putB_ne hi] at hc
      obtain ⟨b, arr, T, k1, k2, k3⟩ := S.rel.rows i d y hc
      have := S.rel.block (id := i) (by rw [hc]; rfl) k1
      exact ⟨b, arr, T, hle _ _ k1, by rw [hold _ this]; exact k2, k3⟩
  · intro i j x y hi hj hx hy he
    by_cases h1 : i = id
    · by_cases h2 : j = id
      · rw [h1, h2]
      · subst h1
        rw [Emb.add_same] at hx; cases hx
        rw [Hp.get_putB_ne h2] at hj
        rw [Emb.add_ne h2] at hy
        have := S.rel.block hj hy
        simp only at he
        omega
    · rw [Hp.get_putB_ne h1] at hi
      rw [Emb.add_ne h1] at hx
      by_cases h2 : j = id
      · subst h2
        rw [Emb.add_same] at hy; cases hy
        have := S.rel.block hi hx
        simp only at he
        omega
      · rw [Hp.get_putB_ne h2] at hj
        rw [Emb.add_ne h2] at hy
        exact S.rel.inj i j x y hi hj hx hy he
  · intro i hi
    rw [Hp.next_putB]
    by_cases h1 : i = id
    · subst h1; exact hhi
    · rw [Hp.get_putB_ne h1] at hi
      exact S.rel.low i hi
  · intro i hi
    rw [Hp.next_putB] at hi
    rw [Emb.add_ne (by rintro rfl; omega)]
    exact S.rel.free i hi
  · intro g hg hne
    show (w.heap.push blk)[g]? = _
    rw [hold g (Nat.lt_of_lt_of_le hg S.size)]
    exact S.frame g hg hne
  · intro i x hi hx hlt
    by_cases h1 : i = id
    · subst h1
      rw [Emb.add_same] at hx; cases hx
      have := S.size
      simp only at hlt
      omega
    · rw [Hp.get_putB_ne h1] at hi
      rw [Emb.add_ne h1] at hx
      exact S.sub i x hi hx hlt
  · intro i hd
    by_cases h1 : i = id
    · subst h1; exact .inr hlo
    · rw [Emb.add_ne h1] at hd
      exact S.dom i hd
theorem make_of {op : Op} {ao : AO} (hc : cOp P op = some ao) (hk : kindOf ao = 2) (hf : FR ρ φ fr a.tmps) {v : AV} {ty : TypeId} {h h' : Hp} (e : aop P E noCall ao fr h = .ok v h') : MkRes P ρ φ h w v h' op a.eval ty := by
  cases op with
  | alloc t => exact mk_al hf hc e
  | box t x => exact mk_bx hf hc e
  | buildSlice t len parts => exact mk_bs hf hc e
  | makeMap t o => exact mk_mm hc e
  | makeSlice t x y => exact mk_ms hf hc e
  | unOp uo t x =>
    exfalso
    cases uo <;> first | (cases hc; simp [kindOf] at hk; done) | (obtain ⟨_, _, rfl⟩ := map_some (show (cX x).map AO.not = some _ from hc); simp [kindOf] at hk; done) | (simp [cOp] at hc; done)
  | _ =>
    exfalso
    clear e
    revert hc hk
    simp only [cOp]
    (try unfold cEqa)
    (try unfold cMu)
    (try unfold cAp)
    (repeat' split) <;> intro hk hc <;> first | (cases hc; done) | (obtain ⟨_, _, rfl⟩ := map_some hc; simp [kindOf] at hk; done) | (cases hc; simp [kindOf] at hk; done) | (obtain ⟨_, _, _, _, _, _, _, rfl⟩ := cOv_ok hc; simp [kindOf] at hk; done) | contradiction
end
end Go.Proofs.YtjnfgapfhpihmaaGreat
namespace Go.Proofs.YtjnfgapfhpihmaaGreat
section
variable {P : Program} {E : Env} {call : CallF} {l : List (AOp × AK)} {fr fr' : Fr} {h h' : Hp} {past pf : List Hp} {rid : Bid} {rs : List Rec}
theorem trc_fresh (t : Trc P E call l fr h past rid rs fr' h' pf) : ∀ r ∈ rs, r.made.isSome = true → ∀ s ∈ line past h, s.get r.rid = none := by
  induction t with
  | nil => intro r hr; cases hr
  | skip hw t ih =>
    rename_i o k l fr fr' h h' past pf rid rs
    intro r hr hm s hs
    rcases List.mem_cons.1 hr with rfl | hr
    · cases hm
    · refine ih r hr hm s ?_
      cases k with
      | effect => show s ∈ line (h :: past) h; rw [line_cons]; exact List.mem_append_left _ hs
      | _ => exact hs
  | pure hw ho t ih =>
    intro r hr hm s hs
    rcases List.mem_cons.1 hr with rfl | hr
    · cases hm
    · exact ih r hr hm s hs
  | read hw ho hsi t ih =>
    intro r hr hm s hs
    rcases List.mem_cons.1 hr with rfl | hr
    · cases hm
    · exact ih r hr hm s hs
  | make hw ho hb hri hn t ih =>
    rename_i o l fr fr' h h' h1 past pf rid r1 rs v b
    intro r hr hm s hs
    rcases List.mem_cons.1 hr with rfl | hr
    · exact fresh_of hn (line_mem.1 hs)
    · have := ih r hr hm (s.putB rid (some b)) (by rw [line_put]; exact List.mem_map_of_mem hs)
      by_cases hne : r.rid = rid
      · rw [hne, Hp.get_putB] at this; cases this
      · rwa [Hp.get_putB_ne hne] at this
  | effect hw ho t ih =>
    intro r hr hm s hs
    rcases List.mem_cons.1 hr with rfl | hr
    · cases hm
    · exact ih r hr hm s (by rw [line_cons]; exact List.mem_append_left _ hs)
theorem drop_at {α : Type} {l : List α} {p : Nat} {x : α} (h : l[p]? = some x) : l.drop p = x :: l.drop (p + 1) := by
  obtain ⟨hlt, rfl⟩ := List.getElem?_eq_some_iff.1 h
  exact List.drop_eq_getElem_cons hlt
theorem made_final (t : Trc P E call l fr h past rid rs fr' h' pf) {q : Nat} {r : Rec} (hr : rs[q]? = some r) {b : AB} (hm : r.made = some b) {i : Nat} (hi : i ≤ r.past.length) : ∃ s, (line pf h')[i]? = some s ∧ s.get r.rid = some b := by
  have t1 := trc_at t q r hr
  rw [drop_at hr] at t1
  have hlt : q < l.length := by rw [← trc_len t]; exact (List.getElem?_eq_some_iff.1 hr).1
  rw [List.drop_eq_getElem_cons hlt] at t1
  have hex : i < (line r.past r.h).length := by rw [line_len]; omega
  generalize l[q] = x at t1
  obtain ⟨rb, rv, rfr, rh, rpast, rrid, rmade⟩ := r
  dsimp only at t1 hm hi hex ⊢
  cases t1 with
  | make hw ho hb hri hn t2 =>
    cases hm
    obtain ⟨s', h2, g⟩ := trc_grow t2 i (((line _ _)[i]'hex).putB _ (some b)) (by rw [line_put, List.getElem?_map, List.getElem?_eq_getElem hex]; rfl)
    exact ⟨s', h2, g.keep _ _ (Hp.get_putB _ _ _)⟩
  | _ => cases hm
theorem rid_lt (t : Trc P E call l fr h past rid rs fr' h' pf) {q q' : Nat} {r r' : Rec} (hr : rs[q]? = some r) (hr' : rs[q']? = some r') (hm : r.made.isSome = true) (hq : q < q') : r.rid.num < r'.rid.num := by
  have t1 := trc_at t q r hr
  rw [drop_at hr] at t1
  have hlt : q < l.length := by rw [← trc_len t]; exact (List.getElem?_eq_some_iff.1 hr).1
  rw [List.drop_eq_getElem_cons hlt] at t1
  generalize l[q] = x at t1
  have hmem : r' ∈ rs.drop (q + 1) := by
    refine List.mem_of_getElem? (i := q' - (q + 1)) ?_
    rw [List.getElem?_drop, show q + 1 + (q' - (q + 1)) = q' by omega]
    exact hr'
  obtain ⟨rb, rv, rfr, rh, rpast, rrid, rmade⟩ := r
  dsimp only at t1 hm ⊢
  cases t1 with
  | make hw ho hb hri hn t2 =>
    have := trc_rid t2 r' hmem
    have := Bid.inc_num hri
    omega
  | _ => cases hm
theorem rid_inj (t : Trc P E call l fr h past rid rs fr' h' pf) {q q' : Nat} {r r' : Rec} (hr : rs[q]? = some r) (hr' : rs[q']? = some r') (hm : r.made.isSome = true) (hm' : r'.made.isSome = true) (he : r.rid = r'.rid) : q = q' := by
  rcases Nat.lt_trichotomy q q' with h1 | h1 | h1
  · have := rid_lt t hr hr' hm h1; rw [he] at this; omega
  · exact h1
  · have := rid_lt t hr' hr hm' h1; rw [he] at this; omega
theorem effN_mono (l : List (AOp × AK)) {b p : Nat} (h : b ≤ p) : effN l b ≤ effN l p := by
  unfold effN
  exact List.Sublist.length_le (List.Sublist.filter _ (List.take_sublist_take_left h))
theorem effN_const {b : Nat} : ∀ {p : Nat}, b ≤ p → p ≤ l.length → (∀ q o k, b ≤ q → q < p → l[q]? = some (o, k) → isEff k = false) → effN l b = effN l p
  | 0, hb, _, _ => by rw [Nat.le_zero.1 hb]
  | p + 1, hb, hp, hq => by
    rcases Nat.lt_or_ge p b with h1 | h1
    · rw [show b = p + 1 by omega]
    · have hlt : p < l.length := hp
      have ho : l[p]? = some (l[p].1, l[p].2) := List.getElem?_eq_getElem hlt
      rw [effN_succ ho, hq p _ _ h1 (by omega) ho, effN_const h1 (by omega) fun q o k h2 h3 => hq q o k h2 (by omega)]
      rfl
theorem sameIn_get {o : AO} {v : AV} : ∀ {n : Nat} {past : List Hp}, sameIn P E o fr v n past = true → ∀ (k : Nat) s, k < n → past[k]? = some s → ∃ h1, aop P E noCall o fr s = .ok v h1
  | 0, _, _, k, s, hk, _ => by omega
  | n + 1, [], e, _, _, _, _ => by cases e
  | n + 1, g :: past, e, k, s, hk, hs => by
    have e' : ((match aop P E noCall o fr g with | .ok u _ => AV.beq u v | .no => false) && sameIn P E o fr v n past) = true := e
    rw [Bool.and_eq_true] at e'
    cases k with
    | zero =>
      simp at hs
      subst hs
      cases hop : aop P E noCall o fr g with
      | no => rw [hop] at e'; exact absurd e'.1 (by simp)
      | ok u h1 =>
        rw [hop] at e'
        have : AV.beq u v = true := e'.1
        refine ⟨h1, ?_⟩
        congr 1
        cases u <;> cases v <;> first | (exact absurd this Bool.false_ne_true) | (have h2 : decide _ = true := this; rw [of_decide_eq_true h2])
    | succ k => exact sameIn_get e'.2 k s (by omega) (by simpa using hs)
theorem exists_drop : ∀ (ids : List Bid) (S : Hp), ∃ H : Hp, H.next = S.next ∧ (∀ id, id ∈ ids → H.get id = none) ∧ (∀ id, id ∉ ids → H.get id = S.get id)
  | [], S => ⟨S, rfl, fun id h => absurd h List.not_mem_nil, fun _ _ => rfl⟩
  | i :: ids, S => by
    obtain ⟨H, h1, h2, h3⟩ := exists_drop ids S
    refine ⟨H.putB i none, by rw [Hp.next_putB, h1], fun id hid => ?_, fun id hid => ?_⟩
    · by_cases he : id = i
      · subst he; exact Hp.get_putB _ _ _
      · rw [Hp.get_putB_ne he]
        exact h2 id ((List.mem_cons.1 hid).resolve_left he)
    · rw [Hp.get_putB_ne fun he => hid (by rw [he]; exact List.mem_cons_self)]
      exact h3 id fun hm => hid (List.mem_cons_of_mem _ hm)
theorem line_get {past : List Hp} {h : Hp} {j : Nat} (hj : j < past.length) : (line past h)[j]? = past[past.length - 1 - j]? := by
  unfold line
  rw [List.getElem?_append_left (by simpa using hj), List.getElem?_reverse hj]
theorem line_last {past : List Hp} {h : Hp} : (line past h)[past.length]? = some h := by
  unfold line
  rw [List.getElem?_append_right (by simp)]
  simp
end
theorem Hp.get_raise (m : Bid) (H : Hp) (id : Bid) : (Hp.mk m H.bl).get id = H.get id := by cases H; rfl
theorem Stp.raise {ρ : Vn} {φ0 φ : Emb} {h0 H : Hp} {w0 w : World} (S : Stp ρ φ0 h0 w0 φ H w) {m : Bid} (hm : H.next.num ≤ m.num) : Stp ρ φ0 h0 w0 φ ⟨m, H.bl⟩ w :=
  ⟨S.le, ⟨⟨fun id c hc => S.rel.cells id c (by rw [← Hp.get_raise m]; exact hc), fun id l hl => S.rel.maps id l (by rw [← Hp.get_raise m]; exact hl), fun id d y hl => S.rel.rows id d y (by rw [← Hp.get_raise m]; exact hl), fun i j x y hi hj => S.rel.inj i j x y (by rw [← Hp.get_raise m]; exact hi) (by rw [← Hp.get_raise m]; exact hj),
    fun i hi => Nat.lt_of_lt_of_le (S.rel.low i (by rw [← Hp.get_raise m]; exact hi)) hm, fun i hi => S.rel.free i (Nat.le_trans hm hi)⟩, ⟨S.rel.frz.zin, fun b x hb => ⟨(S.rel.frz.at_ b x hb).1, fun i y hi => (S.rel.frz.at_ b x hb).2 i y (by rw [← Hp.get_raise m]; exact hi)⟩⟩⟩, S.size, S.frame, fun i x hi => S.sub i x (by rw [← Hp.get_raise m]; exact hi), Nat.le_trans S.next hm, S.dom, S.os, S.tape, S.output, S.zdom⟩
theorem perm_ok {n : Nat} {order : List Nat} (h : drawPerm n order = true) : order.length = n ∧ (∀ i, i < n → ∃ p, p < n ∧ order.getD p 0 = i) ∧ (∀ p, p < n → order.getD p 0 < n) ∧ (∀ p q, p < q → q < n → order.getD p 0 ≠ order.getD q 0) := by
  simp only [drawPerm, Bool.and_eq_true, List.all_eq_true, List.mem_range, beq_iff_eq, decide_eq_true_eq, Bool.not_eq_true', beq_eq_false_iff_ne, ne_eq] at h
  obtain ⟨⟨⟨h1, h2⟩, h3⟩, h4⟩ := h
  refine ⟨h1, fun i hi => ?_, fun p hp => ?_, fun p q hpq hq => h4 q hq p hpq⟩
  · have hm : i ∈ order := by simpa using h2 i hi
    obtain ⟨p, hp, he⟩ := List.getElem_of_mem hm
    exact ⟨p, by omega, by simp [List.getD, hp, he]⟩
  · have hp' : p < order.length := by omega
    have : order.getD p 0 = order[p] := by simp [List.getD, hp']
    rw [this]
    exact h3 _ (List.getElem_mem hp')
theorem kind_le (ao : AO) : kindOf ao ≤ 3 := by cases ao <;> simp [kindOf]
section
variable {bm ks order : List Nat} {n i : Nat} {ao : AO}
theorem ak_cases : (kindOf ao = 0 ∧ akOf bm ks order n i ao = .pure) ∨ (kindOf ao = 1 ∧ akOf bm ks order n i ao = .read (loOf bm ks order n i)) ∨ (kindOf ao = 2 ∧ akOf bm ks order n i ao = .make) ∨ (kindOf ao = 3 ∧ akOf bm ks order n i ao = .effect) := by
  have := kind_le ao
  have hc : kindOf ao = 0 ∨ kindOf ao = 1 ∨ kindOf ao = 2 ∨ kindOf ao = 3 := by omega
  unfold akOf
  rcases hc with h | h | h | h <;> rw [h] <;> simp
theorem ak_pure (h : akOf bm ks order n i ao = .pure) : kindOf ao = 0 := by
  rcases ak_cases (bm := bm) (ks := ks) (order := order) (n := n) (i := i) (ao := ao) with ⟨h1, h2⟩ | ⟨h1, h2⟩ | ⟨h1, h2⟩ | ⟨h1, h2⟩ <;> rw [h] at h2 <;> first | exact h1 | cases h2
theorem ak_read {lo : Nat} (h : akOf bm ks order n i ao = .read lo) : kindOf ao = 1 ∧ lo = loOf bm ks order n i := by
  rcases ak_cases (bm := bm) (ks := ks) (order := order) (n := n) (i := i) (ao := ao) with ⟨h1, h2⟩ | ⟨h1, h2⟩ | ⟨h1, h2⟩ | ⟨h1, h2⟩ <;> rw [h] at h2 <;> cases h2
  exact ⟨h1, rfl⟩
theorem ak_make (h : akOf bm ks order n i ao = .make) : kindOf ao = 2 := by
  rcases ak_cases (bm := bm) (ks := ks) (order := order) (n := n) (i := i) (ao := ao) with ⟨h1, h2⟩ | ⟨h1, h2⟩ | ⟨h1, h2⟩ | ⟨h1, h2⟩ <;> rw [h] at h2 <;> first | exact h1 | cases h2
theorem ak_eff (h : akOf bm ks order n i ao = .effect) : kindOf ao = 3 := by
  rcases ak_cases (bm := bm) (ks := ks) (order := order) (n := n) (i := i) (ao := ao) with ⟨h1, h2⟩ | ⟨h1, h2⟩ | ⟨h1, h2⟩ | ⟨h1, h2⟩ <;> rw [h] at h2 <;> first | exact h1 | cases h2
theorem ak_eff' : isEff (akOf bm ks order n i ao) = true ↔ kindOf ao = 3 := by
  rcases ak_cases (bm := bm) (ks := ks) (order := order) (n := n) (i := i) (ao := ao) with ⟨h1, h2⟩ | ⟨h1, h2⟩ | ⟨h1, h2⟩ | ⟨h1, h2⟩ <;> rw [h1, h2] <;> simp [isEff]
end
theorem noCall_kind {P : Program} {E : Env} {call : CallF} {ao : AO} (h : kindOf ao ≠ 3) : aop P E call ao = aop P E noCall ao :=
  aop_noCall (fun f l he => by subst he; simp [kindOf] at h) (fun f l he => by subst he; simp [kindOf] at h)
structure Ctx (P : Program) (N : Nat) (ops : Array Oper) (l : List AOp) (bm ks order : List Nat) : Prop where
  hl : mapO (cOper P N ops) ops.toList = some l
  hks : ks = l.map fun o => kindOf o.op
  perm : drawPerm ops.size order = true
  edges : drawEdges ops bm ops.size = true
  keeps : drawKeeps bm ks order ops.size = true
  dsts : drawDsts ops bm ops.size = true
def dlOf (n : Nat) (l : List AOp) (bm ks order : List Nat) : List (AOp × AK) := order.map fun i => (l.getD i default, akOf bm ks order n i (l.getD i default).op)
section
variable {P : Program} {N : Nat} {ops : Array Oper} {l : List AOp} {bm ks order : List Nat}
theorem Ctx.at (c : Ctx P N ops l bm ks order) {p : Nat} (hp : p < ops.size) : ∃ o ao, ops[order.getD p 0]? = some o ∧ cOper P N ops o = some ao ∧ (dlOf ops.size l bm ks order)[p]? = some (ao, akOf bm ks order ops.size (order.getD p 0) ao.op) ∧ ks.getD (order.getD p 0) 0 = kindOf ao.op := by
  obtain ⟨h1, h2, h3, h4⟩ := perm_ok c.perm
  have hi := h3 p hp
  obtain ⟨ao, h5, h6⟩ := (mapO_get c.hl).2 (order.getD p 0) ops[order.getD p 0] (by simp [hi])
  have hlen := (mapO_get c.hl).1
  have hp' : p < order.length := by omega
  have hop : order[p]? = some (order.getD p 0) := by simp [List.getD, hp']
  have hld : l.getD (order.getD p 0) default = ao := by rw [List.getD_eq_getElem?_getD, h5]; rfl
  refine ⟨ops[order.getD p 0], ao, by simp [hi], h6, ?_, ?_⟩
  · unfold dlOf
    rw [List.getElem?_map, hop]
    simp only [Option.map_some, hld]
  · rw [c.hks, List.getD_eq_getElem?_getD, List.getElem?_map, h5]
    rfl
theorem Ctx.len (c : Ctx P N ops l bm ks order) : (dlOf ops.size l bm ks order).length = ops.size := by
  simp [dlOf, (perm_ok c.perm).1]
theorem Ctx.edge (c : Ctx P N ops l bm ks order) {i : Nat} {o : Oper} (ho : ops[i]? = some o) : (∀ e ∈ o.after, Region.binds .any e = true → e.on < i) ∧ ∀ j, j < ops.size → bAt bm i j = true → ∃ e ∈ o.after, Region.binds .any e = true ∧ (e.on = j ∨ bAt bm e.on j = true) := by
  have hi : i < ops.size := (Array.getElem?_eq_some_iff.1 ho).1
  have := c.edges
  simp only [drawEdges, List.all_eq_true, List.mem_range] at this
  have h1 := this i hi
  rw [ho] at h1
  simp only [Bool.and_eq_true, List.all_eq_true, List.mem_range, Bool.or_eq_true, Bool.not_eq_true', decide_eq_true_eq, List.any_eq_true, beq_iff_eq, Array.mem_toList_iff] at h1
  refine ⟨fun e he hb => (h1.1 e he).resolve_left (by rw [hb]; simp), fun j hj hb => ?_⟩
  obtain ⟨e, he, h2, h3⟩ := (h1.2 j hj).resolve_left (by rw [hb]; simp)
  exact ⟨e, he, h2, h3⟩
theorem Ctx.keep (c : Ctx P N ops l bm ks order) {p q : Nat} (hpq : p < q) (hq : q < ops.size) : bAt bm (order.getD p 0) (order.getD q 0) = false ∧
    (ks.getD (order.getD q 0) 0 = 3 → bAt bm (order.getD q 0) (order.getD p 0) = true ∨ ∃ r, p < r ∧ r < q ∧ ks.getD (order.getD r 0) 0 = 3 ∧ bAt bm (order.getD r 0) (order.getD p 0) = true) := by
  have := c.keeps
  simp only [drawKeeps, List.all_eq_true, List.mem_range, Bool.and_eq_true, Bool.not_eq_true', Bool.or_eq_true, List.any_eq_true, beq_iff_eq, decide_eq_true_eq, beq_eq_false_iff_ne, ne_eq] at this
  have h1 := this q hq p hpq
  refine ⟨h1.1, fun hk => ?_⟩
  rcases h1.2 with h2 | h2 | ⟨r, hr, ⟨h3, h4⟩, h5⟩
  · exact absurd hk h2
  · exact .inl h2
  · exact .inr ⟨r, h3, hr, h4, h5⟩
theorem Ctx.dst (c : Ctx P N ops l bm ks order) {i j : Nat} (hne : i ≠ j) {x y : Oper} (hx : ops[i]? = some x) (hy : ops[j]? = some y) {t : Tmp} (ht : y.dst = some t) : x.dst ≠ some t ∧ (t ∈ looks ops x → bAt bm i j = true ∨ bAt bm j i = true) := by
  have := c.dsts
  simp only [drawDsts, List.all_eq_true, List.mem_range] at this
  have h1 := this i (Array.getElem?_eq_some_iff.1 hx).1 j (Array.getElem?_eq_some_iff.1 hy).1
  rw [hx, hy] at h1
  simp only [ht, Bool.or_eq_true, beq_iff_eq, hne, false_or, Bool.and_eq_true, Bool.not_eq_true', beq_eq_false_iff_ne, ne_eq] at h1
  refine ⟨h1.1, fun hm => ?_⟩
  rcases h1.2 with (h2 | h2) | h2
  · rw [List.contains_eq_mem, decide_eq_false_iff_not] at h2; exact absurd hm h2
  · exact .inl h2
  · exact .inr h2
theorem dst_tmp {o : Oper} {ao : AOp} (hc : cOper P N ops o = some ao) {x : D16 × D16} (hd : ao.dst = some x) : o.dst = some (tn x.1 x.2) := by
  have h1 := (cOper_ok hc).1
  rw [hd] at h1
  cases ho : o.dst with
  | none => rw [ho] at h1; cases h1
  | some t =>
    rw [ho] at h1
    simp only [cDst] at h1
    split at h1
    · split at h1
      · rename_i p hp
        cases h1
        rw [tmpOf_tn (i := x.1) (j := x.2) hp]
      · cases h1
    · cases h1
theorem Ctx.dist (c : Ctx P N ops l bm ks order) : Dist (dlOf ops.size l bm ks order) := by
  intro p q o k o' k' hne ho ho' t ht ht'
  obtain ⟨h1, h2, h3, h4⟩ := perm_ok c.perm
  have hp : p < ops.size := by rw [← c.len]; exact (List.getElem?_eq_some_iff.1 ho).1
  have hq : q < ops.size := by rw [← c.len]; exact (List.getElem?_eq_some_iff.1 ho').1
  obtain ⟨x, ax, g1, g2, g3, _⟩ := c.at hp
  obtain ⟨y, ay, k1, k2, k3, _⟩ := c.at hq
  rw [ho] at g3; cases g3
  rw [ho'] at k3; cases k3
  have hne' : order.getD p 0 ≠ order.getD q 0 := by
    rcases Nat.lt_or_ge p q with h | h
    · exact h4 p q h hq
    · exact (h4 q p (by omega) hp).symm
  exact (c.dst hne' g1 k1 (dst_tmp k2 ht')).1 (dst_tmp g2 ht)
end
end Go.Proofs.YtjnfgapfhpihmaaGreat
