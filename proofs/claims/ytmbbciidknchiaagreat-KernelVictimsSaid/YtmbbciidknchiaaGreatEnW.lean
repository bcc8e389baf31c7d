/-
  A verified evaluator: facts of the canonical run of a region that draws its order. No function of the program is named here.
-/
import Derived.Test.YtmbbciidknchiaaGreatEnV
namespace Go.Proofs.YtmbbciidknchiaaGreat
/-- operations that look at no memory -/
def Cst (F : Hp → RO) : Prop := ∃ r : Option AV, ∀ h, F h = ro r fun v => .ok v h
section
variable {P : Program} {E : Env} {fr : Fr}
theorem Cst.ok (v : AV) : Cst (fun h => .ok v h) := ⟨some v, fun _ => rfl⟩
theorem Cst.no : Cst (fun _ => .no) := ⟨none, fun _ => rfl⟩
theorem Cst.ro {α : Type} {o : Option α} {F : α → Hp → RO} (h : ∀ x, Cst (F x)) : Cst (fun k => Go.Proofs.YtmbbciidknchiaaGreat.ro o fun x => F x k) := by
  cases o with
  | none => exact ⟨none, fun _ => rfl⟩
  | some x => exact h x
theorem Cst.br {b : Bool} {F : Hp → RO} (h : Cst F) : Cst (fun k => Go.Proofs.YtmbbciidknchiaaGreat.br b (F k)) := by
  cases b with
  | false => exact ⟨none, fun _ => rfl⟩
  | true => exact h
theorem Cst.evC {x : AX} {F : AC → Hp → RO} (h : ∀ v, Cst (F v)) : Cst (fun k => Go.Proofs.YtmbbciidknchiaaGreat.evC x fr fun v => F v k) := Cst.ro fun v => Cst.ro fun c => h c
theorem Cst.evP {x : AX} {F : Bid → Nat → Hp → RO} (h : ∀ id off, Cst (F id off)) : Cst (fun k => Go.Proofs.YtmbbciidknchiaaGreat.evP x fr fun id off => F id off k) := Cst.evC fun v => by
  cases v <;> first | exact h _ _ | exact Cst.no
theorem Cst.onB {x : AC} {F : Bool → Hp → RO} (h : ∀ b, Cst (F b)) : Cst (fun k => Go.Proofs.YtmbbciidknchiaaGreat.onB x fun b => F b k) := by
  cases x <;> first | exact h _ | exact Cst.no
theorem Cst.asI {x : AC} {e : Hp → RO} {F : IntKind → Int → Hp → RO} (h : ∀ k n, Cst (F k n)) (he : Cst e) : Cst (fun w => Go.Proofs.YtmbbciidknchiaaGreat.asI x (e w) fun k n => F k n w) := by
  cases x <;> first | exact h _ _ | exact he
theorem cst_of {call : CallF} {ao : AO} (hk : kindOf ao = 0) : Cst (aop P E call ao fr) := by
  cases ao
  all_goals first | (exfalso; simp [kindOf] at hk; done) | skip
  case mv x => exact Cst.ro fun v => Cst.ok v
  case pick c x y => exact Cst.evC fun v => Cst.onB fun b => by cases b <;> exact Cst.ro fun v => Cst.ok v
  case gen o => exact Cst.ro fun v => Cst.ok v
  case bin op x y =>
    exact Cst.evC fun u => Cst.evC fun v => Cst.asI (fun k a => Cst.asI (fun k' b => Cst.br (Cst.ro fun r => Cst.ok _)) (Cst.ro fun b => Cst.ok _)) (Cst.ro fun b => Cst.ok _)
  case not x => exact Cst.evC fun v => Cst.onB fun b => Cst.ok _
  case ci k x =>
    refine Cst.evC fun v => Cst.asI (fun _ n => Cst.ok _) ?_
    cases v <;> first | exact Cst.ro fun c => Cst.ok _ | exact Cst.no
  case eqs neg x y => exact Cst.evC fun u => Cst.evC fun v => Cst.ro fun b => Cst.ok _
  case eqa neg ks x y => exact Cst.ro fun u => Cst.ro fun v => Cst.ro fun l => Cst.ro fun m => Cst.ro fun b => Cst.ok _
  case bd z ps => exact Cst.ro fun l => Cst.ok _
  case nc x => exact Cst.evC fun v => by cases v <;> first | exact Cst.ok _ | exact Cst.no
  case mf f l m => exact Cst.ro fun us => Cst.ro fun vs => Cst.ro fun l => Cst.ro fun m => Cst.ok _
  case ixa n size agg x i => exact Cst.ro fun v => Cst.ro fun l => Cst.ro fun i => Cst.br (by cases agg <;> exact Cst.ro fun x => Cst.ok _)
  case sll size x lo hi mx =>
    refine Cst.evC fun v => ?_
    cases v <;> first | exact Cst.no | skip
    case sn => exact Cst.ro fun l => Cst.ro fun e => Cst.ro fun m => Cst.br (Cst.ok _)
    case sl id off len cap => exact Cst.ro fun l => Cst.ro fun e => Cst.ro fun m => Cst.br (Cst.ok _)
    case su id off len lb es =>
      refine Cst.br ?_
      cases mx with
      | some m => exact Cst.ro fun l => Cst.ro fun e => Cst.ro fun m => Cst.br (Cst.ok _)
      | none => exact Cst.ro fun l => Cst.ro fun e => Cst.br (Cst.ok _)
    case se id es => exact Cst.br (Cst.ro fun l => Cst.ro fun e => Cst.br (Cst.ok _))
  case sla n size x lo hi mx => exact Cst.evP fun id off => Cst.ro fun l => Cst.ro fun e => Cst.ro fun m => Cst.br (Cst.ok _)
  case fa o x => exact Cst.evP fun id off => Cst.ok _
  case fd o x => exact Cst.ro fun v => Cst.ro fun l => Cst.ro fun x => Cst.ok _
  case fdn o n x => exact Cst.ro fun v => Cst.ro fun l => Cst.ro fun x => Cst.ok _
  case iaa n size x i => exact Cst.evP fun id off => Cst.ro fun i => Cst.br (Cst.ok _)
  case ias size x i =>
    refine Cst.evC fun v => Cst.ro fun i => ?_
    cases v <;> first | exact Cst.br (Cst.ok _) | exact Cst.no
  case eqn neg x y => exact Cst.evC fun u => Cst.evC fun v => Cst.ro fun a => Cst.ro fun b => Cst.br (Cst.ok _)
  case len x => exact Cst.evC fun v => Cst.ro fun n => Cst.ok _
  case lens x => exact Cst.evC fun v => Cst.ro fun n => Cst.ok _
  case cap x => exact Cst.evC fun v => by cases v <;> first | exact Cst.ok _ | exact Cst.no
  case ex x i => exact Cst.ro fun v => Cst.ro fun l => Cst.ro fun v => Cst.ok _
  case no => exact Cst.no
theorem pure_any {call : CallF} {ao : AO} (hk : kindOf ao = 0) {h h1 : Hp} {v : AV} (e : aop P E call ao fr h = .ok v h1) (h2 : Hp) : aop P E call ao fr h2 = .ok v h2 := by
  obtain ⟨r, hr⟩ := cst_of (P := P) (E := E) (fr := fr) (call := call) hk
  rw [hr] at e ⊢
  cases r with
  | none => cases e
  | some u => cases e; rfl
theorem evC_eq {x : AX} {c : AC} (h : ev x fr = some (.c c)) (f : AC → RO) : evC x fr f = f c := by
  unfold evC; rw [h]; rfl
theorem evP_eq {x : AX} {id : Bid} {off : Nat} (h : ev x fr = some (.c (.p id off))) (f : Bid → Nat → RO) : evP x fr f = f id off := by
  unfold evP; rw [evC_eq h]; rfl
/-- what reads are -/
theorem read_of {op : Op} {ao : AO} (hc : cOp P op = some ao) (hk : kindOf ao = 1) : ∃ y ax, cX y = some ax ∧ (ao = .ld ax ∨ (∃ n, ao = .ldn n ax) ∨ ∃ z ok ag ks i, ao = .lk z ok ag ks ax i) := by
  cases op with
  | load t y =>
    simp only [cOp] at hc
    split at hc
    · rename_i hx; cases hc; exact ⟨_, _, hx, .inr (.inl ⟨_, rfl⟩)⟩
    · rename_i hx; cases hc; exact ⟨_, _, hx, .inr (.inl ⟨_, rfl⟩)⟩
    · rename_i hx; cases hc; exact ⟨_, _, hx, .inl rfl⟩
    · cases hc
  | lookup t x i ok =>
    simp only [cOp] at hc
    split at hc
    · rename_i hx hi
      split at hc
      · cases hc; exact ⟨_, _, hx, .inr (.inr ⟨_, _, _, _, _, rfl⟩)⟩
      · cases hc
    · cases hc
  | unOp uo t x =>
    exfalso
    cases uo <;> first | (cases hc; simp [kindOf] at hk; done) | (obtain ⟨_, _, rfl⟩ := map_some (show (cX x).map AO.not = some _ from hc); simp [kindOf] at hk; done) | (simp [cOp] at hc; done)
  | _ =>
    exfalso
    revert hc hk
    simp only [cOp]
    (try unfold cEqa)
    (try unfold cMu)
    (try unfold cAp)
    (repeat' split) <;> intro hk hc <;> first | (cases hc; done) | (obtain ⟨_, _, rfl⟩ := map_some hc; simp [kindOf] at hk; done) | (cases hc; simp [kindOf] at hk; done) | contradiction
/-- a read gives the same where its operands' blocks are the same -/
theorem read_any {ρ : Vn} {φ : Emb} {a : Act} {op : Op} {ao : AO} (hc : cOp P op = some ao) (hk : kindOf ao = 1) (hf : FR ρ φ fr a.tmps) {h h1 : Hp} {v : AV} (e : aop P E noCall ao fr h = .ok v h1) {h2 : Hp}
    (hs : ∀ id b, φ id ≠ none → h.get id = some b → h2.get id = some b) : aop P E noCall ao fr h2 = .ok v h2 := by
  have cells : ∀ {id : Bid} {x : Nat × Nat × Nat} {c : List AC}, φ id = some x → cellsOf (h.get id) = some c → cellsOf (h2.get id) = some c := by
    intro id x c hx hl
    obtain ⟨b, hb, hk⟩ := ob_some hl
    rw [hs id b (by rw [hx]; simp) hb]
    exact hk
  obtain ⟨y, ax, hy, hao⟩ := read_of hc hk
  rcases hao with rfl | ⟨n, rfl⟩ | ⟨z, ok, ag, ks, i, rfl⟩
  · obtain ⟨id, off, h3, e1⟩ := evP_ok (show opLd ax fr h = .ok v h1 from e)
    obtain ⟨c, h4, e2⟩ := ro_ok e1
    cases e2
    obtain ⟨b, base, tot, h5, _⟩ : PtrAt φ (id, off) (a.eval y) := cX_ok hy hf h3
    obtain ⟨l, h6, h7⟩ := ob_some h4
    show evP ax fr (fun id off => ro (h2.ld id off) fun v => .ok (.c v) h2) = _
    rw [evP_eq h3]
    have : h2.ld id off = some c := by
      show ob (cellsOf (h2.get id)) (lget off) = some c
      rw [cells h5 h6]
      exact h7
    rw [this]
    rfl
  · obtain ⟨id, off, h3, e1⟩ := evP_ok (show opLdn n ax fr h = .ok v h1 from e)
    obtain ⟨c, h4, e2⟩ := ro_ok e1
    cases e2
    obtain ⟨b, base, tot, h5, _⟩ : PtrAt φ (id, off) (a.eval y) := cX_ok hy hf h3
    obtain ⟨l, h6, h7⟩ := ob_some h4
    show evP ax fr (fun id off => ro (h2.lds id off n) fun v => .ok (.a v) h2) = _
    rw [evP_eq h3]
    have : h2.lds id off n = some c := by
      show ob (cellsOf (h2.get id)) (lsub n off) = some c
      rw [cells h5 h6]
      exact h7
    rw [this]
    rfl
  · obtain ⟨c, h3, e1⟩ := evC_ok (show opLk E z ok ag ks ax i fr h = .ok v h1 from e)
    obtain ⟨k, h4, e2⟩ := ro_ok e1
    have hv : VC ρ φ c (a.eval y) := cX_ok hy hf h3
    split at e2
    · rename_i id
      obtain ⟨b, base, tot, h5, _⟩ := hv
      obtain ⟨l, h6, e3⟩ := ro_ok e2
      obtain ⟨hb, e4⟩ := br_ok e3
      obtain ⟨r, h7, e5⟩ := ro_ok e4
      have hm : mapOf (h2.get id) = some l := by
        obtain ⟨b', hb', hk'⟩ := ob_some h6
        rw [hs id b' (by rw [h5]; simp) hb']
        exact hk'
      show opLk E z ok ag ks ax i fr h2 = _
      unfold opLk
      rw [evC_eq h3, h4]
      show ro (mapOf (h2.get id)) _ = _
      rw [hm]
      show br (keyOk ag ks k) (ro (mapGet E ag ks k l 0) _) = _
      rw [hb, h7]
      have pb : ∀ {v' : AV} {t : Bool} {g g' g1 : Hp} {u : AV}, pairB ok v' t g = .ok u g1 → pairB ok v' t g' = .ok u g' := by
        intro v' t g g' g1 u h
        cases ok with
        | false => cases h; rfl
        | true =>
          obtain ⟨x, hx, h⟩ := ro_ok (show ro v'.tv _ = .ok u g1 from h)
          cases h
          show ro v'.tv _ = _
          rw [hx]; rfl
      cases r with
      | none => exact pb e5
      | some p => exact pb e5
    · cases e2
end
end Go.Proofs.YtmbbciidknchiaaGreat
