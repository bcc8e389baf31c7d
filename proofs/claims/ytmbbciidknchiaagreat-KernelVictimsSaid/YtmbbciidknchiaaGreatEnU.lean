/-
  A verified evaluator: the canonical run of a region that draws its order, as a trace. No function of the program is named here.
-/
import Derived.Test.YtmbbciidknchiaaGreatEnR
namespace Go.Proofs.YtmbbciidknchiaaGreat
/-- what is known of one operation of the canonical run -/
structure Rec where
  b : Bool
  v : AV
  fr : Fr
  h : Hp
  past : List Hp
  rid : Bid
  made : Option AB
inductive Trc (P : Program) (E : Env) (call : CallF) : List (AOp × AK) → Fr → Hp → List Hp → Bid → List Rec → Fr → Hp → List Hp → Prop
  | nil {fr : Fr} {h : Hp} {past : List Hp} {rid : Bid} : Trc P E call [] fr h past rid [] fr h past
  | skip {o : AOp} {k : AK} {l : List (AOp × AK)} {fr fr' : Fr} {h h' : Hp} {past pf : List Hp} {rid : Bid} {rs : List Rec} (hw : wantedA fr o.guard = some false)
      (t : Trc P E call l (setDst o.dst (.t []) fr) h (pastOf k h past) rid rs fr' h' pf) : Trc P E call ((o, k) :: l) fr h past rid (⟨false, .t [], fr, h, past, rid, none⟩ :: rs) fr' h' pf
  | pure {o : AOp} {l : List (AOp × AK)} {fr fr' : Fr} {h h' h1 : Hp} {past pf : List Hp} {rid : Bid} {rs : List Rec} {v : AV} (hw : wantedA fr o.guard = some true) (ho : aop P E noCall o.op fr h = .ok v h1)
      (t : Trc P E call l (setDst o.dst v fr) h past rid rs fr' h' pf) : Trc P E call ((o, .pure) :: l) fr h past rid (⟨true, v, fr, h, past, rid, none⟩ :: rs) fr' h' pf
  | read {o : AOp} {lo : Nat} {l : List (AOp × AK)} {fr fr' : Fr} {h h' h1 : Hp} {past pf : List Hp} {rid : Bid} {rs : List Rec} {v : AV} (hw : wantedA fr o.guard = some true) (ho : aop P E noCall o.op fr h = .ok v h1) (hs : sameIn P E o.op fr v (past.length - lo) past = true)
      (t : Trc P E call l (setDst o.dst v fr) h past rid rs fr' h' pf) : Trc P E call ((o, .read lo) :: l) fr h past rid (⟨true, v, fr, h, past, rid, none⟩ :: rs) fr' h' pf
  | make {o : AOp} {l : List (AOp × AK)} {fr fr' : Fr} {h h' h1 : Hp} {past pf : List Hp} {rid r : Bid} {rs : List Rec} {v : AV} {b : AB} (hw : wantedA fr o.guard = some true) (ho : aop P E noCall o.op fr ⟨rid, h.bl⟩ = .ok v h1) (hb : h1.get rid = some b) (hr : rid.inc = some r) (hn : freshIn rid (h :: past) = true)
      (t : Trc P E call l (setDst o.dst v fr) (h.putB rid (some b)) (putAll rid b past) r rs fr' h' pf) : Trc P E call ((o, .make) :: l) fr h past rid (⟨true, v, fr, h, past, rid, some b⟩ :: rs) fr' h' pf
  | effect {o : AOp} {l : List (AOp × AK)} {fr fr' : Fr} {h h' h1 : Hp} {past pf : List Hp} {rid : Bid} {rs : List Rec} {v : AV} (hw : wantedA fr o.guard = some true) (ho : aop P E call o.op fr h = .ok v h1)
      (t : Trc P E call l (setDst o.dst v fr) h1 (h :: past) rid rs fr' h' pf) : Trc P E call ((o, .effect) :: l) fr h past rid (⟨true, v, fr, h, past, rid, none⟩ :: rs) fr' h' pf
section
variable {P : Program} {E : Env} {call : CallF}
theorem rf_ok {r : RO} {f : AV → Hp → RF} {fr' : Fr} {h' : Hp} (e : rf r f = .ok fr' h') : ∃ v h1, r = .ok v h1 ∧ f v h1 = .ok fr' h' := by
  cases r with
  | no => cases e
  | ok v h1 => exact ⟨v, h1, rfl, e⟩
theorem trc_of : ∀ {l : List (AOp × AK)} {fr : Fr} {h : Hp} {past : List Hp} {rid : Bid} {fr' : Fr} {h' : Hp}, adraw P E call l fr h past rid = .ok fr' h' → ∃ rs pf, Trc P E call l fr h past rid rs fr' h' pf
  | [], fr, h, past, rid, fr', h', e => by cases e; exact ⟨[], past, .nil⟩
  | (o, k) :: l, fr, h, past, rid, fr', h', e => by
    have e' : drawStep P E call o k (adraw P E call l) fr h past rid = .ok fr' h' := e
    unfold drawStep at e'
    cases hw : wantedA fr o.guard with
    | none => rw [hw] at e'; cases e'
    | some b =>
      rw [hw] at e'
      cases b with
      | false =>
        obtain ⟨rs, pf, t⟩ := trc_of (show adraw P E call l (setDst o.dst (.t []) fr) h (pastOf k h past) rid = .ok fr' h' from e')
        exact ⟨_, pf, .skip hw t⟩
      | true =>
        cases k with
        | pure =>
          obtain ⟨v, h1, h2, e2⟩ := rf_ok (show rf (aop P E noCall o.op fr h) _ = .ok fr' h' from e')
          obtain ⟨rs, pf, t⟩ := trc_of e2
          exact ⟨_, pf, .pure hw h2 t⟩
        | read lo =>
          obtain ⟨v, h1, h2, e2⟩ := rf_ok (show rf (aop P E noCall o.op fr h) _ = .ok fr' h' from e')
          cases hs : sameIn P E o.op fr v (past.length - lo) past with
          | false => rw [hs] at e2; cases e2
          | true =>
            rw [hs] at e2
            obtain ⟨rs, pf, t⟩ := trc_of (show adraw P E call l (setDst o.dst v fr) h past rid = .ok fr' h' from e2)
            exact ⟨_, pf, .read hw h2 hs t⟩
        | make =>
          obtain ⟨v, h1, h2, e2⟩ := rf_ok (show rf (aop P E noCall o.op fr ⟨rid, h.bl⟩) _ = .ok fr' h' from e')
          cases hb : h1.get rid with
          | none => rw [hb] at e2; cases e2
          | some b =>
            rw [hb] at e2
            dsimp only at e2
            cases hr : rid.inc with
            | none => rw [hr] at e2; cases e2
            | some r =>
              rw [hr] at e2
              dsimp only at e2
              cases hn : freshIn rid (h :: past) with
              | false => rw [hn] at e2; cases e2
              | true =>
                rw [hn] at e2
                obtain ⟨rs, pf, t⟩ := trc_of (show adraw P E call l (setDst o.dst v fr) (h.putB rid (some b)) (putAll rid b past) r = .ok fr' h' from e2)
                exact ⟨_, pf, .make hw h2 hb hr hn t⟩
        | effect =>
          obtain ⟨v, h1, h2, e2⟩ := rf_ok (show rf (aop P E call o.op fr h) _ = .ok fr' h' from e')
          obtain ⟨rs, pf, t⟩ := trc_of e2
          exact ⟨_, pf, .effect hw h2 t⟩
end
end Go.Proofs.YtmbbciidknchiaaGreat
