/-
  A verified evaluator: operations that call, and regions that keep their order. No function of the program is named here.
-/
import Derived.Test.YtmbbciidknchiaaGreatEnO
namespace Go.Proofs.YtmbbciidknchiaaGreat
section
variable {P : Program} {E : Env} {ρ : Vn} {φ : Emb} {fr : Fr} {a : Act} {h h' : Hp} {w w' : World} {v : AV} {ty : TypeId}
/-- a call is evaluated soundly -/
def CallOk (P : Program) (E : Env) (call : CallF) : Prop :=
  ∀ f vs h v h', call f vs h = .ok v h' → (∀ args w, (callFunc f.num args).run P w = .ok (.enter f.num args) w) ∧
    ∀ ρ φ w us, EnvOk E ρ → Rel ρ φ h w → All2 (VV ρ φ) vs us → Calls P f.num us.toArray w fun e w' => ∃ u φ', e = .returned u ∧ VV ρ φ' v u ∧ Stp ρ φ h w φ' h' w'
theorem opR_call {f : Operand → Value} {c : Call} {x : Operand} (hc : c.callee = .value x) {g : FuncId} {first caps : Array Value} (hx : f x = .func (.func g) first caps) : opR f (.call c) ty = callFunc g (first ++ c.args.map f ++ caps) := by
  simp [opR, execOp, resolve, hc, hx, Deferred.ofValue, invoke]
theorem ptr_vv : ∀ {l : List (Bid × Nat)} {xs : List Value}, All2 (PtrAt φ) l xs → All2 (VV ρ φ) (addrs l) xs
  | [], _, h => by cases h; exact .nil
  | p :: l, _, h => by
    cases h with
    | cons h1 h2 => exact .cons h1 (ptr_vv h2)
theorem aop_noCall {call : CallF} {ao : AO} (h1 : ∀ f l, ao ≠ .call f l) (h2 : ∀ x l, ao ≠ .cv x l) : aop P E call ao = aop P E noCall ao := by
  cases ao <;> first | rfl | exact absurd rfl (h1 _ _) | exact absurd rfl (h2 _ _)
/-- one operation -/
theorem op_wp {call : CallF} (hC : CallOk P E call) {o : Oper} {ao : AO} (hc : cOp P o.op = some ao) (g : Gv E ρ φ fr a h w) (e : aop P E call ao fr h = .ok v h') {next : Act → World → Prop} {Q : Exit → Act → World → Prop} (hn : ∀ u w' φ', VV ρ φ' v u → Stp ρ φ h w φ' h' w' → next (a.put o.dst u) w') : o.wp P a w next Q := by
  have plain : (∀ f l, ao ≠ .call f l) → (∀ x l, ao ≠ .cv x l) → o.wp P a w next Q := by
    intro h1 h2
    rw [aop_noCall h1 h2] at e
    obtain ⟨nx, u, w', φ', hr, hv, hvv, hs⟩ := snd_all o.op ao hc ρ φ fr a h w v h' o.type g e
    unfold Oper.wp
    rw [execOp_eq, hr]
    cases nx with
    | value x => cases hv; exact hn _ _ _ hvv hs
    | skip => cases hv; exact hn _ _ _ hvv hs
    | _ => cases hv
  have enter : ∀ {f : Bid} {vs : List AV} {us : List Value}, call f vs h = .ok v h' → All2 (VV ρ φ) vs us → opR a.eval o.op o.type = callFunc f.num us.toArray → o.wp P a w next Q := by
    intro f vs us hcall hus hop
    obtain ⟨hent, hcalls⟩ := hC f vs h v h' hcall
    unfold Oper.wp
    rw [execOp_eq, hop, hent]
    show Calls P f.num us.toArray w _
    refine (hcalls ρ φ w us g.env g.rel hus).mono ?_
    rintro en w' ⟨u, φ', rfl, hvv, hs⟩
    exact hn u w' φ' hvv hs
  cases hop : o.op with
  | call c =>
    rw [hop] at hc
    simp only [cOp] at hc
    split at hc
    · rename_i f hcal
      split at hc
      · split at hc
        · split at hc
          · rename_i f' axs hf hx
            cases hc
            obtain ⟨vs, h1, e1⟩ := ro_ok (show opCall call f' axs fr h = .ok v h' from e)
            have hus := cXs_ok g.fr hx h1
            refine enter (us := c.args.toList.map a.eval) e1 hus ?_
            rw [hop, opR_call hcal (show a.eval (.func f) = .func (.func f) #[] #[] from rfl), Bid.of_num hf]
            congr 1
            apply Array.ext'
            simp
          · cases hc
        · cases hc
      · cases hc
    · rename_i x hnf hcal
      split at hc
      · rename_i ax axs hx hxs
        cases hc
        obtain ⟨c1, h1, e1⟩ := evC_ok (show opCv call ax axs fr h = .ok v h' from e)
        obtain ⟨vs, h2, e2⟩ := ro_ok e1
        have hv : VC ρ φ c1 (a.eval x) := cX_ok hx g.fr h1
        have hus := cXs_ok g.fr hxs h2
        split at e2
        · rename_i f first caps
          obtain ⟨xs, ys, hf, hx1, hy1⟩ := hv
          refine enter (us := xs ++ c.args.toList.map a.eval ++ ys) e2 (((ptr_vv hx1).append hus).append (ptr_vv hy1)) ?_
          rw [hop, opR_call hcal hf]
          congr 1
          apply Array.ext'
          simp
        · cases e2
      · cases hc
    all_goals
      refine plain ?_ ?_ <;>
        (intro f l hao
         subst hao
         revert hc
         (try unfold cAp)
         (repeat' split) <;> intro hc <;> first | contradiction | (cases hc; done) | (obtain ⟨_, _, h⟩ := map_some hc; cases h))
  | unOp uo t x =>
    refine plain ?_ ?_ <;>
      (intro f l hao
       subst hao
       rw [hop] at hc
       cases uo <;> first | (cases hc; done) | (obtain ⟨_, _, h⟩ := map_some (show (cX x).map AO.not = some _ from hc); cases h))
  | _ =>
    refine plain ?_ ?_ <;>
      (intro f l hao
       subst hao
       rw [hop] at hc
       revert hc
       simp only [cOp]
       (try unfold cEqa)
       (try unfold cMu)
       (repeat' split) <;> intro hc <;> first | contradiction | (cases hc; done) | (obtain ⟨_, _, h⟩ := map_some hc; cases h))
end
end Go.Proofs.YtmbbciidknchiaaGreat
