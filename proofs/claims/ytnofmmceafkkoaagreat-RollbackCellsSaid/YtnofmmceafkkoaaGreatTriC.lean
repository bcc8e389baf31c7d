/-
  A verified evaluator: a region that keeps its order, with a call by contract in its midst; frozen memory under another hand. No function of the program is named here.
-/
import Derived.Test.YtnofmmceafkkoaaGreatTri
set_option linter.unusedVariables false
set_option linter.unusedSimpArgs false
namespace Go.Proofs.YtnofmmceafkkoaaGreat
open Go.RowKit
section
variable {P : Program} {E : Env} {ρ : Vn} {N : Nat}
theorem region_part {call : CallF} (hC : CallOk P E call) {ops : Array Oper} {l : List AOp} (hl : mapO (cOper P N ops) ops.toList = some l) {Q : Exit → Act → World → Prop} (he : EnvOk E ρ) {rest : List Nat} :
    ∀ (m k : Nat), k + m ≤ ops.size → ∀ (φ : Emb) (fr : Fr) (a : Act) (h : Hp) (w : World) (fr' : Fr) (h' : Hp), FR ρ φ fr a.tmps → Rel ρ φ h w → N ≤ a.tmps.size → aregion P E call ((l.drop k).take m) fr h = .ok fr' h' → (∀ a' w', Fin ρ φ h w a fr' h' a' w' → wpOps P ops Q rest a' w') → wpOps P ops Q (List.range' k m ++ rest) a w
  | 0, k, hk, φ, fr, a, h, w, fr', h', hf, hr, hN, e, hq => by
    cases e
    exact hq a w ⟨φ, hf, Stp.refl hr, rfl, rfl⟩
  | m + 1, k, hk, φ, fr, a, h, w, fr', h', hf, hr, hN, e, hq => by
    have hlt : k < ops.size := by omega
    obtain ⟨ao, h1, h2⟩ := (mapO_get hl).2 k ops[k] (by simp [hlt])
    have hd : (l.drop k).take (m + 1) = ao :: (l.drop (k + 1)).take m := by
      rw [List.drop_eq_getElem_cons (List.getElem?_eq_some_iff.1 h1).1, List.take_succ_cons]
      congr 1
      exact (List.getElem?_eq_some_iff.1 h1).2
    rw [hd] at e
    have e' : rof (wantedA fr ao.guard) (fun b => Bool.casesOn (motive := fun _ => RF) b (aregion P E call ((l.drop (k + 1)).take m) (setDst ao.dst (.t []) fr) h) (rf (aop P E call ao.op fr h) fun v h => aregion P E call ((l.drop (k + 1)).take m) (setDst ao.dst v fr) h)) = .ok fr' h' := e
    rw [List.range'_succ, List.cons_append]
    cases hw : wantedA fr ao.guard with
    | none => rw [hw] at e'; cases e'
    | some b =>
      rw [hw] at e'
      cases b with
      | false =>
        refine oper_wp (v := .t []) (h' := h) hC (by simp [hlt]) h2 ⟨hf, hr, he⟩ hN hw (fun h => by cases h) (fun _ => ⟨rfl, rfl⟩) ?_
        intro a' w' φ' hf' hs hdf hsz _
        exact region_part hC hl he m (k + 1) (by omega) φ' _ a' h w' fr' h' hf' hs.rel (by omega) e' fun a'' w'' hfin => hq a'' w'' (Fin.trans hs hdf hsz hfin)
      | true =>
        cases hop : aop P E call ao.op fr h with
        | no =>
          have e2 : rf (aop P E call ao.op fr h) (fun v h => aregion P E call ((l.drop (k + 1)).take m) (setDst ao.dst v fr) h) = .ok fr' h' := e'
          rw [hop] at e2; cases e2
        | ok v h1' =>
          have e2 : rf (aop P E call ao.op fr h) (fun v h => aregion P E call ((l.drop (k + 1)).take m) (setDst ao.dst v fr) h) = .ok fr' h' := e'
          rw [hop] at e2
          refine oper_wp hC (by simp [hlt]) h2 ⟨hf, hr, he⟩ hN hw (fun _ => hop) (fun h => by cases h) ?_
          intro a' w' φ' hf' hs hdf hsz _
          exact region_part hC hl he m (k + 1) (by omega) φ' _ a' h1' w' fr' h' hf' hs.rel (by omega) e2 fun a'' w'' hfin => hq a'' w'' (Fin.trans hs hdf hsz hfin)
theorem call_of {op : Op} {f : Bid} {axs : List AX} (hc : cOp P op = some (.call f axs)) : ∃ c fn, op = .call c ∧ c.callee = .value (.func f.num) ∧ cXs c.args.toList = some axs ∧ P.funcs[f.num]? = some fn ∧ fn.body.isSome ∧ fn.name ≠ "runtime.NumGoroutine" := by
  cases op with
  | call c =>
    simp only [cOp] at hc
    split at hc
    · rename_i g _ args _ hcal
      split at hc
      · rename_i fn hfn
        split at hc
        · rename_i hb
          split at hc
          · rename_i f' axs' hf hx
            cases hc
            exact ⟨c, fn, rfl, by rw [hcal, Bid.of_num hf], hx, by rw [Bid.of_num hf]; exact hfn, hb.1, hb.2⟩
          · cases hc
        · obtain ⟨_, _, _, _, _, _, _, h⟩ := cOv_ok hc
          cases h
      · cases hc
    all_goals
      exfalso
      revert hc
      (try unfold cAp)
      (repeat' split) <;> intro hc <;> first | (cases hc; done) | (obtain ⟨_, _, h⟩ := map_some hc; cases h; done)
  | unOp uo t x =>
    exfalso
    cases uo <;> first | (cases hc; done) | (obtain ⟨_, _, h⟩ := map_some (show (cX x).map AO.not = some _ from hc); cases h; done)
  | _ =>
    exfalso
    revert hc
    simp only [cOp]
    (try unfold cEqa)
    (try unfold cMu)
    (repeat' split) <;> intro hc <;> first | (cases hc; done) | (obtain ⟨_, _, h⟩ := map_some hc; cases h; done) | contradiction
theorem call_wp {ops : Array Oper} {i : Nat} {o : Oper} {dst : Option (D16 × D16)} {f : Bid} {axs : List AX} (hi : ops[i]? = some o) (hc : cOper P N ops o = some ⟨dst, .call f axs, none⟩) {φ : Emb} {fr : Fr} {a : Act} {w : World} (hf : FR ρ φ fr a.tmps) {vs : List AV} (hv : evs fr axs = some vs)
    {Q : Exit → Act → World → Prop} {rest : List Nat} (hcall : ∀ us, All2 (VV ρ φ) vs us → Calls P f.num us.toArray w fun e w' => ∃ u, e = .returned u ∧ wpOps P ops Q rest (a.put o.dst u) w') : wpOps P ops Q (i :: rest) a w := by
  rw [wpOps_cons]
  obtain ⟨hd, hop, hg⟩ := cOper_ok hc
  have hgn : o.guard = none := by
    rcases hg with h | ⟨j, want, g, t, p, _, _, _, _, h5⟩
    · exact h.1
    · cases h5
  have hco : cOp P o.op = some (.call f axs) := by
    cases h : cOp P o.op with
    | none => rw [h] at hop; cases hop
    | some x => rw [h] at hop; exact congrArg some hop.symm
  obtain ⟨c, fn, h1, h2, h3, h4, h5, h6⟩ := call_of hco
  have hwd : Region.wanted o (yielded ops a.tmps) = true := by simp [Region.wanted, hgn]
  simp only [wpOp, hi, hwd, if_true]
  refine .inl ?_
  obtain ⟨cb, hcb⟩ := Option.isSome_iff_exists.1 h5
  have hus := cXs_ok hf h3 hv
  unfold Oper.wp
  have hent : ∀ args, (callFunc f.num args).run P w = .ok (.enter f.num args) w := fun args => enter_run h4 (by simpa using h6) hcb args w
  rw [execOp_eq, h1, opR_call h2 (show a.eval (.func f.num) = .func (.func f.num) #[] #[] from rfl), hent]
  have harr : (#[] ++ c.args.map a.eval ++ #[] : Array Value) = (c.args.toList.map a.eval).toArray := by
    apply Array.ext'; simp
  rw [harr]
  show Calls P f.num (c.args.toList.map a.eval).toArray w _
  refine (hcall _ hus).mono ?_
  rintro en w' ⟨u, rfl, hk⟩
  exact hk
end
section
variable {ρ : Vn} {φ : Emb} {z : Nat → Option Obj}
end
def Lit.put (s : Lit) (d : Option (D16 × D16)) (v : AV) : Lit := match d with
  | none => s
  | some p => { s with fr := (p.1, p.2, v) :: s.fr }
noncomputable def endsR (m : List (Bid × Bid)) (nm : Nms) (s : Lit) (r : RF) : Bool := match r with
  | .ok fr h => fitsL m nm s fr h
  | .no => false
theorem endsR_ok {m : List (Bid × Bid)} {nm : Nms} {s : Lit} {r : RF} (h : endsR m nm s r = true) : ∃ fr hp, r = .ok fr hp ∧ fitsL m nm s fr hp = true := by
  cases r with
  | no => cases h
  | ok fr hp => exact ⟨fr, hp, rfl, h⟩
section
variable {P : Program} {E E2 : Env} {N : Nat}
theorem At.fits {w0 w : World} {a : Act} {ρ ρ' : Vn} {φ : Emb} {s : Lit} {m : List (Bid × Bid)} {nm : Nms} {fr : Fr} {hp : Hp} (hfit : fitsL m nm s fr hp = true) (hr : Ren ρ ρ' nm) (f : FR ρ φ fr a.tmps) (r : Rel ρ φ hp w) (o : Out w0 φ hp w) (hd : a.defers = []) (hN : N ≤ a.tmps.size) : At w0 N ρ' s a w := by
  obtain ⟨r1, r2, r3⟩ := fits_ok hfit hr r f
  refine ⟨renE m φ, r2, r1, ⟨o.old, o.size, o.os, o.tape, o.output, fun id x hi hx => ?_⟩, hd, hN⟩
  obtain ⟨id0, k1, k2⟩ := r3 id x hi hx
  exact o.live id0 x k1 k2
def AtH (w0 : World) (N : Nat) (ρ : Vn) (fr : Fr) (h : Hp) (a : Act) (w : World) : Prop :=
  ∃ φ, FR ρ φ fr a.tmps ∧ Rel ρ φ h w ∧ Out w0 φ h w ∧ a.defers = [] ∧ N ≤ a.tmps.size
def cutA : Nat → ACd → Option (List ACd × ACd)
  | 0, c => some ([], c)
  | k + 1, .seq x y => (cutA k y).map fun p => (x :: p.1, p.2)
  | _, _ => none
def cutL (k : Nat) (c : ACd) : List ACd := match cutA k c with
  | some p => p.1
  | none => []
def cutR (k : Nat) (c : ACd) : ACd := match cutA k c with
  | some p => p.2
  | none => .bad
noncomputable def runL (P : Program) (E : Env) (T : Tab) (n : Nat) (l : List ACd) : Fr → Hp → RC :=
  @List.rec ACd (fun _ => Fr → Hp → RC) RC.nrm (fun x _ ih fr h => RC.casesOn (motive := fun _ => RC) (aev P E T n x fr h) .no ih (fun _ _ _ => .no) (fun _ _ => .no)) l
theorem Tri.preH {T : Tab} {n : Nat} (hcode : CodeOk P E T n) {ρ : Vn} (he : EnvOk E ρ) {w0 : World} {Post : Exit → Act → World → Prop} {r : ACd} {fr' : Fr} {h' : Hp} (hrest : Tri P N r (AtH w0 N ρ fr' h') Post) :
    ∀ {k : Nat} {ac : ACd} {l : List ACd} {fr : Fr} {h : Hp}, cutA k ac = some (l, r) → runL P E T n l fr h = .nrm fr' h' → Tri P N ac (AtH w0 N ρ fr h) Post
  | 0, ac, l, fr, h, hc, hr => by cases hc; cases hr; exact hrest
  | k + 1, .seq x y, l, fr, h, hc, hr => by
    obtain ⟨p, hp, he2⟩ := map_some (show (cutA k y).map (fun p => (x :: p.1, p.2)) = some (l, r) from hc)
    obtain ⟨l', r'⟩ := p
    cases he2
    have hr' : RC.casesOn (motive := fun _ => RC) (aev P E T n x fr h) .no (runL P E T n l') (fun _ _ _ => .no) (fun _ _ => .no) = .nrm fr' h' := hr
    cases hx : aev P E T n x fr h with
    | no => rw [hx] at hr'; cases hr'
    | ex id f g => rw [hx] at hr'; cases hr'
    | ret f g => rw [hx] at hr'; cases hr'
    | nrm fr1 h1 =>
      rw [hx] at hr'
      refine Tri.seq (Mid := AtH w0 N ρ fr1 h1) ?_ (Tri.preH hcode he hrest hp hr')
      intro c hcc a w hat
      obtain ⟨φ, q1, q2, q3, q4, q5⟩ := hat
      refine wp_mono (hcode N c x hcc fr h _ hx (by simp) ρ φ a w he q1 q2 q5) ?_
      rintro e a' w' ⟨rfl, φ', p1, p2, p3, p4⟩
      exact ⟨trivial, .inl ⟨rfl, φ', p1, p2.rel, q3.step p2, p3.trans q4, by omega⟩⟩
  | k + 1, .skip, l, fr, h, hc, hr => nomatch hc
  | k + 1, .reg _, l, fr, h, hc, hr => nomatch hc
  | k + 1, .dreg _, l, fr, h, hc, hr => nomatch hc
  | k + 1, .cond _ _ _, l, fr, h, hc, hr => nomatch hc
  | k + 1, .block _ _, l, fr, h, hc, hr => nomatch hc
  | k + 1, .loop _, l, fr, h, hc, hr => nomatch hc
  | k + 1, .exit _, l, fr, h, hc, hr => nomatch hc
  | k + 1, .ret, l, fr, h, hc, hr => nomatch hc
  | k + 1, .bad, l, fr, h, hc, hr => nomatch hc
theorem Tri.pre_run {T : Tab} {n : Nat} (hcode : CodeOk P E T n) {ρ ρ' : Vn} (he : EnvOk E ρ) {k : Nat} {ac r : ACd} {l : List ACd} (hcut : cutA k ac = some (l, r)) {s s' : Lit} {m : List (Bid × Bid)} {nm : Nms} (hend : endsAt .nrm m nm s' (runL P E T n l s.frame s.hp) = true) (hr : Ren ρ ρ' nm)
    {w0 : World} {Post : Exit → Act → World → Prop} (hrest : Tri P N r (At w0 N ρ' s') Post) : Tri P N ac (At w0 N ρ s) Post := by
  cases hx : runL P E T n l s.frame s.hp with
  | no => rw [hx] at hend; cases hend
  | ex id f g => rw [hx] at hend; cases hend
  | ret f g => rw [hx] at hend; cases hend
  | nrm fr' h' =>
    rw [hx] at hend
    refine Tri.preH hcode he (hrest.pre ?_) hcut hx
    rintro a w ⟨φ, q1, q2, q3, q4, q5⟩
    exact At.fits hend hr q1 q2 q3 q4 q5
end
end Go.Proofs.YtnofmmceafkkoaaGreat
