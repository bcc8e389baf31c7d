/-
  A verified evaluator: functions that may panic. Calls, regions and code that end normally or with a panic. No function of the program is named here.
-/
import Derived.Test.YthleifmbnpcceaaGreatEvG
namespace Go.Proofs.YthleifmbnpcceaaGreat
/-- results of calls that may panic -/
inductive PO where
  | no
  | ok (v : AV) (h : Hp)
  | pn (v : AC) (h : Hp)
/-- results of regions -/
inductive PF where
  | no
  | ok (fr : Fr) (h : Hp)
  | pn (v : AC) (fr : Fr) (h : Hp)
/-- results of code -/
inductive PC where
  | no
  | nrm (fr : Fr) (h : Hp)
  | ex (id : Nat) (fr : Fr) (h : Hp)
  | ret (fr : Fr) (h : Hp)
  | pn (v : AC) (h : Hp)
abbrev PCallF := Bid → List AV → Hp → PO
inductive PFn where
  | code (body : ACd) (res : List AR)
  | nat (g : List AV → Hp → PO)
def poRO (r : PO) : RO := PO.casesOn (motive := fun _ => RO) r .no RO.ok (fun _ _ => .no)
def poOf (r : RO) : PO := RO.casesOn (motive := fun _ => PO) r .no PO.ok
/-- the calls that do not panic -/
def okCall (pcall : PCallF) : CallF := fun f vs h => poRO (pcall f vs h)
def pfPn (fr : Fr) (r : PO) : PF := PO.casesOn (motive := fun _ => PF) r .no (fun _ _ => .no) fun v h => .pn v fr h
noncomputable section
/-- an operation that panics -/
def pnOp (pcall : PCallF) (o : AO) (fr : Fr) (h : Hp) : PF := match o with
  | .call f args => Option.casesOn (motive := fun _ => PF) (evs fr args) .no fun vs => pfPn fr (pcall f vs h)
  | .cv x args => match ob (ev x fr) asC, evs fr args with
    | some (.fn f first caps), some vs => pfPn fr (pcall f (addrs first ++ vs ++ addrs caps) h)
    | _, _ => .no
  | _ => .no
def pStep (P : Program) (E : Env) (pcall : PCallF) (o : AOp) (ih : Fr → Hp → PF) (fr : Fr) (h : Hp) : PF :=
  Option.casesOn (motive := fun _ => PF) (wantedA fr o.guard) .no fun b => Bool.casesOn (motive := fun _ => PF) b (ih (setDst o.dst (.t []) fr) h)
    (RO.casesOn (motive := fun _ => PF) (aop P E (okCall pcall) o.op fr h) (pnOp pcall o.op fr h) fun v h => ih (setDst o.dst v fr) h)
def pregion (P : Program) (E : Env) (pcall : PCallF) (l : List AOp) : Fr → Hp → PF :=
  @List.rec AOp (fun _ => Fr → Hp → PF) PF.ok (fun o _ ih => pStep P E pcall o ih) l
def pcOf (r : PF) : PC := PF.casesOn (motive := fun _ => PC) r .no PC.nrm fun v _ h => .pn v h
def pcRF (r : RF) : PC := RF.casesOn (motive := fun _ => PC) r .no PC.nrm
def poPC (res : List AR) (r : PC) : PO := PC.casesOn (motive := fun _ => PO) r .no (fun fr h => poOf (retOf res fr h)) (fun _ _ _ => .no) (fun fr h => poOf (retOf res fr h)) PO.pn
def pcallFn (fn : PFn) (ih : ACd → Fr → Hp → PC) (args : List AV) (h : Hp) : PO :=
  PFn.casesOn (motive := fun _ => PO) fn (fun body res => Option.casesOn (motive := fun _ => PO) (frameOf args places Fr.nil) .no fun fr => poPC res (ih body fr h)) (fun g => g args h)
def pcallBy (U : Bid → Option PFn) (call : CallF) (ih : ACd → Fr → Hp → PC) : PCallF := fun f args h =>
  Option.casesOn (motive := fun _ => PO) (U f) (poOf (call f args h)) fun fn => pcallFn fn ih args h
def pSeq (ih : ACd → Fr → Hp → PC) (a b : ACd) (fr : Fr) (h : Hp) : PC := PC.casesOn (motive := fun _ => PC) (ih a fr h) .no (ih b) PC.ex PC.ret PC.pn
def pCond (ih : ACd → Fr → Hp → PC) (c : AX) (x y : ACd) (fr : Fr) (h : Hp) : PC :=
  Option.casesOn (motive := fun _ => PC) (ob (ev c fr) asC) .no fun v => match v with
    | .b b => Bool.casesOn (motive := fun _ => PC) b (ih y fr h) (ih x fr h)
    | _ => .no
def pExit (id i : Nat) (fr : Fr) (h : Hp) : PC := bif Nat.beq i id then .nrm fr h else .ex i fr h
def pBlock (ih : ACd → Fr → Hp → PC) (id : Nat) (b : ACd) (fr : Fr) (h : Hp) : PC := PC.casesOn (motive := fun _ => PC) (ih b fr h) .no PC.nrm (pExit id) PC.ret PC.pn
def pLoop (ih : ACd → Fr → Hp → PC) (b : ACd) (fr : Fr) (h : Hp) : PC := PC.casesOn (motive := fun _ => PC) (ih b fr h) .no (ih (.loop b)) PC.ex PC.ret PC.pn
def pevS (P : Program) (E : Env) (U : Bid → Option PFn) (call : CallF) (ih : ACd → Fr → Hp → PC) (c : ACd) : Fr → Hp → PC :=
  ACd.casesOn (motive := fun _ => Fr → Hp → PC) c PC.nrm (fun l fr h => pcOf (pregion P E (pcallBy U call ih) l fr h)) (fun l fr h => pcRF (draws P E (okCall (pcallBy U call ih)) l fr h)) (pSeq ih) (pCond ih) (pBlock ih) (pLoop ih) PC.ex PC.ret (fun _ _ => .no)
/-- code that may panic, with fuel -/
def pev (P : Program) (E : Env) (U : Bid → Option PFn) (call : CallF) (n : Nat) : ACd → Fr → Hp → PC :=
  @Nat.rec (fun _ => ACd → Fr → Hp → PC) (fun _ _ _ => .no) (fun _ ih => pevS P E U call ih) n
end
section
variable {P : Program} {E : Env} {U : Bid → Option PFn} {call : CallF}
/-- how a call ends -/
def PEnd (ρ : Vn) (φ : Emb) (h : Hp) (w : World) (r : PO) (e : Ending) (w' : World) : Prop :=
  match r with
  | .no => False
  | .ok v h' => ∃ u φ', e = .returned u ∧ VV ρ φ' v u ∧ Stp ρ φ h w φ' h' w'
  | .pn v h' => ∃ u φ', e = .panicked [{ v := u, recovered := false }] ∧ VC ρ φ' v u ∧ Stp ρ φ h w φ' h' w'
def PCallOk (P : Program) (E : Env) (pcall : PCallF) : Prop :=
  ∀ f vs h r, pcall f vs h = r → r ≠ .no → (∀ args w, (callFunc f.num args).run P w = .ok (.enter f.num args) w) ∧
    ∀ ρ φ w us, EnvOk E ρ → Rel ρ φ h w → All2 (VV ρ φ) vs us → Calls P f.num us.toArray w (PEnd ρ φ h w r)
theorem poRO_ok {r : PO} {v : AV} {h : Hp} (e : poRO r = .ok v h) : r = .ok v h := by
  cases r with
  | no => cases e
  | ok v' h' => cases e; rfl
  | pn v' h' => cases e
theorem okCall_ok {pcall : PCallF} (hP : PCallOk P E pcall) : CallOk P E (okCall pcall) := by
  intro f vs h v h' e
  have e' := poRO_ok (show poRO (pcall f vs h) = .ok v h' from e)
  obtain ⟨h1, h2⟩ := hP f vs h _ e' (by simp)
  exact ⟨h1, fun ρ φ w us he hr hu => h2 ρ φ w us he hr hu⟩
/-- the functions that may panic are the program's -/
def UOk (P : Program) (E : Env) (U : Bid → Option PFn) : Prop :=
  ∀ id fn, U id = some fn → (∀ args w, (callFunc id.num args).run P w = .ok (.enter id.num args) w) ∧
    match fn with
    | .code b res => ∃ f c, P.funcs[id.num]? = some f ∧ f.body = some c ∧ cCode P f.ntmps c = some b ∧ cRes P f.results.toList = some res
    | .nat g => ∀ vs h r, g vs h = r → r ≠ .no → ∀ ρ φ w us, EnvOk E ρ → Rel ρ φ h w → All2 (VV ρ φ) vs us → Calls P id.num us.toArray w (PEnd ρ φ h w r)
theorem cOp_call {op : Op} {f : Bid} {axs : List AX} (hc : cOp P op = some (.call f axs)) : ∃ c, op = .call c ∧ c.callee = .value (.func f.num) ∧ cXs c.args.toList = some axs := by
  cases op with
  | call c =>
    simp only [cOp] at hc
    split at hc
    · rename_i f' hcal
      split at hc
      · split at hc
        · split at hc
          · rename_i f'' axs' hf hx
            cases hc
            exact ⟨c, rfl, by rw [hcal, Bid.of_num hf], hx⟩
          · cases hc
        · rename_i fn hf hbody
          exfalso
          cases ho : isOv P fn with
          | false => rw [ho] at hc; cases hc
          | true =>
            rw [ho] at hc
            have hc' : cOv c.args.toList = some (.call f axs) := hc
            unfold cOv at hc'
            split at hc'
            · split at hc' <;> cases hc'
            · cases hc'
      · cases hc
    · rename_i x hnf hcal
      exfalso
      split at hc <;> cases hc
    all_goals
      exfalso
      revert hc
      (try unfold cAp)
      (repeat' split) <;> intro hc <;> first | contradiction | (cases hc; done) | (obtain ⟨_, _, h⟩ := map_some hc; cases h)
  | unOp uo t x =>
    exfalso
    cases uo <;> first | (cases hc; done) | (obtain ⟨_, _, h⟩ := map_some (show (cX x).map AO.not = some _ from hc); cases h)
  | _ =>
    exfalso
    revert hc
    simp only [cOp]
    (try unfold cEqa)
    (try unfold cMu)
    (repeat' split) <;> intro hc <;> first | contradiction | (cases hc; done) | (obtain ⟨_, _, h⟩ := map_some hc; cases h)
theorem cOp_cv {op : Op} {ax : AX} {axs : List AX} (hc : cOp P op = some (.cv ax axs)) : ∃ c x, op = .call c ∧ c.callee = .value x ∧ cX x = some ax ∧ cXs c.args.toList = some axs := by
  cases op with
  | call c =>
    simp only [cOp] at hc
    split at hc
    · rename_i f' hcal
      exfalso
      split at hc
      · split at hc
        · split at hc <;> cases hc
        · rename_i fn hf hbody
          cases ho : isOv P fn with
          | false => rw [ho] at hc; cases hc
          | true =>
            rw [ho] at hc
            have hc' : cOv c.args.toList = some (.cv ax axs) := hc
            unfold cOv at hc'
            split at hc'
            · split at hc' <;> cases hc'
            · cases hc'
      · cases hc
    · rename_i x hnf hcal
      split at hc
      · rename_i ax' axs' hx hxs
        cases hc
        exact ⟨c, x, rfl, hcal, hx, hxs⟩
      · cases hc
    all_goals
      exfalso
      revert hc
      (try unfold cAp)
      (repeat' split) <;> intro hc <;> first | contradiction | (cases hc; done) | (obtain ⟨_, _, h⟩ := map_some hc; cases h)
  | unOp uo t x =>
    exfalso
    cases uo <;> first | (cases hc; done) | (obtain ⟨_, _, h⟩ := map_some (show (cX x).map AO.not = some _ from hc); cases h)
  | _ =>
    exfalso
    revert hc
    simp only [cOp]
    (try unfold cEqa)
    (try unfold cMu)
    (repeat' split) <;> intro hc <;> first | contradiction | (cases hc; done) | (obtain ⟨_, _, h⟩ := map_some hc; cases h)
variable {N : Nat} {ρ : Vn} {φ : Emb} {fr : Fr} {a : Act} {h h' : Hp} {w : World} {v : AC}
theorem pfPn_pn {fr' : Fr} {r : PO} (e : pfPn fr r = .pn v fr' h') : fr' = fr ∧ r = .pn v h' := by
  cases r with
  | no => cases e
  | ok _ _ => cases e
  | pn _ _ => cases e; exact ⟨rfl, rfl⟩
theorem pfPn_ok {fr' : Fr} {r : PO} (e : pfPn fr r = .ok fr' h') : False := by cases r <;> cases e
theorem pnOp_pn {pcall : PCallF} {o : AO} {fr' : Fr} (e : pnOp pcall o fr h = .pn v fr' h') : fr' = fr ∧ ∃ f vs, pcall f vs h = .pn v h' ∧ ((∃ args, o = .call f args ∧ evs fr args = some vs) ∨ (∃ x args first caps vs0, o = .cv x args ∧ ev x fr = some (.c (.fn f first caps)) ∧ evs fr args = some vs0 ∧ vs = addrs first ++ vs0 ++ addrs caps)) := by
  unfold pnOp at e
  split at e
  · rename_i f args
    cases hv : evs fr args with
    | none => rw [hv] at e; cases e
    | some vs =>
      rw [hv] at e
      obtain ⟨h1, h2⟩ := pfPn_pn (show pfPn fr (pcall f vs h) = .pn v fr' h' from e)
      exact ⟨h1, f, vs, h2, .inl ⟨args, rfl, hv⟩⟩
  · rename_i x args
    split at e
    · rename_i f first caps vs hx hv
      obtain ⟨h1, h2⟩ := pfPn_pn e
      obtain ⟨u, h3, h4⟩ := ob_some hx
      rw [asC_some h4] at h3
      exact ⟨h1, f, _, h2, .inr ⟨x, args, first, caps, vs, rfl, h3, hv, rfl⟩⟩
    · cases e
  · cases e
theorem pnOp_ok {pcall : PCallF} {o : AO} {fr' : Fr} (e : pnOp pcall o fr h = .ok fr' h') : False := by
  unfold pnOp at e
  split at e
  · rename_i f args
    cases hv : evs fr args with
    | none => rw [hv] at e; cases e
    | some vs => rw [hv] at e; exact pfPn_ok (show pfPn fr (pcall f vs h) = .ok fr' h' from e)
  · split at e
    · exact pfPn_ok e
    · cases e
  · cases e
/-- a call that panics -/
theorem oper_pn {pcall : PCallF} (hP : PCallOk P E pcall) {ops : Array Oper} {i : Nat} {o : Oper} {ao : AOp} (hi : ops[i]? = some o) (hc : cOper P N ops o = some ao) (g : Gv E ρ φ fr a h w) (hw : wantedA fr ao.guard = some true) {fr' : Fr} (e : pnOp pcall ao.op fr h = .pn v fr' h')
    {Q : Exit → Act → World → Prop} {rest : List Nat} (hq : ∀ u w' φ', FR ρ φ' fr' a.tmps → VC ρ φ' v u → Stp ρ φ h w φ' h' w' → Q (.panic [{ v := u, recovered := false }]) a w') : wpOps P ops Q (i :: rest) a w := by
  obtain ⟨rfl, f, vs, h3, h12⟩ := pnOp_pn e
  obtain ⟨_, hop, _⟩ := cOper_ok hc
  have hwd := wanted_ok hc g.fr hw
  rw [wpOps_cons]
  simp only [wpOp, hi, hwd, if_true]
  refine .inl ?_
  have enter : ∀ us : List Value, All2 (VV ρ φ) vs us → opR a.eval o.op o.type = callFunc f.num us.toArray → o.wp P a w (wpOps P ops Q rest) Q := by
    intro us hus hopr
    obtain ⟨hent, hcalls⟩ := hP f vs h _ h3 (by simp)
    unfold Oper.wp
    rw [execOp_eq, hopr, hent]
    show Calls P f.num us.toArray w _
    refine (hcalls ρ φ w us g.env g.rel hus).mono ?_
    rintro en w' ⟨u, φ', rfl, hv, hs⟩
    exact hq u w' φ' (g.fr.le hs.le) hv hs
  cases hco : cOp P o.op with
  | none =>
    rw [hop, hco] at h12
    rcases h12 with ⟨args, h1, _⟩ | ⟨x, args, first, caps, vs0, h1, _⟩ <;> cases h1
  | some op' =>
    rw [hop, hco] at h12
    rcases h12 with ⟨args, h1, h2⟩ | ⟨x, args, first, caps, vs0, h1, h2, h4, rfl⟩
    · dsimp only at h1
      subst h1
      obtain ⟨c, h4, h5, h6⟩ := cOp_call hco
      have hus := cXs_ok g.fr h6 h2
      refine enter _ hus ?_
      rw [h4, opR_call h5 (show a.eval (.func f.num) = .func (.func f.num) #[] #[] from rfl)]
      congr 1
      apply Array.ext'
      simp
    · dsimp only at h1
      subst h1
      obtain ⟨c, y, h5, h6, h7, h8⟩ := cOp_cv hco
      have hv : VC ρ φ (.fn f first caps) (a.eval y) := cX_ok h7 g.fr h2
      have hus := cXs_ok g.fr h8 h4
      obtain ⟨xs, ys, hf, hx1, hy1⟩ := hv
      refine enter (xs ++ c.args.toList.map a.eval ++ ys) (((ptr_vv hx1).append hus).append (ptr_vv hy1)) ?_
      rw [h5, opR_call h6 hf]
      congr 1
      apply Array.ext'
      simp
/-- a region is left so -/
def PFin (ρ : Vn) (φ : Emb) (h : Hp) (w : World) (a : Act) (r : PF) (e : Exit) (a' : Act) (w' : World) : Prop :=
  match r with
  | .no => False
  | .ok fr' h' => e = .normal ∧ Fin ρ φ h w a fr' h' a' w'
  | .pn v fr' h' => ∃ u φ', e = .panic [{ v := u, recovered := false }] ∧ FR ρ φ' fr' a'.tmps ∧ VC ρ φ' v u ∧ Stp ρ φ h w φ' h' w' ∧ a'.defers = a.defers ∧ a'.tmps.size = a.tmps.size
theorem PFin.trans {φ' : Emb} {h1 : Hp} {a' a'' : Act} {w' w'' : World} (x : Stp ρ φ h w φ' h1 w') (hd : a'.defers = a.defers) (hs : a'.tmps.size = a.tmps.size) {r : PF} {e : Exit} (y : PFin ρ φ' h1 w' a' r e a'' w'') : PFin ρ φ h w a r e a'' w'' := by
  cases r with
  | no => exact y
  | ok fr h => exact ⟨y.1, Fin.trans x hd hs y.2⟩
  | pn v fr h => obtain ⟨u, φ2, h1, h2, h3, h4, h5, h6⟩ := y; exact ⟨u, φ2, h1, h2, h3, x.trans h4, h5.trans hd, h6.trans hs⟩
theorem pregion_wp {pcall : PCallF} (hP : PCallOk P E pcall) {ops : Array Oper} {l : List AOp} (hl : mapO (cOper P N ops) ops.toList = some l) {Q : Exit → Act → World → Prop} (he : EnvOk E ρ) :
    ∀ (m k : Nat), k + m = ops.size → ∀ (φ : Emb) (fr : Fr) (a : Act) (h : Hp) (w : World) (r : PF), FR ρ φ fr a.tmps → Rel ρ φ h w → N ≤ a.tmps.size → pregion P E pcall (l.drop k) fr h = r → r ≠ .no → (∀ e a' w', PFin ρ φ h w a r e a' w' → Q e a' w') → wpOps P ops Q (List.range' k m) a w
  | 0, k, hk, φ, fr, a, h, w, r, hf, hr, hN, e, hne, hq => by
    have hlen := (mapO_get hl).1
    have hd : l.drop k = [] := List.drop_eq_nil_of_le (by simp at hlen; omega)
    rw [hd] at e
    cases e
    exact hq _ a w ⟨rfl, φ, hf, Stp.refl hr, rfl, rfl⟩
  | m + 1, k, hk, φ, fr, a, h, w, r, hf, hr, hN, e, hne, hq => by
    have hlt : k < ops.size := by omega
    obtain ⟨ao, h1, h2⟩ := (mapO_get hl).2 k ops[k] (by simp [hlt])
    have hd : l.drop k = ao :: l.drop (k + 1) := by
      rw [List.drop_eq_getElem_cons (List.getElem?_eq_some_iff.1 h1).1]
      congr 1
      exact (List.getElem?_eq_some_iff.1 h1).2
    rw [hd] at e
    have e' : (Option.casesOn (motive := fun _ => PF) (wantedA fr ao.guard) .no fun b => Bool.casesOn (motive := fun _ => PF) b (pregion P E pcall (l.drop (k + 1)) (setDst ao.dst (.t []) fr) h)
      (RO.casesOn (motive := fun _ => PF) (aop P E (okCall pcall) ao.op fr h) (pnOp pcall ao.op fr h) fun v h => pregion P E pcall (l.drop (k + 1)) (setDst ao.dst v fr) h)) = r := e
    rw [List.range'_succ]
    cases hw : wantedA fr ao.guard with
    | none => rw [hw] at e'; exact absurd e'.symm hne
    | some b =>
      rw [hw] at e'
      cases b with
      | false =>
        refine oper_wp (v := .t []) (h' := h) (okCall_ok hP) (by simp [hlt]) h2 ⟨hf, hr, he⟩ hN hw (fun h => by cases h) (fun _ => ⟨rfl, rfl⟩) ?_
        intro a' w' φ' hf' hs hdf hsz _
        exact pregion_wp hP hl he m (k + 1) (by omega) φ' _ a' h w' r hf' hs.rel (by omega) e' hne fun e'' a'' w'' hfin => hq e'' a'' w'' (PFin.trans hs hdf hsz hfin)
      | true =>
        have e2 : (RO.casesOn (motive := fun _ => PF) (aop P E (okCall pcall) ao.op fr h) (pnOp pcall ao.op fr h) fun v h => pregion P E pcall (l.drop (k + 1)) (setDst ao.dst v fr) h) = r := e'
        cases hop : aop P E (okCall pcall) ao.op fr h with
        | no =>
          rw [hop] at e2
          have e3 : pnOp pcall ao.op fr h = r := e2
          cases r with
          | no => exact absurd rfl hne
          | ok fr' h' => exact (pnOp_ok e3).elim
          | pn v fr' h' =>
            refine oper_pn hP (by simp [hlt]) h2 ⟨hf, hr, he⟩ hw e3 ?_
            exact fun u w' φ' hfr hv hs => hq _ a w' ⟨u, φ', rfl, hfr, hv, hs, rfl, rfl⟩
        | ok v h1' =>
          rw [hop] at e2
          refine oper_wp (okCall_ok hP) (by simp [hlt]) h2 ⟨hf, hr, he⟩ hN hw (fun _ => hop) (fun h => by cases h) ?_
          intro a' w' φ' hf' hs hdf hsz _
          exact pregion_wp hP hl he m (k + 1) (by omega) φ' _ a' h1' w' r hf' hs.rel (by omega) e2 hne fun e'' a'' w'' hfin => hq e'' a'' w'' (PFin.trans hs hdf hsz hfin)
/-- how code is left -/
def PPost (ρ : Vn) (φ : Emb) (h : Hp) (w : World) (a : Act) (r : PC) (e : Exit) (a' : Act) (w' : World) : Prop :=
  match r with
  | .no => False
  | .nrm fr' h' => e = .normal ∧ Fin ρ φ h w a fr' h' a' w'
  | .ex id fr' h' => e = .exit id ∧ Fin ρ φ h w a fr' h' a' w'
  | .ret fr' h' => e = .ret ∧ Fin ρ φ h w a fr' h' a' w'
  | .pn v h' => ∃ u φ', e = .panic [{ v := u, recovered := false }] ∧ VC ρ φ' v u ∧ Stp ρ φ h w φ' h' w' ∧ a'.defers = a.defers
theorem PPost.trans {φ' : Emb} {h1 : Hp} {a' : Act} {w' : World} {r : PC} (x : Stp ρ φ h w φ' h1 w') (hd : a'.defers = a.defers) (hs : a'.tmps.size = a.tmps.size) {e : Exit} {a'' : Act} {w'' : World} (y : PPost ρ φ' h1 w' a' r e a'' w'') : PPost ρ φ h w a r e a'' w'' := by
  cases r with
  | no => exact y
  | nrm fr h => exact ⟨y.1, Fin.trans x hd hs y.2⟩
  | ex id fr h => exact ⟨y.1, Fin.trans x hd hs y.2⟩
  | ret fr h => exact ⟨y.1, Fin.trans x hd hs y.2⟩
  | pn v h => obtain ⟨u, φ2, h1, h2, h3, h4⟩ := y; exact ⟨u, φ2, h1, h2, x.trans h3, h4.trans hd⟩
def PCodeOk (P : Program) (E : Env) (U : Bid → Option PFn) (call : CallF) (n : Nat) : Prop :=
  ∀ (N : Nat) (c : Code) (ac : ACd), cCode P N c = some ac → ∀ (fr : Fr) (h : Hp) (r : PC), pev P E U call n ac fr h = r → r ≠ .no → ∀ (ρ : Vn) (φ : Emb) (a : Act) (w : World), EnvOk E ρ → FR ρ φ fr a.tmps → Rel ρ φ h w → N ≤ a.tmps.size → c.wp P (PPost ρ φ h w a r) a w
theorem poOf_ok {r : RO} {v : AV} {h : Hp} (e : poOf r = .ok v h) : r = .ok v h := by
  cases r with
  | no => cases e
  | ok _ _ => cases e; rfl
theorem poOf_pn {r : RO} {h : Hp} (e : poOf r = .pn v h) : False := by cases r <;> cases e
theorem pcall_of_code (hU : UOk P E U) (hC : CallOk P E call) {n : Nat} (hcode : PCodeOk P E U call n) : PCallOk P E (pcallBy U call (pev P E U call n)) := by
  intro f vs h r e hne
  have e0 : (Option.casesOn (motive := fun _ => PO) (U f) (poOf (call f vs h)) fun fn => pcallFn fn (pev P E U call n) vs h) = r := e
  cases hfn : U f with
  | none =>
    rw [hfn] at e0
    have e1 : poOf (call f vs h) = r := e0
    cases r with
    | no => exact absurd rfl hne
    | pn v h' => exact (poOf_pn e1).elim
    | ok v h' =>
      obtain ⟨h1, h2⟩ := hC f vs h v h' (poOf_ok e1)
      exact ⟨h1, fun ρ φ w us he hr hu => h2 ρ φ w us he hr hu⟩
  | some fn =>
    rw [hfn] at e0
    obtain ⟨hent, hfd⟩ := hU f fn hfn
    refine ⟨hent, ?_⟩
    cases fn with
    | nat g => exact fun ρ φ w us he hr hu => hfd vs h r e0 hne ρ φ w us he hr hu
    | code b res =>
      have e1 : (Option.casesOn (motive := fun _ => PO) (frameOf vs places Fr.nil) .no fun fr => poPC res (pev P E U call n b fr h)) = r := e0
      cases hfo : frameOf vs places Fr.nil with
      | none => rw [hfo] at e1; exact absurd e1.symm hne
      | some fr =>
        rw [hfo] at e1
        obtain ⟨fd, c, hf, hb, hcc, hcr⟩ := hfd
        intro ρ φ w us he hr hu
        refine calls_of_wp hf hb ?_
        have hframe : FR ρ φ fr (us.toArray ++ Array.replicate (fd.ntmps - us.toArray.size) undef) := by
          refine frame_ok (k := 0) hu (fun i p hp => by rw [Nat.zero_add]; exact places_tn i p hp) (fun i u hiu => ?_) (fun i j x hx => by rw [getF_nil] at hx; cases hx) hfo
          have hlt := (List.getElem?_eq_some_iff.1 hiu).1
          rw [Nat.zero_add, Array.getElem?_append_left (by simpa using hlt)]
          simpa using hiu
        have hsz : fd.ntmps ≤ (us.toArray ++ Array.replicate (fd.ntmps - us.toArray.size) undef).size := by simp; omega
        have e2 : poPC res (pev P E U call n b fr h) = r := e1
        cases hrun : pev P E U call n b fr h with
        | no => rw [hrun] at e2; exact absurd e2.symm hne
        | ex id fr2 h2' => rw [hrun] at e2; exact absurd e2.symm hne
        | pn v2 h2' =>
          rw [hrun] at e2
          have e3 : PO.pn v2 h2' = r := e2
          subst e3
          refine wp_mono (hcode fd.ntmps c b hcc fr h _ hrun (by simp) ρ φ { tmps := us.toArray ++ Array.replicate (fd.ntmps - us.toArray.size) undef, defers := [] } w he hframe hr hsz) ?_
          rintro e a' w' ⟨u, φ', rfl, q1, q2, q3⟩
          exact ⟨q3, u, φ', rfl, q1, q2⟩
        | nrm fr2 h2' =>
          rw [hrun] at e2
          have e3 : poOf (retOf res fr2 h2') = r := e2
          cases r with
          | no => exact absurd rfl hne
          | pn _ _ => exact (poOf_pn e3).elim
          | ok v h' =>
            refine wp_mono (hcode fd.ntmps c b hcc fr h _ hrun (by simp) ρ φ { tmps := us.toArray ++ Array.replicate (fd.ntmps - us.toArray.size) undef, defers := [] } w he hframe hr hsz) ?_
            rintro e a' w' ⟨rfl, φ', q1, q2, q3, q4⟩
            obtain ⟨rfl, u, q5, q6⟩ := results_ok q1 q2.rel hcr (poOf_ok e3)
            exact ⟨q3, u, q5, u, φ', rfl, q6, q2⟩
        | ret fr2 h2' =>
          rw [hrun] at e2
          have e3 : poOf (retOf res fr2 h2') = r := e2
          cases r with
          | no => exact absurd rfl hne
          | pn _ _ => exact (poOf_pn e3).elim
          | ok v h' =>
            refine wp_mono (hcode fd.ntmps c b hcc fr h _ hrun (by simp) ρ φ { tmps := us.toArray ++ Array.replicate (fd.ntmps - us.toArray.size) undef, defers := [] } w he hframe hr hsz) ?_
            rintro e a' w' ⟨rfl, φ', q1, q2, q3, q4⟩
            obtain ⟨rfl, u, q5, q6⟩ := results_ok q1 q2.rel hcr (poOf_ok e3)
            exact ⟨q3, u, q5, u, φ', rfl, q6, q2⟩
theorem pcode_ok (hU : UOk P E U) (hC : CallOk P E call) (hD : DrawOk P E) (n : Nat) : PCodeOk P E U call n := by
  induction n using Nat.strongRecOn with
  | _ n ih =>
  cases n with
  | zero =>
    intro N c ac hc fr h r hr hne
    exact absurd hr.symm hne
  | succ n =>
  have ihn : PCodeOk P E U call n := ih n (Nat.lt_succ_self n)
  have hcall := pcall_of_code hU hC ihn
  intro N c
  induction c with
  | skip =>
    intro ac hc fr h r hr hne ρ φ a w he hf hrel hN
    cases hc
    have : r = .nrm fr h := hr.symm
    subst this
    exact wp_skip ⟨rfl, φ, hf, Stp.refl hrel, rfl, rfl⟩
  | label l =>
    intro ac hc fr h r hr hne ρ φ a w he hf hrel hN
    cases hc
    have : r = .nrm fr h := hr.symm
    subst this
    exact wp_label ⟨rfl, φ, hf, Stp.refl hrel, rfl, rfl⟩
  | ret =>
    intro ac hc fr h r hr hne ρ φ a w he hf hrel hN
    cases hc
    have : r = .ret fr h := hr.symm
    subst this
    exact wp_ret ⟨rfl, φ, hf, Stp.refl hrel, rfl, rfl⟩
  | exit id =>
    intro ac hc fr h r hr hne ρ φ a w he hf hrel hN
    cases hc
    have : r = .ex id fr h := hr.symm
    subst this
    exact wp_exit ⟨rfl, φ, hf, Stp.refl hrel, rfl, rfl⟩
  | region id ops draw =>
    intro ac hc fr h r hr hne ρ φ a w he hf hrel hN
    have hc' : cRegion P N ops draw = some ac := hc
    cases draw with
    | false =>
      unfold cRegion at hc'
      cases hl : mapO (cOper P N ops) ops.toList with
      | none => rw [hl] at hc'; cases hc'
      | some l =>
        rw [hl] at hc'
        cases hc'
        have hr' : pcOf (pregion P E (pcallBy U call (pev P E U call n)) l fr h) = r := hr
        refine wp_region ?_
        rw [List.range_eq_range']
        cases hp : pregion P E (pcallBy U call (pev P E U call n)) l fr h with
        | no => rw [hp] at hr'; exact absurd hr'.symm hne
        | ok fr1 h1 =>
          rw [hp] at hr'
          have : r = .nrm fr1 h1 := hr'.symm
          subst this
          exact pregion_wp hcall hl he ops.size 0 (by omega) φ fr a h w _ hf hrel hN hp (by simp) fun e a' w' hfin => hfin
        | pn v1 fr1 h1 =>
          rw [hp] at hr'
          have : r = .pn v1 h1 := hr'.symm
          subst this
          refine pregion_wp hcall hl he ops.size 0 (by omega) φ fr a h w _ hf hrel hN hp (by simp) fun e a' w' hfin => ?_
          obtain ⟨u, φ', q1, _, q2, q3, q4, _⟩ := hfin
          exact ⟨u, φ', q1, q2, q3, q4⟩
    | true =>
      have hdr : ∃ l, ac = .dreg l := by
        unfold cRegion at hc'
        cases hl : mapO (cOper P N ops) ops.toList with
        | none => rw [hl] at hc'; cases hc'
        | some l =>
          rw [hl] at hc'
          simp only [Bool.not_true, Bool.false_eq_true, if_false] at hc'
          split at hc'
          · cases hc'; exact ⟨_, rfl⟩
          · cases hc'
      obtain ⟨l, rfl⟩ := hdr
      have hr' : pcRF (draws P E (okCall (pcallBy U call (pev P E U call n))) l fr h) = r := hr
      cases hp : draws P E (okCall (pcallBy U call (pev P E U call n))) l fr h with
      | no => rw [hp] at hr'; exact absurd hr'.symm hne
      | ok fr' h' =>
        rw [hp] at hr'
        have : r = .nrm fr' h' := hr'.symm
        subst this
        exact wp_region_draw (hD N ops l hc' _ (okCall_ok hcall) ρ φ fr a h w fr' h' he hf hrel hN hp _ fun a' w' hfin => ⟨rfl, hfin⟩)
  | seq x y _ _ =>
    intro ac hc fr h r hr hne ρ φ a w he hf hrel hN
    simp only [cCode] at hc
    split at hc
    · rename_i ax ay hx hy
      cases hc
      have hr' : PC.casesOn (motive := fun _ => PC) (pev P E U call n ax fr h) PC.no (pev P E U call n ay) PC.ex PC.ret PC.pn = r := hr
      refine wp_seq ?_
      cases h1 : pev P E U call n ax fr h with
      | no => rw [h1] at hr'; exact absurd hr'.symm hne
      | nrm fr1 h1' =>
        rw [h1] at hr'
        refine wp_mono (ihn N x ax hx fr h _ h1 (by simp) ρ φ a w he hf hrel hN) ?_
        rintro e a1 w1 ⟨rfl, φ1, q1, q2, q3, q4⟩
        show y.wp P _ a1 w1
        refine wp_mono (ihn N y ay hy fr1 h1' r hr' hne ρ φ1 a1 w1 he q1 q2.rel (by omega)) ?_
        intro e a2 w2 hp
        exact hp.trans q2 q3 q4
      | ex id fr1 h1' =>
        rw [h1] at hr'
        have : r = .ex id fr1 h1' := hr'.symm
        subst this
        refine wp_mono (ihn N x ax hx fr h _ h1 (by simp) ρ φ a w he hf hrel hN) ?_
        rintro e a1 w1 ⟨rfl, hfin⟩
        exact ⟨rfl, hfin⟩
      | ret fr1 h1' =>
        rw [h1] at hr'
        have : r = .ret fr1 h1' := hr'.symm
        subst this
        refine wp_mono (ihn N x ax hx fr h _ h1 (by simp) ρ φ a w he hf hrel hN) ?_
        rintro e a1 w1 ⟨rfl, hfin⟩
        exact ⟨rfl, hfin⟩
      | pn v1 h1' =>
        rw [h1] at hr'
        have : r = .pn v1 h1' := hr'.symm
        subst this
        refine wp_mono (ihn N x ax hx fr h _ h1 (by simp) ρ φ a w he hf hrel hN) ?_
        rintro e a1 w1 ⟨u, φ1, rfl, hfin⟩
        exact ⟨u, φ1, rfl, hfin⟩
    · cases hc
  | cond o x y _ _ =>
    intro ac hc fr h r hr hne ρ φ a w he hf hrel hN
    simp only [cCode] at hc
    split at hc
    · rename_i ao ax ay ho hx hy
      cases hc
      have hr' : pCond (pev P E U call n) ao ax ay fr h = r := hr
      unfold pCond at hr'
      cases h1 : ev ao fr with
      | none => rw [h1] at hr'; exact absurd hr'.symm hne
      | some v =>
        rw [h1] at hr'
        cases v with
        | a l => exact absurd hr'.symm hne
        | t l => exact absurd hr'.symm hne
        | c c1 =>
          have hv : VC ρ φ c1 (a.eval o) := cX_ok ho hf h1
          cases c1 <;> first | exact absurd hr'.symm hne | skip
          rename_i b
          refine wp_cond (t := b) hv ?_
          cases b with
          | true => exact ihn N x ax hx fr h r hr' hne ρ φ a w he hf hrel hN
          | false => exact ihn N y ay hy fr h r hr' hne ρ φ a w he hf hrel hN
    · cases hc
  | block id b _ =>
    intro ac hc fr h r hr hne ρ φ a w he hf hrel hN
    obtain ⟨ab, hb, rfl⟩ := map_some (show (cCode P N b).map (ACd.block id) = some ac from hc)
    have hr' : PC.casesOn (motive := fun _ => PC) (pev P E U call n ab fr h) PC.no PC.nrm (pExit id) PC.ret PC.pn = r := hr
    refine wp_block ?_
    cases h1 : pev P E U call n ab fr h with
    | no => rw [h1] at hr'; exact absurd hr'.symm hne
    | nrm fr1 h1' =>
      rw [h1] at hr'
      have : r = .nrm fr1 h1' := hr'.symm
      subst this
      refine wp_mono (ihn N b ab hb fr h _ h1 (by simp) ρ φ a w he hf hrel hN) ?_
      rintro e a1 w1 ⟨rfl, hfin⟩
      exact ⟨rfl, hfin⟩
    | ret fr1 h1' =>
      rw [h1] at hr'
      have : r = .ret fr1 h1' := hr'.symm
      subst this
      refine wp_mono (ihn N b ab hb fr h _ h1 (by simp) ρ φ a w he hf hrel hN) ?_
      rintro e a1 w1 ⟨rfl, hfin⟩
      exact ⟨rfl, hfin⟩
    | pn v1 h1' =>
      rw [h1] at hr'
      have : r = .pn v1 h1' := hr'.symm
      subst this
      refine wp_mono (ihn N b ab hb fr h _ h1 (by simp) ρ φ a w he hf hrel hN) ?_
      rintro e a1 w1 ⟨u, φ1, rfl, hfin⟩
      exact ⟨u, φ1, rfl, hfin⟩
    | ex i fr1 h1' =>
      rw [h1] at hr'
      have hr2 : pExit id i fr1 h1' = r := hr'
      refine wp_mono (ihn N b ab hb fr h _ h1 (by simp) ρ φ a w he hf hrel hN) ?_
      rintro e a1 w1 ⟨rfl, hfin⟩
      unfold pExit at hr2
      cases hbi : Nat.beq i id with
      | true =>
        rw [hbi] at hr2
        have hi : i = id := Nat.eq_of_beq_eq_true hbi
        have : r = .nrm fr1 h1' := hr2.symm
        subst this
        simp only [Exit.inBlock, hi, if_true]
        exact ⟨rfl, hfin⟩
      | false =>
        rw [hbi] at hr2
        have hi : i ≠ id := by rintro rfl; rw [Nat.beq_refl] at hbi; cases hbi
        have : r = .ex i fr1 h1' := hr2.symm
        subst this
        simp only [Exit.inBlock, hi, if_false]
        exact ⟨rfl, hfin⟩
  | loop b _ =>
    intro ac hc fr h r hr hne ρ φ a w he hf hrel hN
    obtain ⟨ab, hb, rfl⟩ := map_some (show (cCode P N b).map ACd.loop = some ac from hc)
    have rounds : ∀ m, m ≤ n + 1 → ∀ (fr1 : Fr) (h1 : Hp), pev P E U call m (.loop ab) fr1 h1 = r → ∀ (φ1 : Emb) (a1 : Act) (w1 : World), FR ρ φ1 fr1 a1.tmps → Stp ρ φ h w φ1 h1 w1 → a1.defers = a.defers → a1.tmps.size = a.tmps.size → Code.rounds P b (PPost ρ φ h w a r) m a1 w1 := by
      intro m
      induction m with
      | zero => intro _ fr1 h1 e; exact absurd e.symm hne
      | succ m ihm =>
        intro hm fr1 h1 e φ1 a1 w1 q1 q2 q3 q4
        have e' : PC.casesOn (motive := fun _ => PC) (pev P E U call m ab fr1 h1) PC.no (pev P E U call m (.loop ab)) PC.ex PC.ret PC.pn = r := e
        rw [rounds_succ]
        have ihb := ih m (by omega) N b ab hb fr1 h1
        cases h2 : pev P E U call m ab fr1 h1 with
        | no => rw [h2] at e'; exact absurd e'.symm hne
        | nrm fr2 h2' =>
          rw [h2] at e'
          refine wp_mono (ihb _ h2 (by simp) ρ φ1 a1 w1 he q1 q2.rel (by omega)) ?_
          rintro e a2 w2 ⟨rfl, φ2, p1, p2, p3, p4⟩
          exact ihm (by omega) fr2 h2' e' φ2 a2 w2 p1 (q2.trans p2) (p3.trans q3) (p4.trans q4)
        | ex id fr2 h2' =>
          rw [h2] at e'
          have : r = .ex id fr2 h2' := e'.symm
          subst this
          refine wp_mono (ihb _ h2 (by simp) ρ φ1 a1 w1 he q1 q2.rel (by omega)) ?_
          rintro e a2 w2 ⟨rfl, hfin⟩
          exact ⟨rfl, Fin.trans q2 q3 q4 hfin⟩
        | ret fr2 h2' =>
          rw [h2] at e'
          have : r = .ret fr2 h2' := e'.symm
          subst this
          refine wp_mono (ihb _ h2 (by simp) ρ φ1 a1 w1 he q1 q2.rel (by omega)) ?_
          rintro e a2 w2 ⟨rfl, hfin⟩
          exact ⟨rfl, Fin.trans q2 q3 q4 hfin⟩
        | pn v2 h2' =>
          rw [h2] at e'
          have : r = .pn v2 h2' := e'.symm
          subst this
          refine wp_mono (ihb _ h2 (by simp) ρ φ1 a1 w1 he q1 q2.rel (by omega)) ?_
          rintro e a2 w2 ⟨u, φ2, rfl, p1, p2, p3⟩
          exact ⟨u, φ2, rfl, p1, q2.trans p2, p3.trans q3⟩
    exact wp_loop_rounds (n + 1) (rounds (n + 1) (Nat.le_refl _) fr h hr φ a w hf (Stp.refl hrel) rfl rfl)
  | scope b ihb =>
    intro ac hc fr h r hr hne ρ φ a w he hf hrel hN
    refine wp_scope_straight (wp_mono (ihb ac hc fr h r hr hne ρ φ a w he hf hrel hN) ?_)
    intro e a1 w1 hp
    cases r with
    | no => exact hp.elim
    | nrm fr h => obtain ⟨rfl, hfin⟩ := hp; exact ⟨rfl, hfin⟩
    | ex id fr h => obtain ⟨rfl, hfin⟩ := hp; exact ⟨rfl, hfin⟩
    | ret fr h => obtain ⟨rfl, hfin⟩ := hp; exact ⟨rfl, hfin⟩
    | pn v h => obtain ⟨u, φ1, rfl, hfin⟩ := hp; exact ⟨u, φ1, rfl, hfin⟩
  | rangeFunc f ps x y _ _ => intro ac hc; cases hc
  | goto l => intro ac hc; cases hc
  | refuse s => intro ac hc; cases hc
/-- calls that may panic are evaluated soundly -/
theorem pcall_ok (hU : UOk P E U) (hC : CallOk P E call) (hm : P.follows .mixedOrders = true) (n : Nat) : PCallOk P E (pcallBy U call (pev P E U call n)) := pcall_of_code hU hC (pcode_ok hU hC (draw_ok hm) n)
end
end Go.Proofs.YthleifmbnpcceaaGreat
