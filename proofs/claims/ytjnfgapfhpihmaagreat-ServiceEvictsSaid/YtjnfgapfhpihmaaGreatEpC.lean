/-
  A verified evaluator: a function that defers a closure which recovers, where nothing is thrown: cells made, the closure deferred, a region, the end; behind it the closure runs. No function of the program is named here.
-/
import Derived.Test.YtjnfgapfhpihmaaGreatEvG
import Derived.Recover
set_option linter.unusedVariables false
set_option linter.unusedSimpArgs false
namespace Go.Proofs.YtjnfgapfhpihmaaGreat
noncomputable section
def rfRO (r : RF) (f : Fr → Hp → RO) : RO := RF.casesOn (motive := fun _ => RO) r .no f
def tryEnd (run : ACd → Fr → Hp → RC) (rest : ACd) (res : List AR) (i j : D16) (ds : List AV) (v : AC) (fr : Fr) (h : Hp) : RO :=
  ro (frameOf ds places Fr.nil) fun fd => RC.casesOn (motive := fun _ => RO) (run rest (putF i j (.c v) fd) h) .no (fun _ h => retOf res fr h) (fun _ _ _ => .no) fun _ h => retOf res fr h
def tryRun (E : Env) (P : Program) (call : CallF) (l3 : List AOp) (k : AC → Fr → Hp → RO) (fr : Fr) (h : Hp) : RO := rfRO (aregion P E call l3 fr h) (k .ni)
def tryG (P : Program) (E : Env) (call : CallF) (run : ACd → Fr → Hp → RC) (l1 : List AOp) (oM : AOp) (i4 j4 : D16) (l3 : List AOp) (rest : ACd) (i5 j5 : D16) (res : List AR) (args : List AV) (h : Hp) : RO :=
  ro (frameOf args places Fr.nil) fun fr => rfRO (aregion P E noCall l1 fr h) fun fr h => rfRO (aregion P E noCall [oM] fr h) fun fr h =>
    ro (ob (getF i4 j4 fr) asC) fun c => match c with
      | .fn _ first caps => tryRun E P call l3 (tryEnd run rest res i5 j5 (addrs first ++ addrs caps)) fr h
      | _ => .no
end
section
variable {P : Program} {E : Env} {T : Tab} {call : CallF} {n : Nat}
theorem rfRO_ok {r : RF} {f : Fr → Hp → RO} {v : AV} {h' : Hp} (e : rfRO r f = .ok v h') : ∃ fr h, r = .ok fr h ∧ f fr h = .ok v h' := by
  cases r with
  | no => cases e
  | ok fr h => exact ⟨fr, h, rfl, e⟩
theorem noCall_ok : CallOk P E noCall := by
  intro f vs h v h' e
  cases e
theorem wpS_rest {ρ : Vn} {φ : Emb} {fr : Fr} {h : Hp} {w : World} {N : Nat} {c : Code} {ac : ACd} (hcode : CodeOk P E T n) (he : EnvOk E ρ) (hc : cCode P N c = some ac) {a : Act} (hf : FR ρ φ fr a.tmps) (hr : Rel ρ φ h w) (hN : N ≤ a.tmps.size) {r : RC} (hrun : aev P E T n ac fr h = r) (hne : r ≠ .no)
    {Q : Exit → Act → List Frame → World → Prop} {cs : List Frame} (hq : ∀ e a' w', CPost ρ φ h w a r e a' w' → Q e a' cs w') : c.wpS P Q a cs w :=
  wpS_of_wp (wp_mono (hcode N c ac hc fr h r hrun hne ρ φ a w he hf hr hN) fun e a' w' hp => hq e a' w' hp)
variable {f g : Bid} {fd fg : Func} {i1 i2 i3 i0 : Nat} {ops1 ops2 ops3 : Array Oper} {oF oD oR : Oper} {cD cR : Call} {rest : Code} {l1 l3 : List AOp} {oM : AOp} {i4 j4 i5 j5 : D16} {arest : ACd} {res : List AR}
theorem try_ok (hT : TabOk P E T) (hm : P.follows .mixedOrders = true) (hpc : CallOk P E call)
    (hf : P.funcs[f.num]? = some fd) (hb : fd.body = some (.seq (.region i1 ops1 false) (.seq (.region i2 #[oF, oD] false) (.seq (.region i3 ops3 false) .ret))))
    (hl1 : mapO (cOper P fd.ntmps ops1) ops1.toList = some l1) (hM : cOper P fd.ntmps #[oF, oD] oF = some oM) (hMg : oM.guard = none)
    (hDo : oD.op = .defer cD) (hDd : oD.dst = none) (hDg : oD.guard = none) (hDc : cD.callee = .value (.tmp (tn i4 j4))) (hDa : cD.args = #[])
    (hl3 : mapO (cOper P fd.ntmps ops3) ops3.toList = some l3) (hres : cRes P fd.results.toList = some res)
    (hg : P.funcs[g.num]? = some fg) (hgb : fg.body = some (.seq (.region i0 #[oR] false) rest)) (hgr : fg.results = #[])
    (hge : ∀ args w, (callFunc g.num args).run P w = .ok (.enter g.num args) w)
    (hRo : oR.op = .call cR) (hRc : cR.callee = .builtin .recover) (hRd : oR.dst = some (tn i5 j5)) (hRg : oR.guard = none) (hR5 : tn i5 j5 < fg.ntmps)
    (hrest : cCode P fg.ntmps rest = some arest) :
    ∀ vs v h h', tryG P E call (aev P E T n) l1 oM i4 j4 l3 arest i5 j5 res vs h = .ok v h' → (∀ fr c first caps, getF i4 j4 fr = some (.c (.fn c first caps)) → True) →
    (∀ fr0 h0 fr1 h1, aregion P E noCall [oM] fr0 h0 = .ok fr1 h1 → ∃ first caps, getF i4 j4 fr1 = some (.c (.fn g first caps))) →
    ∀ ρ φ w us, EnvOk E ρ → Rel ρ φ h w → All2 (VV ρ φ) vs us → Calls P f.num us.toArray w fun e w' => ∃ u φ', e = .returned u ∧ VV ρ φ' v u ∧ Stp ρ φ h w φ' h' w' := by
  intro vs v h h' e _ hgfn ρ φ w us he hr hu
  have hcode : CodeOk P E T n := code_ok hT (draw_ok hm) n
  obtain ⟨fr0, h1, e1⟩ := ro_ok e
  obtain ⟨fr1, hp1, h2, e2⟩ := rfRO_ok e1
  obtain ⟨fr2, hp2, h3, e3⟩ := rfRO_ok e2
  obtain ⟨c4, h4, e4⟩ := ro_ok e3
  obtain ⟨first, caps, hfn⟩ := hgfn fr1 hp1 fr2 hp2 h3
  obtain ⟨u4, h5, h6⟩ := ob_some h4
  rw [hfn] at h5
  cases h5
  cases h6
  have e5 : tryRun E P call l3 (tryEnd (aev P E T n) arest res i5 j5 (addrs first ++ addrs caps)) fr2 hp2 = .ok v h' := e4
  clear e e1 e2 e3 e4 h4
  refine calls_of_wp_defers hf hb ?_
  have hframe : FR ρ φ fr0 (us.toArray ++ Array.replicate (fd.ntmps - us.toArray.size) undef) := by
    refine frame_ok (k := 0) hu (fun i p hp => by rw [Nat.zero_add]; exact places_tn i p hp) (fun i u hiu => ?_) (fun i j x hx => by rw [getF_nil] at hx; cases hx) h1
    have hlt := (List.getElem?_eq_some_iff.1 hiu).1
    rw [Nat.zero_add, Array.getElem?_append_left (by simpa using hlt)]
    simpa using hiu
  have hsz : fd.ntmps ≤ (us.toArray ++ Array.replicate (fd.ntmps - us.toArray.size) undef).size := by simp; omega
  generalize (us.toArray ++ Array.replicate (fd.ntmps - us.toArray.size) undef) = tm at hframe hsz
  have after : ∀ (φ2 : Emb) (fr3 : Fr) (hp3 : Hp) (a3 : Act) (w3 : World) (vR : AC) (uR : Value) (md : FrameMode), FR ρ φ2 fr3 a3.tmps → Stp ρ φ h w φ2 hp3 w3 → (∀ p q, All2 (PtrAt φ) p q → All2 (PtrAt φ2) p q) →
      VC ρ φ2 vR uR → tryEnd (aev P E T n) arest res i5 j5 (addrs first ++ addrs caps) vR fr3 hp3 = .ok v h' →
      (∃ xs ys : List Value, All2 (PtrAt φ2) first xs ∧ All2 (PtrAt φ2) caps ys ∧ a3.defers = [{ target := .fn (.func g.num) ys.toArray, args := xs.toArray }]) →
      (md = .returning ∧ uR = .nilIface) →
      Leaves P fd a3.tmps (fun e w' => ∃ u φ', e = .returned u ∧ VV ρ φ' v u ∧ Stp ρ φ h w φ' h' w') a3.defers md w3 := by
    rintro φ2 fr3 hp3 a3 w3 vR uR md k1 k2 _ k3 k4 ⟨xs, ys, k5, k6, k7⟩ k8
    obtain ⟨fr4, k9, k10⟩ := ro_ok k4
    rw [k7]
    have hrun : md ≠ .run := by rw [k8.1]; simp
    refine leaves_cons (f := g.num) (args := (xs ++ ys).toArray) hrun ?_ ?_
    · show (callFunc g.num (xs.toArray ++ ys.toArray)).run P w3 = _
      rw [show xs.toArray ++ ys.toArray = (xs ++ ys).toArray by simp]
      exact hge _ _
    refine callsD_of_wpS hg hgb ?_
    intro c₀ cs hmode
    have hus : All2 (VV ρ φ2) (addrs first ++ addrs caps) (xs ++ ys) := (ptr_vv k5).append (ptr_vv k6)
    have hfd : FR ρ φ2 fr4 ((xs ++ ys).toArray ++ Array.replicate (fg.ntmps - (xs ++ ys).toArray.size) undef) := by
      refine frame_ok (k := 0) hus (fun i p hp => by rw [Nat.zero_add]; exact places_tn i p hp) (fun i u hiu => ?_) (fun i j x hx => by rw [getF_nil] at hx; cases hx) k9
      have hlt := (List.getElem?_eq_some_iff.1 hiu).1
      rw [Nat.zero_add, Array.getElem?_append_left (by simpa using hlt)]
      simpa using hiu
    have hgsz : fg.ntmps ≤ ((xs ++ ys).toArray ++ Array.replicate (fg.ntmps - (xs ++ ys).toArray.size) undef).size := by simp; omega
    generalize ((xs ++ ys).toArray ++ Array.replicate (fg.ntmps - (xs ++ ys).toArray.size) undef) = tg at hfd hgsz
    have hput : FR ρ φ2 (putF i5 j5 (.c vR) fr4) (Act.put { tmps := tg, defers := [] } (some (tn i5 j5)) uR).tmps := by
      intro i j x hx
      simp only [Act.put]
      by_cases hij : i = i5 ∧ j = j5
      · obtain ⟨rfl, rfl⟩ := hij
        rw [getF_putF] at hx
        cases hx
        refine ⟨by simp; omega, ?_⟩
        have : (tg.setIfInBounds (tn i j) uR).getD (tn i j) undef = uR := by
          simp only [Array.getD_eq_getD_getElem?]
          rw [Array.getElem?_setIfInBounds_self]
          simp [show tn i j < tg.size by omega]
        rw [this]
        exact k3
      · rw [getF_putF_ne hij] at hx
        obtain ⟨q1, q2⟩ := hfd i j x hx
        refine ⟨by simpa using q1, ?_⟩
        have hne : tn i5 j5 ≠ tn i j := fun hh => hij (by obtain ⟨z1, z2⟩ := tn_inj hh; exact ⟨z1.symm, z2.symm⟩)
        simp only [Array.getD_eq_getD_getElem?] at q2 ⊢
        rw [Array.getElem?_setIfInBounds_ne hne]
        exact q2
    have hput2 : fg.ntmps ≤ (Act.put { tmps := tg, defers := [] } (some (tn i5 j5)) uR).tmps.size := by simp only [Act.put]; simpa using hgsz
    have hput3 : (Act.put { tmps := tg, defers := [] } (some (tn i5 j5)) uR).defers = [] := rfl
    generalize hA : Act.put { tmps := tg, defers := [] } (some (tn i5 j5)) uR = A at hput hput2 hput3
    have tail : ∀ (md' : FrameMode) (cs' : List Frame), cs' = { c₀ with mode := md' } :: cs → settle md' = .returning → rest.wpS P (bodyPostS P fg c₀ cs fun e u' w' => match e with
        | .returned _ => Leaves P fd a3.tmps (fun e w' => ∃ u φ', e = .returned u ∧ VV ρ φ' v u ∧ Stp ρ φ h w φ' h' w') [] (settle u') w'
        | .panicked chain => Leaves P fd a3.tmps (fun e w' => ∃ u φ', e = .returned u ∧ VV ρ φ' v u ∧ Stp ρ φ h w φ' h' w') [] (raised u' chain) w'
        | .outgrown => ∃ u φ', Ending.outgrown = .returned u ∧ VV ρ φ' v u ∧ Stp ρ φ h w φ' h' w') A cs' w3 := by
      rintro md' cs' rfl hset
      have fin : ∀ (fr5 : Fr) (hp5 : Hp) (a5 : Act) (w5 : World), retOf res fr3 hp5 = .ok v h' → Fin ρ φ2 hp3 w3 A fr5 hp5 a5 w5 → a5.defers = [] ∧ ∃ u', { c₀ with mode := md' } :: cs = { c₀ with mode := u' } :: cs ∧ ∃ x, (results fg a5.tmps).run P w5 = .ok x w5 ∧
          Leaves P fd a3.tmps (fun e w' => ∃ u φ', e = .returned u ∧ VV ρ φ' v u ∧ Stp ρ φ h w φ' h' w') [] (settle u') w5 := by
        rintro fr5 hp5 a5 w5 hret ⟨φ5, z1, z2, z3, z4⟩
        obtain ⟨rfl, u, z5, z6⟩ := results_ok (k1.le z2.le) z2.rel hres hret
        refine ⟨z3.trans hput3, md', rfl, .tuple #[], by simp [results, hgr], ?_⟩
        rw [hset]
        exact ⟨u, z5, u, φ5, rfl, z6, k2.trans z2⟩
      cases hrn : aev P E T n arest (putF i5 j5 (.c vR) fr4) hp3 with
      | no => rw [hrn] at k10; cases k10
      | ex id fr5 hp5 => rw [hrn] at k10; cases k10
      | nrm fr5 hp5 =>
        rw [hrn] at k10
        refine wpS_rest hcode he hrest hput k2.rel hput2 hrn (by simp) ?_
        rintro e a5 w5 ⟨rfl, hfin⟩
        exact fin fr5 hp5 a5 w5 k10 hfin
      | ret fr5 hp5 =>
        rw [hrn] at k10
        refine wpS_rest hcode he hrest hput k2.rel hput2 hrn (by simp) ?_
        rintro e a5 w5 ⟨rfl, hfin⟩
        exact fin fr5 hp5 a5 w5 k10 hfin
    refine wpS_seq (wpS_region ?_)
    have hex : (execOp (Act.eval { tmps := tg, defers := [] }) oR).run P w3 = .ok .recover w3 := by
      rw [execOp_eq, hRo, opR_builtin hRc]
      rfl
    have hw1 : Region.wanted oR (yielded #[oR] tg) = true := by simp [Region.wanted, hRg]
    show wpOpsS P #[oR] _ [0] { tmps := tg, defers := [] } (c₀ :: cs) w3
    obtain ⟨rfl, rfl⟩ := k8
    have hrec : recoverD (c₀ :: cs) = none := by simp [recoverD, hmode]
    simp only [wpOpsS, List.getElem?_toArray, List.getElem?_cons_zero, hw1, if_true, hex, hrec, hRd, Exit.thenS]
    rw [hA]
    exact tail .returning _ (by rw [← hmode]) rfl
  refine wp_seq (wp_region ?_)
  rw [List.range_eq_range']
  refine region_wp noCall_ok hl1 he ops1.size 0 (by omega) φ fr0 { tmps := tm, defers := [] } h w fr1 hp1 hframe hr hsz h2 ?_
  rintro a1 w1 ⟨φ1, q1, q2, q3, q4⟩
  show Code.wp P _ _ a1 w1
  have q4' : a1.tmps.size = tm.size := q4
  refine wp_seq (wp_region ?_)
  show wpOps P #[oF, oD] _ [0, 1] a1 w1
  have h3' : (rof (wantedA fr1 oM.guard) fun b => Bool.casesOn (motive := fun _ => RF) b (RF.ok (setDst oM.dst (.t []) fr1) hp1) (rf (aop P E noCall oM.op fr1 hp1) fun v h => RF.ok (setDst oM.dst v fr1) h)) = .ok fr2 hp2 := h3
  rw [hMg] at h3'
  have h3'' : (rf (aop P E noCall oM.op fr1 hp1) fun v h => RF.ok (setDst oM.dst v fr1) h) = .ok fr2 hp2 := h3'
  cases hop : aop P E noCall oM.op fr1 hp1 with
  | no => rw [hop] at h3''; cases h3''
  | ok v1 hq =>
  rw [hop] at h3''
  cases h3''
  refine oper_wp noCall_ok (by rfl) hM ⟨q1, q2.rel, he⟩ (by omega) (b := true) (by rw [hMg]; rfl) (fun _ => hop) (fun h => by cases h) ?_
  intro a2 w2 φ2 p1 p2 p3 p4 _
  have hv4 : VV ρ φ2 (.c (.fn g first caps)) (a2.tmps.getD (tn i4 j4) undef) := (p1 i4 j4 _ hfn).2
  obtain ⟨xs, ys, hv5, hv6, hv7⟩ := hv4
  rw [wpOps_cons]
  have hw2 : Region.wanted oD (yielded #[oF, oD] a2.tmps) = true := by simp [Region.wanted, hDg]
  have ho2 : (#[oF, oD] : Array Oper)[1]? = some oD := rfl
  simp only [wpOp, ho2, hw2, if_true]
  refine .inl ?_
  have hex : (execOp a2.eval oD).run P w2 = .ok (.defer { target := .fn (.func g.num) ys.toArray, args := xs.toArray }) w2 := by
    rw [execOp_eq, hDo]
    simp [opR, execOp, resolve, hDc, hDa, Act.eval, hv5, Deferred.ofValue]
  unfold Oper.wp
  rw [hex, Oper.upon_defer, hDd]
  show Code.wp P _ _ { a2 with defers := _ :: a2.defers } w2
  have hd2 : a2.defers = [] := p3.trans q3
  rw [hd2]
  refine wp_seq (wp_region ?_)
  rw [List.range_eq_range']
  have q5 := q2.trans p2
  obtain ⟨fr3, hp3, hpr, e6⟩ := rfRO_ok (show rfRO (aregion P E call l3 (setDst oM.dst v1 fr1) hp2) (tryEnd (aev P E T n) arest res i5 j5 (addrs first ++ addrs caps) .ni) = .ok v h' from e5)
  refine region_wp hpc hl3 he ops3.size 0 (by omega) φ2 _ { a2 with defers := [{ target := .fn (.func g.num) ys.toArray, args := xs.toArray }] } hp2 w2 fr3 hp3 p1 p2.rel (by show fd.ntmps ≤ a2.tmps.size; omega) hpr ?_
  rintro a3 w3 ⟨φ3, z1, z2, z3, z4⟩
  refine wp_ret ?_
  show Leaves P fd a3.tmps _ a3.defers .returning w3
  exact after φ3 fr3 hp3 a3 w3 .ni .nilIface _ z1 (q5.trans z2) (fun p q hh => hh.mono fun _ _ => PtrAt.le (q5.trans z2).le) rfl e6 ⟨xs, ys, hv6.mono fun _ _ => PtrAt.le z2.le, hv7.mono fun _ _ => PtrAt.le z2.le, z3⟩ ⟨rfl, rfl⟩
end
end Go.Proofs.YtjnfgapfhpihmaaGreat
