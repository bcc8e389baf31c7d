/-
  A verified evaluator: code and calls. No function of the program is named here.
-/
import Derived.Test.YtmbbciidknchiaaGreatEnQ
import Derived.LoopN
import Derived.Scope
namespace Go.Proofs.YtmbbciidknchiaaGreat
section
variable {P : Program} {E : Env} {ρ : Vn} {φ : Emb} {fr : Fr} {a : Act} {h h' : Hp} {w w' : World} {v : AV} {N : Nat}
/-- what the model does for one result -/
def resR (tmps : Array Value) : ResultVar → Sem Value
  | .tmp t => pure (tmps.getD t undef)
  | .cell a t => do loadVar t (← asAddr (tmps.getD a undef))
theorem res_ok {tmps : Array Value} (hf : FR ρ φ fr tmps) (r : Rel ρ φ h w) : ∀ {rs : List ResultVar} {ars : List AR} {vs : List AV}, cRes P rs = some ars → ares fr h ars = some vs → ∃ us, (rs.mapM (resR tmps) : Sem (List Value)).run P w = .ok us w ∧ All2 (VV ρ φ) vs us
  | [], ars, vs, hc, e => by cases hc; cases e; exact ⟨[], rfl, .nil⟩
  | .tmp t :: rs, ars, vs, hc, e => by
    simp only [cRes] at hc
    split at hc
    · rename_i i j l ht hl
      cases hc
      obtain ⟨u, h1, e1⟩ := ob_some (show ob (getF i j fr) (fun v => ob (ares fr h l) fun vs => some (v :: vs)) = some vs from e)
      obtain ⟨us, h2, e2⟩ := ob_some e1
      cases e2
      obtain ⟨xs, h3, h4⟩ := res_ok hf r hl h2
      have h5 := (hf i j u h1).2
      rw [tmpOf_tn ht] at h5
      refine ⟨tmps.getD t undef :: xs, ?_, .cons h5 h4⟩
      rw [List.mapM_cons]
      simp only [resR, Sem.run_bind, Sem.run_pure, Result.andThen_ok, h3]
    · cases hc
  | .cell b t :: rs, ars, vs, hc, e => by
    simp only [cRes] at hc
    have many : ∀ {i j : D16} {dd : TypeDesc} {s : Nat} {l : List AR}, tmpOf b = some (i, j) → P.underlying t = some dd → aggD dd = true → sizeT P t = some s → cRes P rs = some l → ares fr h (.cells i j s :: l) = some vs → ∃ us, ((ResultVar.cell b t :: rs).mapM (resR tmps) : Sem (List Value)).run P w = .ok us w ∧ All2 (VV ρ φ) vs us := by
      intro i j dd s l ht hu hd hs hl e
      obtain ⟨u, h1, e1⟩ := ob_some (show ob (ares1 fr h (.cells i j s)) (fun v => ob (ares fr h l) fun vs => some (v :: vs)) = some vs from e)
      obtain ⟨us, h2, e2⟩ := ob_some e1
      cases e2
      obtain ⟨xs, h3, h4⟩ := res_ok hf r hl h2
      obtain ⟨q, h5, e3⟩ := ob_some (show ob (getF i j fr) _ = some u from h1)
      have h6 := (hf i j q h5).2
      rw [tmpOf_tn ht] at h6
      split at e3
      · rename_i id off
        obtain ⟨m, h7, e4⟩ := ob_some e3
        cases e4
        obtain ⟨bb, base, tot, h8, h9⟩ := h6
        obtain ⟨b', base', tot', ys, h10, h11, h12, h13⟩ := r.lds h7
        rw [h8] at h10
        cases h10
        refine ⟨.agg ys.toArray :: xs, ?_, .cons ⟨ys, rfl, h12⟩ h4⟩
        have hia := run_isAgg hu w
        rw [hd] at hia
        rw [List.mapM_cons]
        simp only [resR, h9, asAddr, Sem.run_bind, Sem.run_pure, Result.andThen_ok, loadVar, hia, if_true, run_sizeT hs, run_loads h13 h11, h3]
      · cases e3
    split at hc
    · rename_i i j fs s l ht hu hs hl; cases hc; exact many ht hu rfl hs hl e
    · rename_i i j n el s l ht hu hs hl; cases hc; exact many ht hu rfl hs hl e
    · rename_i i j dd s l hne1 hne2 ht hu hs hl
      cases hc
      obtain ⟨u, h1, e1⟩ := ob_some (show ob (ares1 fr h (.cell i j)) (fun v => ob (ares fr h l) fun vs => some (v :: vs)) = some vs from e)
      obtain ⟨us, h2, e2⟩ := ob_some e1
      cases e2
      obtain ⟨xs, h3, h4⟩ := res_ok hf r hl h2
      obtain ⟨q, h5, e3⟩ := ob_some (show ob (getF i j fr) _ = some u from h1)
      have h6 := (hf i j q h5).2
      rw [tmpOf_tn ht] at h6
      split at e3
      · rename_i id off
        obtain ⟨m, h7, e4⟩ := ob_some e3
        cases e4
        obtain ⟨bb, base, tot, h8, h9⟩ := h6
        obtain ⟨b', base', tot', y, h10, h11, h12⟩ := r.ld h7
        rw [h8] at h10
        cases h10
        refine ⟨y :: xs, ?_, .cons h12 h4⟩
        have hia := run_isAgg hu w
        rw [show aggD dd = false by cases dd <;> first | rfl | exact (hne1 _ rfl).elim | exact (hne2 _ _ rfl).elim] at hia
        rw [List.mapM_cons]
        simp only [resR, h9, asAddr, Sem.run_bind, Sem.run_pure, Result.andThen_ok, loadVar, hia, Bool.false_eq_true, if_false, run_load, h11, h3]
      · cases e3
    · cases hc
theorem tvs_ok : ∀ {vs : List AV} {ts : List TV} {us : List Value}, tvs vs = some ts → All2 (VV ρ φ) vs us → All2 (VT ρ φ) ts us
  | [], ts, us, e, h => by cases e; cases h; exact .nil
  | v :: vs, ts, us, e, h => by
    cases h with
    | cons h1 h2 =>
      obtain ⟨t, h3, e1⟩ := ob_some (show ob v.tv (fun v => ob (tvs vs) fun l => some (v :: l)) = some ts from e)
      obtain ⟨m, h4, e2⟩ := ob_some e1
      cases e2
      exact .cons (h1.tv h3) (tvs_ok h4 h2)
theorem results_ok {fn : Func} {tmps : Array Value} (hf : FR ρ φ fr tmps) (r : Rel ρ φ h w) {ars : List AR} (hc : cRes P fn.results.toList = some ars) (e : retOf ars fr h = .ok v h') : h' = h ∧ ∃ u, (results fn tmps).run P w = .ok u w ∧ VV ρ φ v u := by
  obtain ⟨vs, h1, e1⟩ := ro_ok e
  obtain ⟨x, h2, e2⟩ := ro_ok e1
  cases e2
  refine ⟨rfl, ?_⟩
  obtain ⟨us, h3, h4⟩ := res_ok hf r hc h1
  have hm : (fn.results.mapM (resR tmps) : Sem (Array Value)).run P w = .ok us.toArray w := by
    rw [Array.mapM_eq_mapM_toList]
    simp only [Sem.run_map, h3, Result.andThen_ok]
  have hr : (results fn tmps).run P w = .ok (if hh : us.toArray.size = 1 then us.toArray[0] else .tuple us.toArray) w := by
    have : results fn tmps = (do let vs ← fn.results.mapM (resR tmps); pure (if h : vs.size = 1 then vs[0] else .tuple vs)) := rfl
    rw [this]
    simp only [Sem.run_bind, hm, Result.andThen_ok, Sem.run_pure]
  have tup : ∀ {l : List AV}, oneT l = some v → All2 (VV ρ φ) l us → us.length ≠ 1 → ∃ u, (results fn tmps).run P w = .ok u w ∧ VV ρ φ v u := by
    intro l h5 h6 h7
    obtain ⟨ts, h8, h9⟩ := ob_some h5
    cases h9
    refine ⟨.tuple us.toArray, ?_, ⟨us, rfl, tvs_ok h8 h6⟩⟩
    rw [hr, dif_neg (by simpa using h7)]
  cases h4 with
  | nil => exact tup (l := []) h2 .nil (by simp)
  | cons q1 q2 =>
    rename_i a0 b0 vs0 us0
    cases q2 with
    | nil =>
      have : some a0 = some v := h2
      cases this
      refine ⟨b0, ?_, q1⟩
      rw [hr]
      simp
    | cons q3 q4 => exact tup (l := a0 :: _ :: _) h2 (.cons q1 (.cons q3 q4)) (by simp)
/-- arguments are laid into the frame -/
theorem frame_ok {tmps : Array Value} : ∀ {vs : List AV} {us : List Value} {ps : List (D16 × D16)} {k : Nat} {fr fr' : Fr}, All2 (VV ρ φ) vs us → (∀ (i : Nat) p, ps[i]? = some p → tn p.1 p.2 = k + i) → (∀ (i : Nat) u, us[i]? = some u → tmps[k + i]? = some u) → FR ρ φ fr tmps → frameOf vs ps fr = some fr' → FR ρ φ fr' tmps
  | [], us, ps, k, fr, fr', h1, h2, h3, h4, e => by cases e; exact h4
  | v :: vs, us, [], k, fr, fr', h1, h2, h3, h4, e => by cases e
  | v :: vs, us, p :: ps, k, fr, fr', h1, h2, h3, h4, e => by
    cases h1 with
    | cons q1 q2 =>
      rename_i u us
      have e' : frameOf vs ps (putF p.1 p.2 v fr) = some fr' := e
      have hp := h2 0 p rfl
      have hu := h3 0 u rfl
      refine frame_ok (k := k + 1) q2 (fun i q hq => by have := h2 (i + 1) q (by simpa using hq); omega) (fun i x hx => by have := h3 (i + 1) x (by simpa using hx); rwa [show k + 1 + i = k + (i + 1) by omega]) ?_ e'
      intro i j x hx
      by_cases hij : i = p.1 ∧ j = p.2
      · obtain ⟨rfl, rfl⟩ := hij
        rw [getF_putF] at hx
        cases hx
        rw [hp]
        have hlt := (Array.getElem?_eq_some_iff.1 hu).1
        refine ⟨hlt, ?_⟩
        have : tmps.getD (k + 0) undef = u := by simp only [Array.getD_eq_getD_getElem?, hu]; rfl
        rw [this]
        exact q1
      · rw [getF_putF_ne hij] at hx
        exact h4 i j x hx
end
/-- regions that draw their order are evaluated soundly -/
def DrawOk (P : Program) (E : Env) : Prop :=
  ∀ (N : Nat) (ops : Array Oper) (l : List (AOp × AK)), cRegion P N ops true = some (.dreg l) → ∀ (call : CallF), CallOk P E call → ∀ (ρ : Vn) (φ : Emb) (fr : Fr) (a : Act) (h : Hp) (w : World) (fr' : Fr) (h' : Hp), EnvOk E ρ → FR ρ φ fr a.tmps → Rel ρ φ h w → N ≤ a.tmps.size → draws P E call l fr h = .ok fr' h' →
    ∀ (Q : Exit → Act → World → Prop), (∀ a' w', Fin ρ φ h w a fr' h' a' w' → Q .normal a' w') → ∀ t, wpOps P ops Q (Region.schedule (P.follows .mixedOrders) ops t) a { w with drawn := w.drawn + 1 }
/-- the table is the program's -/
def TabOk (P : Program) (E : Env) (T : Tab) : Prop :=
  ∀ id fn, get3 T id = some fn → (∀ args w, (callFunc id.num args).run P w = .ok (.enter id.num args) w) ∧
    match fn with
    | .code b res => ∃ f c, P.funcs[id.num]? = some f ∧ f.body = some c ∧ cCode P f.ntmps c = some b ∧ cRes P f.results.toList = some res
    | .nat g => ∀ vs v, g vs = some v → ∀ ρ φ h w us, EnvOk E ρ → Rel ρ φ h w → All2 (VV ρ φ) vs us → Calls P id.num us.toArray w fun e w' => ∃ u φ', e = .returned u ∧ VV ρ φ' v u ∧ Stp ρ φ h w φ' h w'
/-- how code is left -/
def CPost (ρ : Vn) (φ : Emb) (h : Hp) (w : World) (a : Act) (r : RC) (e : Exit) (a' : Act) (w' : World) : Prop :=
  match r with
  | .no => False
  | .nrm fr' h' => e = .normal ∧ Fin ρ φ h w a fr' h' a' w'
  | .ex id fr' h' => e = .exit id ∧ Fin ρ φ h w a fr' h' a' w'
  | .ret fr' h' => e = .ret ∧ Fin ρ φ h w a fr' h' a' w'
def CodeOk (P : Program) (E : Env) (T : Tab) (n : Nat) : Prop :=
  ∀ (N : Nat) (c : Code) (ac : ACd), cCode P N c = some ac → ∀ (fr : Fr) (h : Hp) (r : RC), aev P E T n ac fr h = r → r ≠ .no → ∀ (ρ : Vn) (φ : Emb) (a : Act) (w : World), EnvOk E ρ → FR ρ φ fr a.tmps → Rel ρ φ h w → N ≤ a.tmps.size → c.wp P (CPost ρ φ h w a r) a w
theorem places_tn : ∀ (i : Nat) p, places[i]? = some p → tn p.1 p.2 = i := by
  intro i p hp
  have hlt : i < 24 := (List.getElem?_eq_some_iff.1 hp).1
  match i, hlt, hp with
  | 0, _, h => cases h; rfl
  | 1, _, h => cases h; rfl
  | 2, _, h => cases h; rfl
  | 3, _, h => cases h; rfl
  | 4, _, h => cases h; rfl
  | 5, _, h => cases h; rfl
  | 6, _, h => cases h; rfl
  | 7, _, h => cases h; rfl
  | 8, _, h => cases h; rfl
  | 9, _, h => cases h; rfl
  | 10, _, h => cases h; rfl
  | 11, _, h => cases h; rfl
  | 12, _, h => cases h; rfl
  | 13, _, h => cases h; rfl
  | 14, _, h => cases h; rfl
  | 15, _, h => cases h; rfl
  | 16, _, h => cases h; rfl
  | 17, _, h => cases h; rfl
  | 18, _, h => cases h; rfl
  | 19, _, h => cases h; rfl
  | 20, _, h => cases h; rfl
  | 21, _, h => cases h; rfl
  | 22, _, h => cases h; rfl
  | 23, _, h => cases h; rfl
section
variable {P : Program} {E : Env} {T : Tab}
theorem call_of_code (hT : TabOk P E T) {n : Nat} (hcode : CodeOk P E T n) : CallOk P E (callBy T (aev P E T n)) := by
  intro f vs h v h' e
  obtain ⟨fn, h1, e1⟩ := ro_ok e
  obtain ⟨hent, hfn⟩ := hT f fn h1
  refine ⟨hent, ?_⟩
  cases fn with
  | nat g =>
    obtain ⟨x, h2, e2⟩ := ro_ok (show ro (g vs) _ = RO.ok v h' from e1)
    cases e2
    intro ρ φ w us he hr hu
    exact hfn vs v h2 ρ φ h w us he hr hu
  | code b res =>
    obtain ⟨fr, h2, e2⟩ := ro_ok (show ro (frameOf vs places Fr.nil) _ = RO.ok v h' from e1)
    obtain ⟨fd, c, hf, hb, hcc, hcr⟩ := hfn
    intro ρ φ w us he hr hu
    refine calls_of_wp hf hb ?_
    have hframe : FR ρ φ fr (us.toArray ++ Array.replicate (fd.ntmps - us.toArray.size) undef) := by
      refine frame_ok (k := 0) hu (fun i p hp => by rw [Nat.zero_add]; exact places_tn i p hp) (fun i u hiu => ?_) (fun i j x hx => by rw [getF_nil] at hx; cases hx) h2
      have hlt := (List.getElem?_eq_some_iff.1 hiu).1
      rw [Nat.zero_add, Array.getElem?_append_left (by simpa using hlt)]
      simpa using hiu
    have hsz : fd.ntmps ≤ (us.toArray ++ Array.replicate (fd.ntmps - us.toArray.size) undef).size := by simp; omega
    cases hrun : aev P E T n b fr h with
    | no => have e3 : RC.casesOn (motive := fun _ => RO) (aev P E T n b fr h) RO.no (retOf res) (fun _ _ _ => RO.no) (retOf res) = .ok v h' := e2
            rw [hrun] at e3; cases e3
    | ex id fr2 h2' => have e3 : RC.casesOn (motive := fun _ => RO) (aev P E T n b fr h) RO.no (retOf res) (fun _ _ _ => RO.no) (retOf res) = .ok v h' := e2
                       rw [hrun] at e3; cases e3
    | nrm fr2 h2' =>
      have e3 : RC.casesOn (motive := fun _ => RO) (aev P E T n b fr h) RO.no (retOf res) (fun _ _ _ => RO.no) (retOf res) = .ok v h' := e2
      rw [hrun] at e3
      refine wp_mono (hcode fd.ntmps c b hcc fr h _ hrun (by simp) ρ φ { tmps := us.toArray ++ Array.replicate (fd.ntmps - us.toArray.size) undef, defers := [] } w he hframe hr hsz) ?_
      rintro e a' w' ⟨rfl, φ', q1, q2, q3, q4⟩
      obtain ⟨rfl, u, q5, q6⟩ := results_ok q1 q2.rel hcr e3
      exact ⟨q3, u, q5, u, φ', rfl, q6, q2⟩
    | ret fr2 h2' =>
      have e3 : RC.casesOn (motive := fun _ => RO) (aev P E T n b fr h) RO.no (retOf res) (fun _ _ _ => RO.no) (retOf res) = .ok v h' := e2
      rw [hrun] at e3
      refine wp_mono (hcode fd.ntmps c b hcc fr h _ hrun (by simp) ρ φ { tmps := us.toArray ++ Array.replicate (fd.ntmps - us.toArray.size) undef, defers := [] } w he hframe hr hsz) ?_
      rintro e a' w' ⟨rfl, φ', q1, q2, q3, q4⟩
      obtain ⟨rfl, u, q5, q6⟩ := results_ok q1 q2.rel hcr e3
      exact ⟨q3, u, q5, u, φ', rfl, q6, q2⟩
end
end Go.Proofs.YtmbbciidknchiaaGreat
