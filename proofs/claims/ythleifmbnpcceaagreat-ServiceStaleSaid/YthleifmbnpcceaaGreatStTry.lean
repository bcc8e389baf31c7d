/-
  Functions that panic and recover, of this seat: service.must, service.try; the table of the law.
-/
import Derived.Test.YthleifmbnpcceaaGreatStTab
import Derived.Test.YthleifmbnpcceaaGreatEpB
import Derived.Test.YthleifmbnpcceaaGreatSymI
import Derived.KernelRfl
import Derived.WalkKit
namespace Go.Proofs.YthleifmbnpcceaaGreat
set_option maxRecDepth 100000
open Go.RowKit
/-- the functions that may panic -/
def uOf : List (Bid × PFn) → Bid → Option PFn
  | [], _ => none
  | (i, f) :: l, j => Bool.casesOn (motive := fun _ => Option PFn) (decide (i = j)) (uOf l j) (some f)
def UEnt (P : Program) (E : Env) (id : Bid) (fn : PFn) : Prop := (∀ args w, (callFunc id.num args).run P w = .ok (.enter id.num args) w) ∧
    match fn with
    | .code b res => ∃ f c, P.funcs[id.num]? = some f ∧ f.body = some c ∧ cCode P f.ntmps c = some b ∧ cRes P f.results.toList = some res
    | .nat g => ∀ vs h r, g vs h = r → r ≠ .no → ∀ ρ φ w us, EnvOk E ρ → Rel ρ φ h w → All2 (VV ρ φ) vs us → Calls P id.num us.toArray w (PEnd ρ φ h w r)
section
variable {P : Program} {E : Env}
theorem u_nil : UOk P E (uOf []) := fun _ _ h => nomatch h
theorem u_cons {l : List (Bid × PFn)} {i : Bid} {f : PFn} (hf : UEnt P E i f) (hl : UOk P E (uOf l)) : UOk P E (uOf ((i, f) :: l)) := by
  intro id fn h
  have h' : (Bool.casesOn (motive := fun _ => Option PFn) (decide (i = id)) (uOf l id) (some f)) = some fn := h
  cases hd : decide (i = id) with
  | false => rw [hd] at h'; exact hl id fn h'
  | true =>
    rw [hd] at h'
    cases h'
    have := of_decide_eq_true hd
    subst this
    exact hf
def pOf (f : AFn) : PFn := AFn.casesOn (motive := fun _ => PFn) f PFn.code (fun _ => .nat fun _ _ => .no) (fun _ => .nat fun _ _ => .no)
theorem u_code {id : Bid} {f : AFn} (h : EntOk P E id f) : UEnt P E id (pOf f) := by
  cases f with
  | code b r => exact h
  | nat g => exact ⟨h.1, fun vs h r hr hne => absurd hr.symm hne⟩
  | natm g => exact ⟨h.1, fun vs h r hr hne => absurd hr.symm hne⟩
theorem mf_fn {call : CallF} {i j : D16} {g : Bid} {xs ys : List AX} {fr0 fr1 : Fr} {h0 h1 : Hp} (e : aregion P E call [⟨some (i, j), .mf g xs ys, none⟩] fr0 h0 = .ok fr1 h1) : ∃ first caps, getF i j fr1 = some (.c (.fn g first caps)) := by
  have e' : (rf (opMf g xs ys fr0 h0) fun v h => RF.ok (putF i j v fr0) h) = .ok fr1 h1 := e
  cases ho : opMf g xs ys fr0 h0 with
  | no => rw [ho] at e'; cases e'
  | ok v h2 =>
    rw [ho] at e'
    cases e'
    obtain ⟨us, _, e2⟩ := ro_ok ho
    obtain ⟨vs, _, e3⟩ := ro_ok e2
    obtain ⟨l, _, e4⟩ := ro_ok e3
    obtain ⟨m, _, e5⟩ := ro_ok e4
    cases e5
    exact ⟨l, m, getF_putF _ _ _ _⟩
end
/-- service.must -/
def natMust : List AV → Hp → PO
  | [.c (.i .i64 (.ofNat 0))], h => .ok (.t []) h
  | [.c (.i .i64 n)], h => .pn (.gv (ifN 266 (some n))) h
  | _, _ => .no
set_option maxHeartbeats 1000000 in
theorem must_run (n : Int) (w : World) : Calls Tryz.prog 125 #[.int .i64 n] w fun e w' => w' = w ∧ e = (if n = 0 then .returned (.tuple #[]) else .panicked [{ v := .iface 266 (.agg #[.int .i64 n]), recovered := false }]) := by
  by_cases hn : n = 0
  · subst hn
    go_enter Tryz.func125, Tryz.ntmps125
    go_wp2
    exact ⟨rfl, .tuple #[], by simp [results, Tryz.f125], rfl, rfl⟩
  · have hb : (n == 0) = false := by simpa using hn
    go_enter Tryz.func125, Tryz.ntmps125
    go_wp2
    have hr : (Sem.run Tryz.prog (Instr.panic (Value.iface 266 (Value.agg #[Value.int IntKind.i64 n]))) w) = .halt (.panic (.iface 266 (.agg #[.int .i64 n]))) w := rfl
    rw [hr]
    refine ⟨rfl, rfl, ?_⟩
    rw [if_neg hn]
theorem must_ok {E : Env} : UEnt Tryz.prog (ifEnv E) ⟨.x0, .x7, .xd⟩ (.nat natMust) := by
  refine ⟨fun args w => enter_run Tryz.func125 (by kernel_rfl) rfl args w, ?_⟩
  intro vs h r hr hne ρ φ w us he hrel hu
  unfold natMust at hr
  split at hr
  · subst hr
    cases hu with
    | cons h1 h2 =>
      cases h2
      have hx : _ = Value.int .i64 0 := h1
      subst hx
      refine (must_run 0 w).mono ?_
      rintro e w' ⟨rfl, rfl⟩
      exact ⟨.tuple #[], φ, by simp, ⟨[], rfl, .nil⟩, Stp.refl hrel⟩
  · rename_i n hn0
    subst hr
    cases hu with
    | cons h1 h2 =>
      cases h2
      have hx : _ = Value.int .i64 n := h1
      subst hx
      have hn : n ≠ 0 := by
        rintro rfl
        exact hn0 rfl
      refine (must_run n w).mono ?_
      rintro e w' ⟨rfl, rfl⟩
      rw [if_neg hn]
      exact ⟨_, φ, rfl, ⟨(he.prop.2 266 (some n)).symm, rfl⟩, Stp.refl hrel⟩
  · exact absurd hr.symm hne
noncomputable def uList : List (Bid × PFn) := [(⟨.x0, .x7, .xd⟩, .nat natMust), (⟨.x0, .xd, .x1⟩, pOf c209), (⟨.x1, .x1, .xe⟩, pOf c286), (⟨.x0, .x7, .xf⟩, pOf c127), (⟨.x0, .xd, .x0⟩, pOf c208), (⟨.x0, .x7, .xb⟩, pOf c123)]
theorem uList_ok {E : Env} : UOk Tryz.prog (ifEnv E) (uOf uList) :=
  u_cons must_ok (u_cons (u_code e209) (u_cons (u_code e286) (u_cons (u_code e127) (u_cons (u_code e208) (u_cons (u_code e123) u_nil)))))
/-- calls that may panic -/
noncomputable def pcS (E : Env) : PCallF := pcallBy (uOf uList) (callBy tblQ (aev Tryz.prog (ifEnv E) tblQ (nat_lit 8000))) (pev Tryz.prog (ifEnv E) (uOf uList) (callBy tblQ (aev Tryz.prog (ifEnv E) tblQ (nat_lit 8000))) (nat_lit 8000))
theorem pcS_ok {E : Env} : PCallOk Tryz.prog (ifEnv E) (pcS E) := pcall_ok uList_ok (eval_ok tblQ_ok mixed _) mixed _
/-- the pieces of service.try -/
def r1Try : List AOp := match c122 with
  | .code (.seq (.reg l) _) _ => l
  | _ => []
def oMTry : AOp := match c122 with
  | .code (.seq _ (.seq (.reg (o :: _)) _)) _ => o
  | _ => default
def r3Try : List AOp := match c122 with
  | .code (.seq _ (.seq _ (.seq (.reg l) _))) _ => l
  | _ => []
def resTry : List AR := match c122 with
  | .code _ r => r
  | _ => []
def restTry : ACd := match c215 with
  | .code (.seq _ c) _ => c
  | _ => .bad
noncomputable def natTry (E : Env) : List AV → Hp → RO := tryG Tryz.prog (ifEnv E) (pcS E) (aev Tryz.prog (ifEnv E) tblQ (nat_lit 500)) r1Try oMTry .x0 .x4 r3Try restTry .x0 .x5 resTry
theorem try_fn {E : Env} (fr0 : Fr) (h0 : Hp) (fr1 : Fr) (h1 : Hp) (e : aregion Tryz.prog (ifEnv E) noCall [oMTry] fr0 h0 = .ok fr1 h1) : ∃ first caps, getF .x0 .x4 fr1 = some (.c (.fn ⟨.x0, .xd, .x7⟩ first caps)) := mf_fn e
theorem natTry_ok {E : Env} : EntOk Tryz.prog (ifEnv E) ⟨.x0, .x7, .xa⟩ (.natm (natTry E)) := by
  refine ⟨fun args w => enter_run Tryz.func122 (by kernel_rfl) rfl args w, ?_⟩
  intro vs v h h' e ρ φ w us he hr hu
  refine try_ok (f := ⟨.x0, .x7, .xa⟩) (g := ⟨.x0, .xd, .x7⟩) (T := tblQ) (n := nat_lit 500) tblQ_ok mixed pcS_ok Tryz.func122 rfl (l1 := r1Try) (by kernel_rfl) (oM := oMTry) (by kernel_rfl) (by kernel_rfl)
    rfl rfl rfl rfl rfl (l3 := r3Try) (by kernel_rfl) (res := resTry) (by kernel_rfl) Tryz.func215 rfl rfl (fun args w => enter_run Tryz.func215 (by kernel_rfl) rfl args w) rfl rfl rfl rfl (by decide) (arest := restTry) (by kernel_rfl)
    vs v h h' e (fun _ _ _ _ _ => trivial) try_fn ρ φ w us he hr hu
/-- what the names of interface values mean -/
def gIf : Nm → Value
  | .f2 300 (.num (.ofNat t)) (.lit []) => .iface t (.agg #[])
  | .f2 300 (.num (.ofNat t)) (.num n) => .iface t (.agg #[.int .i64 n])
  | _ => .bool false
theorem gIf_std {ρ : Vn} (h : ρ.g = gIf) : IfStd ρ := by
  intro t x
  rw [h]
  cases x <;> rfl
end Go.Proofs.YthleifmbnpcceaaGreat
