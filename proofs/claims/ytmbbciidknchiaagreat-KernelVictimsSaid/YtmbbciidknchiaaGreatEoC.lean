/-
  A verified evaluator: tables of compiled functions. No function of the program is named here.
-/
import Derived.Test.YtmbbciidknchiaaGreatEoB
namespace Go.Proofs.YtmbbciidknchiaaGreat
def tabOf : List (Bid × AFn) → Tab
  | [] => N16.rep (N16.rep (N16.rep none))
  | (i, f) :: l => put3 (tabOf l) i (some f)
section
variable {P : Program} {E : Env}
def EntOk (P : Program) (E : Env) (id : Bid) (fn : AFn) : Prop := (∀ args w, (callFunc id.num args).run P w = .ok (.enter id.num args) w) ∧
    match fn with
    | .code b res => ∃ f c, P.funcs[id.num]? = some f ∧ f.body = some c ∧ cCode P f.ntmps c = some b ∧ cRes P f.results.toList = some res
    | .nat g => ∀ vs v, g vs = some v → ∀ ρ φ h w us, EnvOk E ρ → Rel ρ φ h w → All2 (VV ρ φ) vs us → Calls P id.num us.toArray w fun e w' => ∃ u φ', e = .returned u ∧ VV ρ φ' v u ∧ Stp ρ φ h w φ' h w'
theorem tab_nil : TabOk P E (tabOf []) := by
  intro id fn h
  rw [show tabOf [] = N16.rep (N16.rep (N16.rep none)) from rfl, get3_rep] at h
  cases h
theorem tab_cons {l : List (Bid × AFn)} {i : Bid} {f : AFn} (hl : TabOk P E (tabOf l)) (hf : EntOk P E i f) : TabOk P E (tabOf ((i, f) :: l)) := by
  intro id fn h
  have h' : get3 (put3 (tabOf l) i (some f)) id = some fn := h
  by_cases he : id = i
  · subst he
    rw [get3_put3] at h'
    cases h'
    exact hf
  · rw [get3_put3_ne he] at h'
    exact hl id fn h'
theorem enter_run {f : FuncId} {fn : Func} {c : Code} (hf : P.funcs[f]? = some fn) (hname : (fn.name == "runtime.NumGoroutine") = false) (hb : fn.body = some c) (args : Array Value) (w : World) : (callFunc f args).run P w = .ok (.enter f args) w := by
  have h1 : fn.name ≠ "runtime.NumGoroutine" := by simpa using hname
  simp [callFunc, hf, h1, hb]
/-- a function that the compiler turned into this -/
theorem ent_code {n : FuncId} {id : Bid} {f : Func} {b : ACd} {r : List AR} (hf : P.funcs[n]? = some f) (hid : Nat.beq id.num n = true) (hc : cFn P f = some (.code b r)) (hn : (f.name == "runtime.NumGoroutine") = false) : EntOk P E id (.code b r) := by
  have hid := Nat.eq_of_beq_eq_true hid
  subst hid
  unfold cFn at hc
  cases hb : f.body with
  | none => rw [hb] at hc; cases hc
  | some c =>
    rw [hb] at hc
    dsimp only at hc
    split at hc
    · rename_i b' r' h1 h2
      cases hc
      exact ⟨fun args w => enter_run hf hn hb args w, f, c, hf, hb, h1, h2⟩
    · cases hc
theorem ent_nat {n : FuncId} {id : Bid} {f : Func} {c : Code} {g : List AV → Option AV} (hf : P.funcs[n]? = some f) (hid : Nat.beq id.num n = true) (hb : f.body = some c) (hn : (f.name == "runtime.NumGoroutine") = false)
    (hg : ∀ vs v, g vs = some v → ∀ ρ φ h w us, EnvOk E ρ → Rel ρ φ h w → All2 (VV ρ φ) vs us → Calls P n us.toArray w fun e w' => ∃ u φ', e = .returned u ∧ VV ρ φ' v u ∧ Stp ρ φ h w φ' h w') : EntOk P E id (.nat g) := by
  have hid := Nat.eq_of_beq_eq_true hid
  subst hid
  exact ⟨fun args w => enter_run hf hn hb args w, hg⟩
end
end Go.Proofs.YtmbbciidknchiaaGreat
