/-
  A verified evaluator: calls from an empty memory: a law's run, and a function without arguments that answers true. No function of the program is named here.
-/
import Derived.Test.YtmbbciidknchiaaGreatEoD
import Derived.Below
namespace Go.Proofs.YtmbbciidknchiaaGreat
open Go.RowKit
def hp0 : Hp := ⟨⟨.x0, .x0, .x0⟩, bl0⟩
theorem hp0_get (id : Bid) : hp0.get id = none := by
  show get3 bl0 id = none
  exact get3_rep id none
theorem rel0 (ρ : Vn) (w : World) : Rel ρ (fun _ => none) hp0 w :=
  ⟨fun id c h => (by rw [hp0_get] at h; cases h), fun id l h => (by rw [hp0_get] at h; cases h), fun id id' x x' h => (by rw [hp0_get] at h; cases h), fun id h => (by rw [hp0_get] at h; cases h), fun _ _ => rfl⟩
section
variable {P : Program} {E : Env} {call : CallF} {ρ : Vn}
/-- a run from an empty memory leaves old memory as it is -/
theorem Stp.old {φ' : Emb} {h' : Hp} {w w' : World} (T : Stp ρ (fun _ => none) hp0 w φ' h' w') : Below w.heap.size w w' :=
  ⟨T.os, T.tape, T.output, T.size, fun b hb => T.frame b hb fun id x hi => by rw [hp0_get] at hi; cases hi⟩
theorem law_run (hC : CallOk P E call) (he : EnvOk E ρ) {f : Bid} {args : List AV} {us : List Value} (hrun : isTrue (call f args hp0) = true) (hargs : All2 (VV ρ (fun _ => none)) args us) (w : World) : Calls P f.num us.toArray w fun e w' => e = .returned (.bool true) ∧ Below w.heap.size w w' := by
  obtain ⟨h', h1⟩ := isTrue_ok hrun
  refine ((hC f args hp0 _ h' h1).2 ρ _ w us he (rel0 ρ w) hargs).mono ?_
  rintro e w' ⟨u, φ', rfl, hv, T⟩
  exact ⟨by rw [show u = .bool true from hv], T.old⟩
/-- a function without arguments that makes plain values -/
def isPlain (v : AV) (r : RO) : Bool := match r with | .ok x _ => AV.beq x v | .no => false
theorem isPlain_ok {v : AV} {r : RO} (h : isPlain v r = true) : ∃ h', r = .ok v h' := by
  cases r with
  | no => cases h
  | ok x h' =>
    have hb : AV.beq x v = true := h
    refine ⟨h', ?_⟩
    congr 1
    cases x <;> cases v <;> first | (exact absurd hb Bool.false_ne_true) | (have h2 : decide _ = true := hb; rw [of_decide_eq_true h2])
theorem val_run (hC : CallOk P E call) (he : EnvOk E ρ) {f : Bid} {v : AV} {u : Value} (hrun : isPlain v (call f [] hp0) = true) (hv : v.val = some u) (w : World) : Calls P f.num #[] w fun e w' => e = .returned u ∧ Below w.heap.size w w' := by
  obtain ⟨h', h1⟩ := isPlain_ok hrun
  refine ((hC f [] hp0 _ h' h1).2 ρ _ w [] he (rel0 ρ w) .nil).mono ?_
  rintro e w' ⟨x, φ', rfl, hx, T⟩
  exact ⟨by rw [AV.val_eq hv hx], T.old⟩
/-- memory that a call has left as it was -/
theorem Rel.keep {φ : Emb} {h : Hp} {w w' : World} (r : Rel ρ φ h w) (b : Below w.heap.size w w') : Rel ρ φ h w' :=
  ⟨fun id c hc => (by
    obtain ⟨bl, base, arr, T, h1, h2, h3⟩ := r.cells id c hc
    exact ⟨bl, base, arr, T, h1, by rw [b.block _ (r.block (by rw [hc]; rfl) h1)]; exact h2, h3⟩),
   fun id l hc => (by
    obtain ⟨bl, es, cl, h1, h2, h3⟩ := r.maps id l hc
    exact ⟨bl, es, cl, h1, by rw [b.block _ (r.block (by rw [hc]; rfl) h1)]; exact h2, h3⟩),
   r.inj, r.low, r.free⟩
theorem Rel.keepS {φ : Emb} {h : Hp} {w w' : World} (r : Rel ρ φ h w) (b : Below w.heap.size w w') : Stp ρ φ h w φ h w' :=
  ⟨fun _ _ h => h, r.keep b, b.size, fun g hg _ => b.block g hg, fun id x hl hx _ => ⟨id, x, hl, hx, rfl⟩, Nat.le_refl _, fun _ h => .inl h, b.os, b.tape, b.output⟩
/-- a function without arguments that answers true -/
def natTrue : List AV → Option AV
  | [] => some (.c (.b true))
  | _ => none
theorem natTrue_ok {E0 : Env} {ρ0 : Vn} (hC : CallOk P E0 call) (he0 : EnvOk E0 ρ0) {f : Bid} (hrun : isTrue (call f [] hp0) = true) : EntOk P E f (.nat natTrue) := by
  obtain ⟨h', h1⟩ := isTrue_ok hrun
  refine ⟨(hC f [] hp0 _ h' h1).1, ?_⟩
  intro vs v hv ρ φ h w us he hr hu
  unfold natTrue at hv
  split at hv
  · cases hv
    cases hu
    refine (law_run hC he0 hrun .nil w).mono ?_
    rintro e w' ⟨rfl, b⟩
    exact ⟨_, φ, rfl, rfl, hr.keepS b⟩
  · cases hv
theorem byte_range {a : Int} (h : (Lit.int .u8 a).wf = true) : 0 ≤ a ∧ a < 256 := by
  simp [Lit.wf, IntKind.min, IntKind.max, IntKind.signed, IntKind.bits] at h
  omega
def rho0 : Vn := ⟨fun _ => 0, fun _ => ⟨#[]⟩⟩
def env0 : Env := byteEnv []
theorem env0_ok : EnvOk env0 rho0 := byteEnv_ok (fun _ => ⟨Int.le_refl 0, (by decide : (0 : Int) < 256)⟩) (fun x h => nomatch h)
end
end Go.Proofs.YtmbbciidknchiaaGreat
