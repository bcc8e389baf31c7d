/-
  A function of plain arguments as a table of known arguments at which it answers true, each run once; for any environment. No function of the program is named here.
-/
import Derived.Test.YthleifmbnpcceaaGreatTabN
set_option linter.unusedVariables false
namespace Go.Proofs.YthleifmbnpcceaaGreat
open Go.RowKit
/-- known, no place in memory -/
def knownC : AC → Bool
  | .b _ => true
  | .i _ _ => true
  | .s _ => true
  | _ => false
theorem VC.known {ρ ρ' : Vn} {φ φ' : Emb} {x : AC} {v : Value} (h : knownC x = true) (hv : VC ρ φ x v) : VC ρ' φ' x v := by
  cases x <;> first | exact hv | cases h
theorem knowns {ρ ρ' : Vn} {φ φ' : Emb} : ∀ {l : List AC} {vs : List Value}, l.all knownC = true → All2 (VC ρ φ) l vs → All2 (VC ρ' φ') l vs
  | [], _, _, h => by cases h; exact .nil
  | x :: l, _, hp, h => by
    cases h with
    | cons h1 h2 =>
      obtain ⟨p1, p2⟩ := Bool.and_eq_true_iff.1 (show (knownC x && l.all knownC) = true from hp)
      exact .cons (h1.known p1) (knowns p2 h2)
theorem natTabC_ok {P : Program} {E E0 : Env} {ρ0 : Vn} {call : CallF} (hC : CallOk P E0 call) (he0 : EnvOk E0 ρ0) {f : Bid} (ent : ∀ args w, (callFunc f.num args).run P w = .ok (.enter f.num args) w) {L : List (List AC)}
    (hruns : (L.all fun l => l.all knownC && isTrue (call f [.a l] hp0)) = true) (hz0 : ∀ b, ρ0.z b = none := by intro b; rfl) : EntOk P E f (.nat (natTab L)) := by
  refine ⟨ent, ?_⟩
  intro vs v hv ρ φ h w us he hr hu
  unfold natTab at hv
  split at hv
  · rename_i l
    cases hin : inTab L l with
    | false => rw [hin] at hv; cases hv
    | true =>
      rw [hin] at hv
      cases hv
      obtain ⟨h1, h2⟩ := Bool.and_eq_true_iff.1 (List.all_eq_true.1 hruns l (inTab_ok hin))
      cases hu with
      | cons a1 t1 =>
        cases t1
        obtain ⟨xs, rfl, hx⟩ := a1
        refine (law_run hC he0 h2 (us := [.agg xs.toArray]) (.cons ⟨xs, rfl, knowns h1 hx⟩ .nil) w (fun b x hb => by rw [hz0] at hb; cases hb)).mono ?_
        rintro e w' ⟨rfl, b⟩
        exact ⟨_, φ, rfl, rfl, hr.keepS b⟩
  · cases hv
end Go.Proofs.YthleifmbnpcceaaGreat
