/-
  A function of plain arguments as a table of arguments at which it answers true, each run once. No function of the program is named here.
-/
import Derived.Test.YtpnlcoolbimmjaaGreatSymA
set_option linter.unusedVariables false
namespace Go.Proofs.YtpnlcoolbimmjaaGreat
open Go.RowKit
/-- no place in memory -/
def plainC : AC → Bool
  | .b _ => true
  | .i _ _ => true
  | .s _ => true
  | .si _ _ => true
  | .ss _ => true
  | .sb _ => true
  | _ => false
def eqC : AC → AC → Bool
  | .i k n, .i k' n' => decide (n = n') && decide (k = k')
  | .b x, .b y => decide (x = y)
  | .s l, .s m => decide (l = m)
  | .si k t, .si k' t' => decide (t = t') && decide (k = k')
  | _, _ => false
theorem eqC_ok {x y : AC} (h : eqC x y = true) : x = y := by
  unfold eqC at h
  split at h
  · obtain ⟨h1, h2⟩ := Bool.and_eq_true_iff.1 h
    rw [of_decide_eq_true h1, of_decide_eq_true h2]
  · rw [of_decide_eq_true h]
  · rw [of_decide_eq_true h]
  · obtain ⟨h1, h2⟩ := Bool.and_eq_true_iff.1 h
    rw [of_decide_eq_true h1, of_decide_eq_true h2]
  · cases h
def eqL : List AC → List AC → Bool
  | [], [] => true
  | x :: l, y :: m => eqC x y && eqL l m
  | _, _ => false
theorem eqL_ok : ∀ {l m : List AC}, eqL l m = true → l = m
  | [], [], _ => rfl
  | x :: l, y :: m, h => by
    obtain ⟨h1, h2⟩ := Bool.and_eq_true_iff.1 (show (eqC x y && eqL l m) = true from h)
    rw [eqC_ok h1, eqL_ok h2]
  | [], _ :: _, h => by cases h
  | _ :: _, [], h => by cases h
def inTab : List (List AC) → List AC → Bool
  | [], _ => false
  | x :: L, l => bif eqL l x then true else inTab L l
theorem inTab_ok : ∀ {L : List (List AC)} {l : List AC}, inTab L l = true → l ∈ L
  | [], _, h => by cases h
  | x :: L, l, h => by
    cases hc : eqL l x with
    | true => rw [eqL_ok hc]; exact List.mem_cons_self
    | false =>
      have h' : (bif eqL l x then true else inTab L l) = true := h
      rw [hc] at h'
      exact List.mem_cons_of_mem _ (inTab_ok h')
def natTab (L : List (List AC)) : List AV → Option AV
  | [.a l] => bif inTab L l then some (.c (.b true)) else none
  | _ => none
section
variable {ρ : Vn} {φ φ' : Emb}
theorem VC.plain {x : AC} {v : Value} (h : plainC x = true) (hv : VC ρ φ x v) : VC ρ φ' x v := by
  cases x <;> first | exact hv | cases h
theorem plains : ∀ {l : List AC} {vs : List Value}, l.all plainC = true → All2 (VC ρ φ) l vs → All2 (VC ρ φ') l vs
  | [], _, _, h => by cases h; exact .nil
  | x :: l, _, hp, h => by
    cases h with
    | cons h1 h2 =>
      obtain ⟨p1, p2⟩ := Bool.and_eq_true_iff.1 (show (plainC x && l.all plainC) = true from hp)
      exact .cons (h1.plain p1) (plains p2 h2)
end
theorem natTab_ok {P : Program} {F G : List Fact} (hFG : ∀ f ∈ F, f ∈ G) {call : CallF} (hC : CallOk P (envA F) call) {f : Bid} (ent : ∀ args w, (callFunc f.num args).run P w = .ok (.enter f.num args) w) {L : List (List AC)}
    (hruns : (L.all fun l => l.all plainC && isTrue (call f [.a l] hp0)) = true) : EntOk P (envA G) f (.nat (natTab L)) := by
  refine ⟨ent, ?_⟩
  intro vs v hv ρ φ h w us he hr hu
  unfold natTab at hv
  split at hv
  · rename_i l
    cases hin : inTab L l with
    | false => rw [hin] at hv; cases hv
    | true =>
      rw [hin] at hv
      cases hv
      obtain ⟨h1, h2⟩ := Bool.and_eq_true_iff.1 (List.all_eq_true.1 hruns l (inTab_ok hin))
      cases hu with
      | cons a1 t1 =>
        cases t1
        obtain ⟨xs, rfl, hx⟩ := a1
        have hp : StdA ρ ∧ ∀ f ∈ G, f.holds ρ := he.prop
        refine (law_run hC (envA_ok hp.1 fun f hf => hp.2 f (hFG f hf)) h2 (us := [.agg xs.toArray]) (.cons ⟨xs, rfl, plains h1 hx⟩ .nil) w (fun b x hb => (hr.frz b x hb).1)).mono ?_
        rintro e w' ⟨rfl, b⟩
        exact ⟨_, φ, rfl, rfl, hr.keepS b⟩
  · cases hv
end Go.Proofs.YtpnlcoolbimmjaaGreat
