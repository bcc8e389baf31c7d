/-
  A verified evaluator: the block numbers of a written-out state are found by its own pointers. No function of the program is named here.
-/
import Derived.Test.YtnofmmceafkkoaaGreatTriC
set_option linter.unusedVariables false
set_option linter.unusedSimpArgs false
namespace Go.Proofs.YtnofmmceafkkoaaGreat
open Go.RowKit
def ptrC : AC → Option Bid
  | .p i _ => some i
  | .sl i _ _ _ => some i
  | .su i _ _ _ _ => some i
  | .se i _ => some i
  | .mp i => some i
  | .sr i _ _ => some i
  | _ => none
def pairC : List AC → List AC → List (Bid × Bid) → List (Bid × Bid)
  | x :: l, y :: k, m => pairC l k (match ptrC x, ptrC y with
    | some a, some b => bif m.any (fun z => decide (z.2 = b)) then m else m ++ [(a, b)]
    | _, _ => m)
  | _, _, m => m
def avC : AV → List AC
  | .c x => [x]
  | .a l => l
  | .t _ => []
def autoF (fr : Fr) : List (D16 × D16 × AV) → List (Bid × Bid) → List (Bid × Bid)
  | [], m => m
  | x :: l, m => autoF fr l (match getF x.1 x.2.1 fr with
    | some v => pairC (avC v) (avC x.2.2) m
    | none => m)
def autoB (h : Hp) : List (Bid × AB) → List (Bid × Bid) → List (Bid × Bid)
  | [], m => m
  | x :: l, m => autoB h l (match x.2, m.find? fun z => decide (z.2 = x.1) with
    | .cells c, some z => (match h.get z.1 with
      | some (.cells c') => pairC c' c m
      | _ => m)
    | _, _ => m)
def autoM (s : Lit) (fr : Fr) (h : Hp) : List (Bid × Bid) := autoB h s.mem (autoF fr s.fr [])
noncomputable def endsX (k : En) (nm : Nms) (s : Lit) (r : RC) : Bool := match r with
  | .no => false
  | .nrm fr h => endsAt k (autoM s fr h) nm s (.nrm fr h)
  | .ret fr h => endsAt k (autoM s fr h) nm s (.ret fr h)
  | .ex i fr h => endsAt k (autoM s fr h) nm s (.ex i fr h)
theorem endsX_ok {k : En} {nm : Nms} {s : Lit} {r : RC} (h : endsX k nm s r = true) : ∃ m, endsAt k m nm s r = true := by
  cases r with
  | no => cases h
  | nrm fr q => exact ⟨_, h⟩
  | ret fr q => exact ⟨_, h⟩
  | ex i fr q => exact ⟨_, h⟩
noncomputable def endsRX (nm : Nms) (s : Lit) (r : RF) : Bool := match r with
  | .no => false
  | .ok fr h => endsR (autoM s fr h) nm s (.ok fr h)
theorem endsRX_ok {nm : Nms} {s : Lit} {r : RF} (h : endsRX nm s r = true) : ∃ m, endsR m nm s r = true := by
  cases r with
  | no => cases h
  | ok fr q => exact ⟨_, h⟩
section
variable {P : Program} {E : Env} {T : Tab} {N n : Nat}
theorem Tri.runX (hcode : CodeOk P E T n) {ρ ρ' : Vn} (he : EnvOk E ρ) {ac : ACd} {s s' : Lit} {k : En} {nm : Nms} (hend : endsX k nm s' (aev P E T n ac s.frame s.hp) = true) (hr : Ren ρ ρ' nm) {w0 : World} :
    Tri P N ac (At w0 N ρ s) fun e a w => e = k.exit ∧ At w0 N ρ' s' a w := by
  obtain ⟨m, hm⟩ := endsX_ok hend
  exact Tri.run hcode he hm hr
theorem Tri.pre_runX (hcode : CodeOk P E T n) {ρ ρ' : Vn} (he : EnvOk E ρ) {k : Nat} {ac r : ACd} {l : List ACd} (hcut : cutA k ac = some (l, r)) {s s' : Lit} {nm : Nms} (hend : endsX .nrm nm s' (runL P E T n l s.frame s.hp) = true) (hr : Ren ρ ρ' nm)
    {w0 : World} {Post : Exit → Act → World → Prop} (hrest : Tri P N r (At w0 N ρ' s') Post) : Tri P N ac (At w0 N ρ s) Post := by
  obtain ⟨m, hm⟩ := endsX_ok hend
  exact Tri.pre_run hcode he hcut hm hr hrest
end
theorem all_cut {α : Type} {p : α → Bool} (c : Nat) : ∀ (n : Nat) {l : List α}, (∀ i, i < n → ((l.drop (i * c)).take c).all p = true) → l.length ≤ n * c → l.all p = true
  | 0, l, _, hl => by
    have : l = [] := List.eq_nil_of_length_eq_zero (by omega)
    rw [this]; rfl
  | n + 1, l, h, hl => by
    have h0 := h 0 (by omega)
    rw [Nat.zero_mul, List.drop_zero] at h0
    have h1 := all_cut c n (l := l.drop c) (fun i hi => by
      have := h (i + 1) (by omega)
      rwa [show (i + 1) * c = c + i * c by rw [Nat.add_mul, Nat.one_mul, Nat.add_comm], ← List.drop_drop] at this) (by
      rw [List.length_drop]
      rw [Nat.add_mul, Nat.one_mul] at hl
      omega)
    rw [← List.take_append_drop c l, List.all_append, h0, h1]; rfl
end Go.Proofs.YtnofmmceafkkoaaGreat
