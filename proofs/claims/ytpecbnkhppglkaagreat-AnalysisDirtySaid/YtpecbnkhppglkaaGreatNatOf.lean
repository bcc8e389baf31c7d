/-
  What a contract gives the evaluator. No function of the program is named here.
-/
import Derived.Test.YtpecbnkhppglkaaGreatEvG
set_option linter.unusedVariables false
namespace Go.Proofs.YtpecbnkhppglkaaGreat
open Go.RowKit
theorem nat_of {P : Program} {n : FuncId} {ρ : Vn} {φ : Emb} {h : Hp} {w : World} {us : Array Value} {v : AV} {u : Value} (hr : Rel ρ φ h w) (hv : VV ρ φ v u) (hc : Calls P n us w fun e w' => e = .returned u ∧ Below w.heap.size w w') :
    Calls P n us w fun e w' => ∃ u φ', e = .returned u ∧ VV ρ φ' v u ∧ Stp ρ φ h w φ' h w' := by
  refine hc.mono ?_
  rintro e w' ⟨rfl, b⟩
  exact ⟨u, φ, rfl, hv, hr.keepS b⟩
end Go.Proofs.YtpecbnkhppglkaaGreat
