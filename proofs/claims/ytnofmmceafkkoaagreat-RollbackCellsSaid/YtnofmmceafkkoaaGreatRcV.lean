/-
  Contracts: pagemendref02.ValidCell, pagemendref06.Valid (printed by a program).
-/
import Derived.Test.YtnofmmceafkkoaaGreatSt
import Derived.Test.YtnofmmceafkkoaaGreatRcJ
import Derived.Test.YtnofmmceafkkoaaGreatMB0
set_option linter.unusedVariables false
set_option linter.unusedSimpArgs false
set_option maxRecDepth 100000
namespace Go.Proofs.YtnofmmceafkkoaaGreat
open Go.RowKit
noncomputable def tblV2 : Tab := tabOf [(B0d6, c214)]
theorem tblV2_ok {E : Env} : TabOk Tryz.prog E tblV2 := tab_cons tab_nil e214
theorem runV3 : isTrue (callBy tblV2 (aev Tryz.prog (envR FV) tblV2 M50) B0d6 [.a [.b true, .ss (.v M0)]] hp0) = true := by kernel_rfl
theorem runV4 : isTrue (callBy tblV2 (aev Tryz.prog (envR FV) tblV2 M50) B0d6 [.a [.b false, .s []]] hp0) = true := by kernel_rfl
theorem natVC2_ok (F : List Fc) : NatOk Tryz.prog (envR F) 214 (natVC F) := by
  intro vs v hv ρ φ h w us he hr hu
  have hp := envR_prop he
  unfold natVC at hv
  split at hv
  · rename_i b d
    cases hc : cellB F b d with
    | false => rw [hc] at hv; cases hv
    | true =>
      rw [hc] at hv
      cases hv
      cases hu with
      | cons a1 t1 =>
        cases t1
        obtain ⟨xs, rfl, hx⟩ := a1
        cases hx with
        | cons x1 t2 =>
          cases t2 with
          | cons x2 t3 =>
            cases t3
            obtain ⟨bb, ss, rfl, rfl, hv⟩ := cellB_ok hp.1 hp.2 hc x1 x2
            have hF : ∀ f ∈ FV, f.holds QR (vb (fun _ => { s := ss }) (fun _ => .bool false) φ.z) := facts_cons ⟨Int.natCast_nonneg _, (by show (ss.size : Int) ≤ 12; have := hv.1; omega)⟩ facts_nil
            cases bb with
            | true => exact true_run (eval_ok tblV2_ok mixedR M50) runV3 hr hF (.cons ⟨_, rfl, .cons rfl (.cons rfl .nil)⟩ .nil)
            | false =>
              rw [hv.2 rfl]
              exact true_run (eval_ok tblV2_ok mixedR M50) runV4 hr hF (.cons ⟨_, rfl, .cons rfl (.cons ⟨⟨#[]⟩, rfl, rfl⟩ .nil)⟩ .nil)
  · cases hv
end Go.Proofs.YtnofmmceafkkoaaGreat
