/-
  A slice of bytes that came in.
-/
import Derived.Test.YtnfkplohpjfocaaGreatNwA
import Derived.ProofKit
import Derived.OpenShut
set_option linter.unusedVariables false
set_option linter.unusedSimpArgs false
namespace Go.Proofs.YtnfkplohpjfocaaGreat
open Go.ChangeShapes Go.WideShapes Go.ChangeAt Go.RowKit
/-- A slice of integers that came in: it is nil; or it leads to a row of 'cap' cells, the numbers 'zs', each fitting its kind. -/
def IsRow (k : IntKind) (w : World) (a : Option Addr) (len cap : Nat) (zs : List Int) : Prop :=
  (a = none ∧ len = 0 ∧ cap = 0 ∧ zs = []) ∨
  ∃ x, a = some x ∧ len ≤ cap ∧ cap ≤ maxLen ∧ zs.length = cap ∧ (∀ i, i < zs.length → w.cell? (x.add i) = some (.int k (zs.getD i 0))) ∧ ∀ n ∈ zs, (Lit.int k n).wf = true
theorem bytesIn_of {w : World} {a : Option Addr} {len cap : Nat} {zs : List Int} (h : IsRow .u8 w a len cap zs) : BytesIn w a len ∧ len ≤ cap ∧ cap ≤ maxLen := by
  rcases h with ⟨rfl, rfl, rfl, rfl⟩ | ⟨x, rfl, hl, hm, hz, hc, hw⟩
  · exact ⟨fun h => absurd h (by omega), Nat.le_refl _, Nat.zero_le _⟩
  · refine ⟨fun h0 => ?_, hl, hm⟩
    obtain ⟨b, off, rfl, hc'⟩ := ints_at hc (by omega)
    refine ⟨b, off, rfl, fun i hi => ?_⟩
    have h1 := hc' i (by omega)
    have hmem : zs.getD i 0 ∈ zs := by
      have hlt : i < zs.length := by omega
      simp [hlt]
    have hwf := hw _ hmem
    have hb := bounds_u8 hwf
    exact ⟨(zs.getD i 0).toNat, by omega, by rw [h1]; congr 2; omega⟩
end Go.Proofs.YtnfkplohpjfocaaGreat
