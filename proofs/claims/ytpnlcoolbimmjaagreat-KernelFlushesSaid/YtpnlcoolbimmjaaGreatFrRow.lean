/-
  A row of bytes that came in, as a frozen slice.
-/
import Derived.Test.YtpnlcoolbimmjaaGreatRowIn
import Derived.Test.YtpnlcoolbimmjaaGreatSymA
set_option linter.unusedVariables false
namespace Go.Proofs.YtpnlcoolbimmjaaGreat
open Go.RowKit
def shP : Sh := .i .u8 .nil
theorem frozen_row {w : World} {x : Option Addr} {len cap : Nat} {zs : List Int} (hz : IsRow .u8 w x len cap zs) : ∃ zf : Nat → Option Obj, (∀ b y, zf b = some y → w.heap[b]? = some y) ∧ SlD zf shP ((zs.take len).map fun n => [DV.i n]) (.slice x len cap) := by
  rcases hz with ⟨rfl, rfl, rfl, rfl⟩ | ⟨a, rfl, hl, hm, hlen, hc, hw⟩
  · exact ⟨fun _ => none, (fun b y h => nomatch h), ⟨none, 0, rfl, .inl rfl⟩⟩
  · by_cases h0 : len = 0
    · subst h0
      exact ⟨fun _ => none, (fun b y h => nomatch h), ⟨_, _, rfl, .inl rfl⟩⟩
    · obtain ⟨b, off, rfl, hi⟩ := ints_at hc (by omega)
      have h1 := hi 0 (by omega)
      have hb : ∃ arr T fz, w.heap[b]? = some (.cells arr T fz) := by
        unfold World.cell? at h1
        split at h1
        · rename_i arr T fz hb; exact ⟨_, _, _, hb⟩
        · cases h1
      obtain ⟨arr, T, fz, hb⟩ := hb
      refine ⟨fun k => if k = b then w.heap[b]? else none, fun k y hk => ?_, ?_⟩
      · have hk : (if k = b then w.heap[b]? else none) = some y := hk
        split at hk
        · rename_i h; rw [h]; exact hk
        · cases hk
      · refine ⟨some ⟨b, off, none⟩, cap, by simp; omega, .inr ⟨b, off, arr, T, fz, rfl, by simp [hb], fun i row hr => ?_⟩⟩
        have hil : i < zs.length ∧ i < len := by
          have := (List.getElem?_eq_some_iff.1 hr).1
          simp at this; omega
        have hrow : row = [DV.i (zs.getD i 0)] := by
          simp [hil.1, hil.2] at hr
          rw [← hr]; simp [hil.1]
        have hcell := hi i hil.1
        rw [cell_of_row w b _ arr T fz hb] at hcell
        have hlt := (Array.getElem?_eq_some_iff.1 hcell).1
        have hvs : (arr.toList.drop (off + i * shP.len)).take shP.len = [Value.int .u8 (zs.getD i 0)] := by
          show (arr.toList.drop (off + i * 1)).take 1 = _
          rw [Nat.mul_one, List.drop_eq_getElem_cons (by simpa using hlt), List.take_succ_cons, List.take_zero]
          congr 1
          have := (Array.getElem?_eq_some_iff.1 hcell).2
          simpa using this
        rw [hrow, hvs]
        exact ⟨_, _, _, rfl, rfl, rfl, rfl⟩
end Go.Proofs.YtpnlcoolbimmjaaGreat
