/-
  ChangeRows: a slice of one change.
-/
import Derived.Test.YtlbhoepfcedkdaaLaw03
import Derived.Test.YtlbhoepfcedkdaaHg
import Derived.Test.YtlbhoepfcedkdaaEql
import Derived.Test.YtlbhoepfcedkdaaRowF
import Derived.BigRegion
namespace Go.Proofs.Ytlbhoepfcedkdaa
open Go.RowKit

theorem build_chg (x : Chg) (w : World) : (Instr.buildSlice 50 1 #[(0, .agg #[.int .i64 x.page, .int .i64 x.slot, .bool x.bb, .string x.bd, .bool x.ab, .string x.ad])]).run Try.prog w = .ok (.slice (some ⟨w.heap.size, 0, none⟩) 1 1) (w.alloc (.cells x.lst.toArray 29)) := by
  cases hie : Try.prog.info? 29 with
  | none => have h := zr29; rw [hie] at h; cases h
  | some ie =>
    have hs : ie.size = 6 := by
      have h : (Try.prog.info? 29).map (·.size) = some 6 := by kernel_rfl
      rw [hie] at h; simpa using h
    have hz : ie.zero = some (.agg [.int .i64 0, .int .i64 0, .bool false, .string ⟨#[]⟩, .bool false, .string ⟨#[]⟩].toArray) := by
      have h := zr29
      rw [hie] at h; exact h
    refine run_buildSlice w 50 29 1 _ x.lst.toArray ie _ Try.underlying50 hie hz (by rw [hs]; decide) (by rw [hs]; decide) ?_
    rw [hs]
    have hr : Array.range (1 * 6) = #[0, 1, 2, 3, 4, 5] := by decide
    rw [hr]
    simp [Instr.fill, Chg.lst, Value.cells]
theorem info_chg : ∃ ie, Try.prog.info? 29 = some ie ∧ ie.zero = some (.agg [.int .i64 0, .int .i64 0, .bool false, .string ⟨#[]⟩, .bool false, .string ⟨#[]⟩].toArray) ∧ ie.size = 6 ∧ ie.bytes ≤ 1000000 := by
  cases hie : Try.prog.info? 29 with
  | none => have h := zr29; rw [hie] at h; cases h
  | some ie =>
    refine ⟨ie, rfl, ?_, ?_, ?_⟩
    · have h := zr29
      rw [hie] at h; exact h
    · have h : (Try.prog.info? 29).map (·.size) = some 6 := by kernel_rfl
      rw [hie] at h; simpa using h
    · have h : (Try.prog.info? 29).map (fun i => Nat.ble i.bytes 1000000) = some true := by kernel_rfl
      rw [hie] at h
      exact Nat.le_of_ble_eq_true (by simpa using h)
end Go.Proofs.Ytlbhoepfcedkdaa
