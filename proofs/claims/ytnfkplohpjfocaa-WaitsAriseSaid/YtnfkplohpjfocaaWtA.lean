/-
  Sorting, compacting and asking of rows of numbers of the call's own; the waits' conflict and closure.
-/
import Derived.Test.YtnfkplohpjfocaaInts
import Derived.Test.YtnfkplohpjfocaaShelf
import Derived.Test.YtnfkplohpjfocaaLkE
set_option linter.unusedVariables false
set_option linter.unusedSimpArgs false
namespace Go.Proofs.Ytnfkplohpjfocaa
open Go.RowKit
def sortI (ns : List Int) : List Int := ns.mergeSort fun x y => decide (x ≤ y)
theorem sortI_len (ns : List Int) : (sortI ns).length = ns.length := List.length_mergeSort _
section
variable {cc : Option Nat} {q : CodeRow} {w0 w : World} {front lr ll : List (Nat × TypeId × List Value)} {v : Value} {ns : List Int}
theorem sort_row (HS : St cc q w0 w (front ++ (lr ++ ll))) (hr : OwnRow 3 1 lr v ns.length (ns.map iV)) (hlen : ns.length < 4611686018427387904) :
    Calls Try.prog 47 #[v] w (fun e w' => e = .returned (.tuple #[]) ∧ ∃ lr', St cc q w0 w' (front ++ (lr' ++ ll)) ∧ OwnRow 3 1 lr' v ns.length ((sortI ns).map iV)) := by
  rcases hr.2 with ⟨hlr, ⟨ao, rfl⟩, hn0⟩ | ⟨g, cap, pre, junk, rfl, rfl, hnc, hcm, hj⟩
  · have hns : ns = [] := List.eq_nil_of_length_eq_zero hn0
    subst hns
    refine (Try.slices_Sort_int_none ao 0 w).mono fun e w' h => ?_
    obtain ⟨rfl, rfl⟩ := h
    exact ⟨rfl, lr, HS, by simpa [sortI] using hr⟩
  · have hB : PBox w g 3 (pre ++ (ns.map iV ++ junk)) := ((Bx_iff.1 HS.own).1 (g, 3, pre ++ (ns.map iV ++ junk)) (by simp)).2
    refine (Try.slices_Sort_int g pre.length cap ns w (holds_of hB) hB.lt hlen).mono fun e w' h => ?_
    obtain ⟨rfl, n, os, rfl⟩ := h
    have hB1 : PBox (Go.Sort.ahead w n) g 3 (pre ++ (ns.map iV ++ junk)) := (ahead_ext n).pbox hB
    have hp := put_box hB1 (sortI_len ns)
    have h1 := (HS.ext (ahead_ext n)).chg hp.2 hp.1
    have h2 := h1.ext (grow_ext os)
    exact ⟨rfl, [(g, 3, pre ++ ((sortI ns).map iV ++ junk))], h2, by rw [List.length_map, sortI_len]; simp, .inr ⟨g, cap, pre, junk, rfl, rfl, hnc, hcm, hj⟩⟩
theorem compact_len_le (ns : List Int) : (Lib.compact ns).length ≤ ns.length := by
  unfold Lib.compact Lib.compactUpTo
  rw [List.length_map]
  have := List.length_filter_le (Lib.keeps ns.toArray) (List.range ns.length)
  rwa [List.length_range] at this
theorem compact_row (HS : St cc q w0 w (front ++ (lr ++ ll))) (hr : OwnRow 3 1 lr v ns.length (ns.map iV)) :
    Calls Try.prog 48 #[v] w (fun e w' => ∃ v' lr', e = .returned v' ∧ St cc q w0 w' (front ++ (lr' ++ ll)) ∧ OwnRow 3 1 lr' v' (Lib.compact ns).length ((Lib.compact ns).map iV)) := by
  rcases hr.2 with ⟨hlr, ⟨ao, rfl⟩, hn0⟩ | ⟨g, cap, pre, junk, rfl, rfl, hnc, hcm, hj⟩
  · have hns : ns = [] := List.eq_nil_of_length_eq_zero hn0
    subst hns
    refine (Try.slices_Compact_int_empty ao 0 w).mono fun e w' h => ?_
    obtain ⟨rfl, rfl⟩ := h
    exact ⟨_, lr, rfl, HS, hr⟩
  · have hB : PBox w g 3 (pre ++ (ns.map iV ++ junk)) := ((Bx_iff.1 HS.own).1 (g, 3, pre ++ (ns.map iV ++ junk)) (by simp)).2
    refine (Try.slices_Compact_int g pre.length cap ns w (holds_of hB) (by unfold maxLen at hcm; omega) hnc).mono fun e w' h => ?_
    obtain ⟨rfl, n, rfl⟩ := h
    have hB1 : PBox (Go.Sort.ahead w n) g 3 (pre ++ (ns.map iV ++ junk)) := (ahead_ext n).pbox hB
    have hle := compact_len_le ns
    have hp := put_box (ms := Lib.compact ns ++ List.replicate (ns.length - (Lib.compact ns).length) 0) hB1 (by rw [List.length_append, List.length_replicate]; omega)
    have h1 := (HS.ext (ahead_ext n)).chg hp.2 hp.1
    have e1 : pre ++ ((Lib.compact ns ++ List.replicate (ns.length - (Lib.compact ns).length) 0).map iV ++ junk) = pre ++ ((Lib.compact ns).map iV ++ ((List.replicate (ns.length - (Lib.compact ns).length) 0).map iV ++ junk)) := by rw [List.map_append, List.append_assoc]
    rw [e1] at h1
    refine ⟨_, _, rfl, h1, by simp, .inr ⟨g, cap, pre, _, rfl, rfl, by omega, hcm, ?_⟩⟩
    simp only [List.length_append, List.length_map, List.length_replicate, hj]
    omega
end
section
variable {P : Program}
theorem run_slice_cells (t e : TypeId) (n : Nat) (hns : 0 < n) (hsm : n ≤ 16777216) (hu : P.underlying t = some (.slice e)) (he : (P.info? e).map (fun i => (i.size, i.zero.isSome)) = some (1, true))
    (vs : List Value) (hn : vs.length = n) (h1 : ∀ v ∈ vs, v.cells = #[v]) (w : World) :
    (Instr.buildSlice t n ((vs.zipIdx 0).map fun x => (x.2, x.1)).toArray).run P w = .ok (.slice (some ⟨w.heap.size, 0, none⟩) n n) (w.alloc (.cells vs.toArray e)) := by
  cases hie : P.info? e with
  | none => rw [hie] at he; cases he
  | some ie =>
    rw [hie] at he
    simp at he
    obtain ⟨hs, hzs⟩ := he
    obtain ⟨z, hz⟩ := Option.isSome_iff_exists.1 hzs
    refine run_buildSlice w t e n _ _ ie z hu hie hz (by rw [hs]; omega) (by rw [hs]; omega) ?_
    rw [hs]
    have := Great.fill_flat vs ((Array.range (n * 1)).map (z.cells[· % z.cells.size]!)) h1 (by simp [hn])
    exact this
end
theorem build_int (n : Int) (w : World) : (Instr.buildSlice 30 1 ([(0, .int .i64 n)] : List (Nat × Value)).toArray).run Try.prog w = .ok (.slice (some ⟨w.heap.size, 0, none⟩) 1 1) (w.alloc (.cells [.int .i64 n].toArray 3)) :=
  run_slice_cells 30 3 1 (by omega) (by omega) Try.underlying30 (by kernel_rfl) [.int .i64 n] rfl (by intro v hv; simp at hv; subst hv; rfl) w
theorem build_gss (a b : Option Addr) (n m c d : Nat) (w : World) : (Instr.buildSlice 67 2 ([(0, .slice a n c), (1, .slice b m d)] : List (Nat × Value)).toArray).run Try.prog w = .ok (.slice (some ⟨w.heap.size, 0, none⟩) 2 2) (w.alloc (.cells [.slice a n c, .slice b m d].toArray 23)) :=
  run_slice_cells 67 23 2 (by omega) (by omega) Try.underlying67 (by kernel_rfl) [.slice a n c, .slice b m d] rfl (by intro v hv; simp at hv; rcases hv with rfl | rfl <;> rfl) w
theorem wt_blockers1 (x : G) (tx : Int) (b : Nat) (w : World) (h0 : w.cell? ⟨b, 0, none⟩ = some (.int .i64 tx)) : Calls Try.prog 45 #[.agg x.arr, .pointer (some ⟨b, 0, none⟩)] w fun e w' => e = .returned (.bool (x.tx == tx)) ∧ Ext w w' := by
  have hlt : b < w.heap.size := block_lt_of_cell h0
  obtain ⟨x1, x2, x3, x4⟩ := x
  unfold G.arr G.lst
  dsimp only
  go_enter Try.func45, Try.ntmps45
  go_wp2
  go_ret
  exact ⟨rfl, (Ext.refl _).alloc _⟩
end Go.Proofs.Ytnfkplohpjfocaa
