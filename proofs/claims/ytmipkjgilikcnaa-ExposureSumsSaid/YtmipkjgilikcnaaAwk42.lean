/-
  The sanity check of chapter 42, and the library's sorting of one number.
-/
import Derived.Test.YtmipkjgilikcnaaSumR
import Derived.Outline
namespace Go.Proofs.Ytmipkjgilikcnaa
open Go.RowKit
set_option maxHeartbeats 1000000 in
set_option maxRecDepth 100000 in
theorem len64_one (w : World) : Calls Try.prog 24 #[.int .u64 1] w fun e w' => (∃ n, e = .returned (.int .i64 n)) ∧ w = w' := by
  go_enter Try.func24, Try.ntmps24
  go_wp2
  go_ret
  exact ⟨⟨_, rfl⟩, rfl⟩
set_option maxHeartbeats 1000000 in
theorem len_one (w : World) : Calls Try.prog 13 #[.int .u64 1] w fun e w' => (∃ n, e = .returned (.int .i64 n)) ∧ w = w' := by
  go_enter Try.func13, Try.ntmps13
  go_wp2_with fail
  refine (len64_one _).mono ?_
  rintro e w' ⟨⟨n, rfl⟩, rfl⟩
  go_wp2
  go_ret
  exact ⟨⟨_, rfl⟩, rfl⟩
set_option maxHeartbeats 1000000 in
theorem insertion_one (a : Option Addr) (cap : Nat) (w : World) : Calls Try.prog 14 #[.slice a 1 cap, .int .i64 0, .int .i64 1] w fun e w' => e = .returned (.tuple #[]) ∧ w = w' := by
  go_enter Try.func14, Try.ntmps14
  go_wp2_with fail
  go_loop [6] (fun i => i = .int .i64 1) (fun _ => 0)
  case atStart => rfl
  case round =>
    subst hrel
    go_wp2
    go_end0
    exact ⟨rfl, rfl⟩
set_option maxHeartbeats 1000000 in
set_option maxRecDepth 100000 in
theorem pdq_one (a : Option Addr) (cap : Nat) (n : Int) (w : World) : Calls Try.prog 12 #[.slice a 1 cap, .int .i64 0, .int .i64 1, .int .i64 n] w fun e w' => e = .returned (.tuple #[]) ∧ w = w' := by
  go_enter Try.func12, Try.ntmps12
  go_wp2_with fail
  refine wp_loop_rounds 1 ?_
  rw [rounds_succ]
  go_wp2_with fail
  refine (insertion_one a cap _).mono ?_
  rintro e w' ⟨rfl, rfl⟩
  go_wp2_with fail
  exact bodyPost_ret (results_none Try.results12 _ _ _) rfl ⟨rfl, rfl⟩
set_option maxHeartbeats 1000000 in
theorem sort_one (a : Option Addr) (cap : Nat) (w : World) : Calls Try.prog 10 #[.slice a 1 cap] w fun e w' => e = .returned (.tuple #[]) ∧ w = w' := by
  go_enter Try.func10, Try.ntmps10
  go_wp2_with fail
  refine (len_one _).mono ?_
  rintro e w' ⟨⟨n, rfl⟩, rfl⟩
  go_wp2_with fail
  refine (pdq_one a cap n _).mono ?_
  rintro e w' ⟨rfl, rfl⟩
  go_wp2_with fail
  go_end0
  exact ⟨rfl, rfl⟩
set_option maxHeartbeats 1000000 in
theorem compact_one (a : Option Addr) (cap : Nat) (w : World) : Calls Try.prog 11 #[.slice a 1 cap] w fun e w' => e = .returned (.slice a 1 cap) ∧ w = w' := by
  go_enter Try.func11, Try.ntmps11
  go_wp2
  go_ret
  exact ⟨rfl, rfl⟩
theorem info_int : ∃ ie, Try.prog.info? 3 = some ie ∧ ie.zero = some (.int .i64 0) ∧ ie.size = 1 ∧ ie.bytes ≤ 1000000 := by
  cases hie : Try.prog.info? 3 with
  | none => have h := zr3; rw [hie] at h; cases h
  | some ie =>
    have h1 := zr3
    have h2 : (Try.prog.info? 3).map (fun i => (i.size, Nat.ble i.bytes 1000000)) = some (1, true) := by kernel_rfl
    rw [hie] at h1 h2
    simp at h2
    exact ⟨ie, rfl, h1, h2.1, h2.2⟩
theorem build_int (n : Int) (w : World) : (Instr.buildSlice 40 1 ([(0, .int .i64 n)] : List (Nat × Value)).toArray).run Try.prog w = .ok (.slice (some ⟨w.heap.size, 0, none⟩) 1 1) (w.alloc (.cells [.int .i64 n].toArray 3)) := by
  obtain ⟨ie, hie, hz, hs, _⟩ := info_int
  refine run_buildSlice w 40 3 1 _ _ ie _ Try.underlying40 hie hz (by rw [hs]; decide) (by rw [hs]; decide) ?_
  rw [hs]
  have hr : Array.range (1 * 1) = #[0] := by decide
  rw [hr]
  simp [Instr.fill, Value.cells]
def PagesPost (w0 : World) (e : Ending) (w' : World) : Prop := ∃ (v : Value) (lr : List (Nat × TypeId × List Value)), e = .returned v ∧ St none default w0 w' lr ∧ RowEnt 3 1 lr v 1 [.int .i64 3]
set_option maxHeartbeats 2000000 in
set_option maxRecDepth 100000 in
theorem pages_one (w0 : World) (g : Nat) (h : ∀ (j : Nat) (u : Value), (rL (2, 3) ++ rL (1, 5))[j]? = some u → w0.cell? ⟨g, j, none⟩ = some u) : Calls Try.prog 9 #[.slice (some ⟨g, 0, none⟩) 2 2] w0 (PagesPost w0) := by
  have HCW : Hid (∀ w, Ext w0 w → ∀ (j : Nat) (u : Value), (rL (2, 3) ++ rL (1, 5))[j]? = some u → w.cell? ⟨g, j, none⟩ = some u) := fun w k j x hj => by
    have := h j x hj
    exact (Below.cell (p := ⟨g, j, none⟩) k (block_lt_of_cell (a := ⟨g, j, none⟩) this)).trans this
  clear h
  obtain ⟨ie, hie, hiz, his, hib⟩ := info_int
  have HIE := Lib.hid hie
  have HIZ := Lib.hid hiz
  have HIS := Lib.hid his
  have HIB := Lib.hid hib
  clear hie hiz his hib
  have HS : Hid (St none default w0 w0 []) := St.start w0
  go_enter Try.func9, Try.ntmps9
  go_wp2_with fail
  go_loopw [3, 8] (fun v s wr => ∃ (i : Nat) (lr : List (Nat × TypeId × List Value)), i ≤ 2 ∧ s = .int .i64 i ∧ Hid (St none default w0 wr (lr ++ [])) ∧ (i = 0 → Hid (RowEnt 3 1 lr v 0 [])) ∧ (0 < i → Hid (RowEnt 3 1 lr v 1 [.int .i64 3]))) (fun _ s _ => 2 - (intOf s).toNat)
  case atStart => exact ⟨0, [], Nat.zero_le _, rfl, HS, fun _ => RowEnt.nil, fun h => absurd h (Nat.not_lt_zero _)⟩
  case round =>
    obtain ⟨i, lr, hi, rfl, HS2, H0, H1⟩ := hrel
    clear HS
    have HS := HS2
    clear HS2
    have h3 : i = 0 ∨ i = 1 ∨ i = 2 := by omega
    rcases h3 with rfl | rfl | rfl
    · have HR := H0 rfl
      clear H0 H1 hi
      go_wp2_with (first | (refine sx_loadsC rfl 43 _ rfl g 0 rfl 2 sh43 (rL (2, 3)) rfl (fun j u hj => HCW.out _ HS.out.isExt (0 + j) u (by match j, hj with | 0, hj => exact hj | 1, hj => exact hj)) ?_) | (refine sx_alloc HS rfl 43 rfl _ zr43 ?_; clear HS; intro w b5 HS) | (refine sx_store_all HS rfl 43 _ _ rfl rfl 0 _ _ _ rfl rfl (rL (2, 3)) rfl 2 sh43 rfl rfl rfl ?_; clear HS; intro w HS) | (refine sx_load HS rfl 3 _ rfl 0 _ _ _ rfl 0 rfl _ sh3 (.int .i64 2) rfl ?_) | (refine sx_load HS rfl 3 _ rfl 0 _ _ _ rfl 1 rfl _ sh3 (.int .i64 3) rfl ?_) | (refine sx_build HS rfl 40 3 1 [(0, .tmp 20)] rfl [(0, .int .i64 3)] rfl [.int .i64 3] (fun w => build_int 3 w) ?_; clear HS; intro w b21 HS) | (refine sx_append (front := [(b21, 3, [.int .i64 3]), (b5, 43, rL (2, 3))]) (lr := lr) (ll := []) HS rfl _ _ 40 rfl 3 ie _ 1 _ Try.underlying40 HIE.out HIZ.out HIS.out rfl rfl (by decide) _ 0 [] rfl HR.out _ rfl 1 [.int .i64 3] (SrcAt.box (HS.out.box (i := 0) rfl) rfl rfl) (by unfold maxLen; omega) (Nat.le_trans (Nat.mul_le_mul (show 0 + 1 ≤ 100 by omega) HIB.out) (by decide)) ?_; clear HS HR; intro vv w lq HS HR))
      replace HS := Lib.hid (HS.out.drop 2)
      go_roundw
      case rel => exact ⟨1, lq, by omega, by go_num, HS, (fun h => by omega), fun _ => HR⟩
      case measure => simp [intOf]
    · have HR := H1 (by omega)
      clear H0 H1 hi
      go_wp2_with (first | (refine sx_loadsC rfl 43 _ rfl g 2 rfl 2 sh43 (rL (1, 5)) rfl (fun j u hj => HCW.out _ HS.out.isExt (2 + j) u (by match j, hj with | 0, hj => exact hj | 1, hj => exact hj)) ?_) | (refine sx_alloc HS rfl 43 rfl _ zr43 ?_; clear HS; intro w b5 HS) | (refine sx_store_all HS rfl 43 _ _ rfl rfl 0 _ _ _ rfl rfl (rL (1, 5)) rfl 2 sh43 rfl rfl rfl ?_; clear HS; intro w HS) | (refine sx_load HS rfl 3 _ rfl 0 _ _ _ rfl 0 rfl _ sh3 (.int .i64 1) rfl ?_))
      replace HS := Lib.hid (HS.out.drop 1)
      go_roundw
      case rel => exact ⟨2, lr, by omega, by go_num, HS, (fun h => by omega), fun _ => HR⟩
      case measure => simp [intOf]
    · have HR := H1 (by omega)
      clear H0 H1 hi
      obtain ⟨g3, cp, junk, rfl, rfl, _, _⟩ := RowEnt.pos HR.out (by omega)
      go_wp2_with fail
      refine (sort_one (some ⟨g3, 0, none⟩) cp _).mono ?_
      rintro e w' ⟨rfl, rfl⟩
      go_wp2_with fail
      refine (compact_one (some ⟨g3, 0, none⟩) cp _).mono ?_
      rintro e w' ⟨rfl, rfl⟩
      go_wp2_with fail
      go_ret
      exact ⟨_, _, rfl, HS.out, HR.out⟩
theorem build_two (w : World) : (Instr.buildSlice 29 2 ([(0, .agg #[.int .i64 2, .int .i64 3]), (1, .agg #[.int .i64 1, .int .i64 5])] : List (Nat × Value)).toArray).run Try.prog w = .ok (.slice (some ⟨w.heap.size, 0, none⟩) 2 2) (w.alloc (.cells (rL (2, 3) ++ rL (1, 5)).toArray 43)) := by
  have := run_slice_rows (P := Try.prog) 29 43 2 2 (by omega) (by omega) (by omega) Try.underlying29 (by kernel_rfl) [rL (2, 3), rL (1, 5)] rfl (by intro x hx; simp at hx; rcases hx with rfl | rfl <;> rfl) w
  simpa [partsOf, rL] using this
set_option maxHeartbeats 2000000 in
set_option maxRecDepth 100000 in
theorem awake_any (w0 : World) : Calls Try.prog 4 #[] w0 fun e w' => e = .returned (.bool true) ∧ Ext w0 w' := by
  have HS : Hid (St none default w0 w0 []) := St.start w0
  go_enter Try.func4, Try.ntmps4
  go_wp2_with (refine sx_build HS rfl 29 43 2 [(0, .tmp 2), (1, .tmp 3)] rfl [(0, .agg #[.int .i64 2, .int .i64 3]), (1, .agg #[.int .i64 1, .int .i64 5])] rfl (rL (2, 3) ++ rL (1, 5)) build_two ?_; clear HS; intro w b4 HS)
  refine (pages_one _ b4 (fun j u hj => (HS.out.box (i := 0) rfl).cell hj)).mono ?_
  rintro e w ⟨v, lr, rfl, hst, hr⟩
  replace HS := Lib.hid (HS.out.call hst)
  clear hst
  obtain ⟨g3, cp, junk, rfl, rfl, h1, h2⟩ := RowEnt.pos hr (by omega)
  clear hr
  have hcp : cp ≤ 9223372036854775807 := by unfold maxLen at h2; omega
  clear h2
  go_wp2_with (refine sx_load HS rfl 3 _ rfl 0 _ _ _ rfl 0 rfl _ sh3 (.int .i64 3) rfl ?_)
  go_ret
  exact ⟨rfl, HS.out.isExt⟩
end Go.Proofs.Ytmipkjgilikcnaa
