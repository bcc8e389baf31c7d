/-
  The contract of awake: the example of the chapter.
-/
import Derived.Test.YtnfkplohpjfocaaLawD
import Derived.Test.YtnfkplohpjfocaaRfV
set_option linter.unusedVariables false
set_option linter.unusedSimpArgs false
namespace Go.Proofs.Ytnfkplohpjfocaa
open Go.RowKit
def awH : List G := [⟨1, 0, 0, 1⟩, ⟨2, 0, 0, 1⟩]
def awW : List G := [⟨1, 0, 0, 2⟩]
def awG : G := ⟨2, 0, 0, 2⟩
theorem aw_req : reqF awH awW awG = some (awH, awW ++ [awG], false) := by kernel_rfl
theorem aw_sort {ns : List Int} (h : ns.Pairwise fun x y => decide (x ≤ y) = true) : sortI ns = ns := by unfold sortI; exact List.mergeSort_of_pairwise h
theorem aw_b2 : blockF awH (awW ++ [awG]) 2 = [1] := by
  have h : blockF awH (awW ++ [awG]) 2 = Lib.compact (sortI [1, 1]) := by rfl
  rw [h, aw_sort (by decide)]
  rfl
theorem aw_b1 : blockF awH (awW ++ [awG]) 1 = [2] := by
  have h : blockF awH (awW ++ [awG]) 1 = Lib.compact (sortI [2]) := by rfl
  rw [h, aw_sort (by decide)]
  rfl
theorem aw_cyc : cycF awH (awW ++ [awG]) 2 = [2, 1] := by
  have hv : validT awH (awW ++ [awG]) = true := by kernel_rfl
  have hu : (univ awH (awW ++ [awG]) 2).length = 5 := rfl
  unfold cycF
  rw [hv, hu]
  simp [bfsF, lastI, aw_b2, aw_b1, nbF]
set_option maxHeartbeats 4000000 in
set_option maxRecDepth 100000 in
theorem awake_any (w0 : World) : Calls Try.prog 5 #[] w0 (fun e w' => e = .returned (.bool true) ∧ Ext w0 w') := by
  have HS : Hid (St none default w0 w0 []) := St.start w0
  have hs2 : ∀ w : World, (Instr.buildSlice 23 2 ([(0, .agg (G.mk 1 0 0 1).arr), (1, .agg (G.mk 2 0 0 1).arr)] : List (Nat × Value)).toArray).run Try.prog w = .ok (.slice (some ⟨w.heap.size, 0, none⟩) 2 2) (w.alloc (.cells (gL awH).toArray 29)) := fun w =>
    run_slice_rows (P := Try.prog) 23 29 2 4 (by omega) (by omega) (by omega) Try.underlying23 (by kernel_rfl) [(G.mk 1 0 0 1).lst, (G.mk 2 0 0 1).lst] rfl (by intro x hx; simp at hx; rcases hx with rfl | rfl <;> rfl) w
  have H2 := Lib.hid hs2
  clear hs2
  go_enter Try.func5, Try.ntmps5
  go_wp2_with (first | (refine sx_build HS (by rfl) 23 29 2 [(0, .tmp 4), (1, .tmp 5)] rfl [(0, .agg (G.mk 1 0 0 1).arr), (1, .agg (G.mk 2 0 0 1).arr)] rfl (gL awH) H2.out ?_; clear HS; intro w b6 HS) | (refine sx_build HS (by rfl) 23 29 1 [(0, .tmp 7)] rfl [(0, .agg (G.mk 1 0 0 2).arr)] rfl (G.mk 1 0 0 2).lst (fun w => build_grant _ w) ?_; clear HS; intro w b8 HS) | (refine sx_alloc HS (by rfl) 25 rfl _ zr25 ?_; clear HS; intro w b1 HS) | (refine sx_store_all HS (by rfl) 25 (.tmp 1) (.tmp 9) rfl rfl 0 _ _ _ rfl rfl [.slice (some ⟨b6, 0, none⟩) 2 2, .slice (some ⟨b8, 0, none⟩) 1 1] rfl 2 sh25 rfl rfl rfl ?_; clear HS; intro w HS) | (refine sx_loads HS (by rfl) 25 (.tmp 1) rfl 0 _ _ _ rfl 0 rfl 2 sh25 [.slice (some ⟨b6, 0, none⟩) 2 2, .slice (some ⟨b8, 0, none⟩) 1 1] rfl ⟨rfl, rfl, trivial⟩ ?_))
  replace HS : Hid (St none default w0 w [(b1, 25, [.slice (some ⟨b6, 0, none⟩) 2 2, .slice (some ⟨b8, 0, none⟩) 1 1]), (b8, 29, (G.mk 1 0 0 2).lst), (b6, 29, gL awH)]) := HS
  have g1 : GsAt w (.slice (some ⟨b6, 0, none⟩) 2 2) awH := GsAt.own (E := 29) (lr := [(b6, 29, gL awH)]) HS.out (fun e he => by simp at he; simp [he]) ⟨rfl, .inr ⟨b6, 2, [], [], by simp, rfl, Nat.le_refl _, by decide, rfl⟩⟩
  have g2 : GsAt w (.slice (some ⟨b8, 0, none⟩) 1 1) awW := GsAt.own (E := 29) (lr := [(b8, 29, (G.mk 1 0 0 2).lst)]) HS.out (fun e he => by simp at he; simp [he]) ⟨rfl, .inr ⟨b8, 1, [], [], by simp [gL, awW], rfl, Nat.le_refl _, by decide, rfl⟩⟩
  refine (wt_would w _ _ awH awW awG g1 g2 (by decide) (by decide)).mono ?_
  clear g1 g2
  rintro e w1 (⟨hF, _⟩ | ⟨u, v, b, vl, hF, _, rfl, lr, hst, hr⟩)
  · rw [aw_req] at hF; cases hF
  · rw [aw_req] at hF
    cases hF
    rw [show awG.tx = 2 from rfl, aw_cyc] at hr
    have hat : IsAt w1 vl [2, 1] := IsAt.own hst (fun e he => he) hr
    replace HS := Lib.hid (HS.out.call hst)
    obtain ⟨ao, cap, rfl, hc1, hc2, hget⟩ := hat.get
    obtain ⟨gg, off, rfl, hcell⟩ := hget (by decide)
    have k0 : w1.cell? ⟨gg, off, none⟩ = some (.int .i64 2) := hcell 0 2 rfl w1 (Ext.refl _)
    have k1 : w1.cell? ⟨gg, off + 1, none⟩ = some (.int .i64 1) := hcell 1 1 rfl w1 (Ext.refl _)
    clear hcell hget hat hr hst
    go_wp2_with fail
    go_ret
    exact ⟨rfl, HS.out.isExt⟩
end Go.Proofs.Ytnfkplohpjfocaa
