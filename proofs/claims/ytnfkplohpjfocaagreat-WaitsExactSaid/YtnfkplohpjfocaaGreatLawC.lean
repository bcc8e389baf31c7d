/-
  The choices of a law as one of its own blocks: New, Left, Next, Grant.
-/
import Derived.Test.YtnfkplohpjfocaaGreatWouA
import Derived.Test.YtnfkplohpjfocaaGreatRfV
set_option linter.unusedVariables false
set_option linter.unusedSimpArgs false
namespace Go.Proofs.YtnfkplohpjfocaaGreat
open Go.RowKit
/-- the cells of a row of choices -/
def codL (a : Option Addr) (len cap pos : Nat) : List Value := [.slice a len cap, .int .i64 (pos : Int)]
section
variable {w0 w : World} {front ll : List (Nat × TypeId × List Value)} {a : Option Addr} {len cap pos c : Nat}
theorem cod_box (h : St none default w0 w (front ++ ([(c, 47, codL a len cap pos)] ++ ll))) : PBox w c 47 (codL a len cap pos) := ((Bx_iff.1 h.own).1 (c, 47, codL a len cap pos) (by simp)).2
def NextOwn (w0 : World) (front ll : List (Nat × TypeId × List Value)) (a : Option Addr) (len cap pos c : Nat) (n : Nat) (e : Ending) (w' : World) : Prop :=
  ∃ r pos' : Nat, e = .returned (.int .i64 r) ∧ r < n ∧ pos ≤ pos' ∧ pos' ≤ len ∧ (pos < len → pos < pos') ∧ St none default w0 w' (front ++ ([(c, 47, codL a len cap pos')] ++ ll))
set_option maxHeartbeats 1000000 in
theorem next_own (n : Nat) (hst : St none default w0 w (front ++ ([(c, 47, codL a len cap pos)] ++ ll))) (hB : BytesIn w0 a len) (hp : pos ≤ len) (hl : len ≤ 65536) (hn : 1 ≤ n) (hn2 : n ≤ 256) :
    Calls Tryz.prog 17 #[.pointer (some ⟨c, 0, none⟩), .int .i64 n] w (NextOwn w0 front ll a len cap pos c n) := by
  have hbx := cod_box hst
  have hh : w.heap[c]? = some (.cells #[.slice a len cap, .int .i64 pos] 47 (0, 0)) := hbx
  have c0 : w.cell? ⟨c, 0, none⟩ = some (.slice a len cap) := by rw [cell_of_row w c 0 _ _ _ hh]; rfl
  have c1 : w.cell? ⟨c, 1, none⟩ = some (.int .i64 pos) := by rw [cell_of_row w c 1 _ _ _ hh]; rfl
  have f1 : w.frozen? ⟨c, 1, none⟩ = false := frozen_of_row w c 1 _ _ hh
  by_cases hz : len ≤ pos
  · have fin : ∀ k, NextOwn w0 front ll a len cap pos c n (.returned (.int .i64 0)) (w.drewN k) := fun k => ⟨0, pos, rfl, by omega, Nat.le_refl _, hp, fun h => by omega, hst.drewN k⟩
    have HF := Lib.hid fin
    clear hh fin hbx hst
    have d1 : decide ((len : Int) ≤ (pos : Int)) = true := by simp; omega
    go_enter Tryz.func17, Tryz.ntmps17
    go_wp2
    go_quiet (fail)
    go_wp2
    go_ret
    exact HF.out _
  · obtain ⟨blk, off, rfl, hi⟩ := hB (by omega)
    obtain ⟨x, hx, hcell0⟩ := hi pos (by omega)
    have hlt0 := block_lt_of_cell (a := ⟨blk, off + pos, none⟩) hcell0
    have hcell : w.cell? ⟨blk, off + pos, none⟩ = some (.int .u8 x) := (Below.cell (p := ⟨blk, off + pos, none⟩) hst.isExt hlt0).trans hcell0
    have fin : ∀ k, NextOwn w0 front ll (some ⟨blk, off, none⟩) len cap pos c n (.returned (.int .i64 ((x : Int) % (n : Int)))) ((w.setCell ⟨c, 1, none⟩ (.int .i64 ((pos : Int) + 1))).drewN k) := fun k => by
      obtain ⟨r, hr, hlt⟩ := tmod_range x n hn
      refine ⟨r, pos + 1, by rw [hr], hlt, by omega, by omega, fun _ => by omega, ?_⟩
      have h1 := hst.chg (Only.self_setCell c 1 w (.int .i64 ((pos : Int) + 1))) (hbx.setCell 1 (.int .i64 ((pos : Int) + 1)))
      exact h1.drewN k
    have HF := Lib.hid fin
    clear hh fin hbx hst hi hcell0 hlt0 hB
    have d1 : decide ((len : Int) ≤ (pos : Int)) = false := by simp; omega
    have d2 : decide ((n : Int) < 1) = false := by simp; omega
    have d3 : decide (256 < (n : Int)) = false := by simp; omega
    go_enter Tryz.func17, Tryz.ntmps17
    go_wp2
    go_quiet (fail)
    go_wp2
    go_quiet (fail)
    go_wp2
    go_ret
    exact HF.out _
set_option maxHeartbeats 1000000 in
theorem grant_own (hst : St none default w0 w (front ++ ([(c, 47, codL a len cap pos)] ++ ll))) (hB : BytesIn w0 a len) (hp : pos ≤ len) (hl : len ≤ 65536) :
    Calls Tryz.prog 14 #[.pointer (some ⟨c, 0, none⟩)] w (fun e w' => ∃ (g : G) (pos' : Nat), e = .returned (.agg g.arr) ∧ small g ∧ pos' ≤ len ∧ pos ≤ pos' ∧ (pos < len → pos < pos') ∧ St none default w0 w' (front ++ ([(c, 47, codL a len cap pos')] ++ ll))) := by
  have HS := Lib.hid hst
  have HB := Lib.hid hB
  clear hst hB
  go_enter Tryz.func14, Tryz.ntmps14
  go_wp2_with (refine sx_alloc HS rfl 29 rfl _ zr29 ?_; clear HS; intro w b2 HS)
  refine (next_own (front := (b2, 29, [.int .i64 0, .int .i64 0, .int .i64 0, .int .i64 0]) :: front) 5 HS.out HB.out hp hl (by omega) (by omega)).mono ?_
  rintro e w ⟨r1, p1, rfl, hr1, hp1, hq1, hs1, hst⟩
  clear HS
  have HS := Lib.hid hst
  clear hst
  go_wp2_with fail
  refine (next_own (front := (b2, 29, [.int .i64 0, .int .i64 0, .int .i64 0, .int .i64 0]) :: front) 2 HS.out HB.out hq1 hl (by omega) (by omega)).mono ?_
  rintro e w ⟨r2, p2, rfl, hr2, hp2, hq2, hs2, hst⟩
  clear HS
  have HS := Lib.hid hst
  clear hst
  go_wp2_with fail
  refine (next_own (front := (b2, 29, [.int .i64 0, .int .i64 0, .int .i64 0, .int .i64 0]) :: front) 2 HS.out HB.out hq2 hl (by omega) (by omega)).mono ?_
  rintro e w ⟨r3, p3, rfl, hr3, hp3, hq3, hs3, hst⟩
  clear HS
  have HS := Lib.hid hst
  clear hst
  go_wp2_with fail
  refine (next_own (front := (b2, 29, [.int .i64 0, .int .i64 0, .int .i64 0, .int .i64 0]) :: front) 2 HS.out HB.out hq3 hl (by omega) (by omega)).mono ?_
  rintro e w ⟨r4, p4, rfl, hr4, hp4, hq4, hs4, hst⟩
  clear HS
  have HS := Lib.hid hst
  clear hst
  obtain ⟨g, hg⟩ : ∃ g : G, g = ⟨1 + r1, r2, r3, 1 + r4⟩ := ⟨_, rfl⟩
  have hgl : [Value.int .i64 (1 + (r1 : Int)), .int .i64 r2, .int .i64 r3, .int .i64 (1 + (r4 : Int))] = g.lst := by rw [hg]; rfl
  have HGL := Lib.hid hgl
  have HG := Lib.hid hg
  clear hg hgl
  go_wp2_with (refine sx_store_all HS (by rfl) 29 (.tmp 2) (.tmp 14) rfl rfl 0 _ _ _ rfl rfl [.int .i64 (1 + (r1 : Int)), .int .i64 r2, .int .i64 r3, .int .i64 (1 + (r4 : Int))] rfl 4 sh29 rfl rfl rfl ?_; clear HS; intro w HS)
  have hBx : PBox w b2 29 g.lst := by rw [← HGL.out]; exact HS.out.box (i := 0) rfl
  refine bodyPost_ret (results_c rfl rfl (run_load_cells sh29 rfl (fun j u hj => by rw [Nat.zero_add]; exact hBx.cell hj))) rfl ?_
  refine ⟨g, p4, rfl, ?_, hq4, by omega, fun h => by have := hs1 h; omega, HS.out.drop 1⟩
  rw [HG.out]
  unfold small
  dsimp only
  omega
end
/-- What 'New' comes to: a block of the call's own. -/
theorem new_own (most : Nat) (h0 : 0 < most) (hmo : most ≤ 65536) (a : Option Addr) (len cap : Nat) (w0 w : World) (l : List (Nat × TypeId × List Value)) (hst : St none default w0 w l) (hlc : len ≤ cap) (hmax : cap ≤ maxLen) :
    Calls Tryz.prog 5 #[.slice a len cap, .int .i64 most] w (fun e w' => ∃ c n : Nat, e = .returned (.pointer (some ⟨c, 0, none⟩)) ∧ n ≤ len ∧ n ≤ most ∧ St none default w0 w' ((c, 47, codL a n cap 0) :: l)) := by
  have hm : cap ≤ 9223372036854775807 := hmax
  have HS := Lib.hid hst
  clear hst hmax
  by_cases hl : most < len
  · go_enter Tryz.func5, Tryz.ntmps5
    go_wp2_with (first | (refine sx_run rfl (.slice a most cap) (run_sl_hi (n := len) (s := 1) rfl Tryz.underlying22 (by kernel_rfl) rfl rfl (by omega) (sliced_hi a most cap 1).symm) ?_) | (refine sx_box HS (by rfl) 47 (.tmp 13) rfl (codL a most cap 0) rfl ?_; clear HS; intro w c HS))
    go_ret
    exact ⟨c, most, rfl, by omega, by omega, HS.out⟩
  · go_enter Tryz.func5, Tryz.ntmps5
    go_wp2_with (refine sx_box HS (by rfl) 47 (.tmp 13) rfl (codL a len cap 0) rfl ?_; clear HS; intro w c HS)
    go_ret
    exact ⟨c, len, rfl, by omega, by omega, HS.out⟩
end Go.Proofs.YtnfkplohpjfocaaGreat

namespace Go.Proofs.YtnfkplohpjfocaaGreat
open Go.RowKit
def awH : List G := [⟨1, 0, 0, 1⟩, ⟨2, 0, 0, 1⟩]
def awW : List G := [⟨1, 0, 0, 2⟩]
def awG : G := ⟨2, 0, 0, 2⟩
theorem aw_req : reqF awH awW awG = some (awH, awW ++ [awG], false) := by kernel_rfl
theorem aw_sort {ns : List Int} (h : ns.Pairwise fun x y => decide (x ≤ y) = true) : sortI ns = ns := by unfold sortI; exact List.mergeSort_of_pairwise h
theorem aw_b2 : blockF awH (awW ++ [awG]) 2 = [1] := by
  have h : blockF awH (awW ++ [awG]) 2 = Lib.compact (sortI [1, 1]) := by rfl
  rw [h, aw_sort (by decide)]
  rfl
theorem aw_b1 : blockF awH (awW ++ [awG]) 1 = [2] := by
  have h : blockF awH (awW ++ [awG]) 1 = Lib.compact (sortI [2]) := by rfl
  rw [h, aw_sort (by decide)]
  rfl
theorem aw_cyc : cycF awH (awW ++ [awG]) 2 = [2, 1] := by
  have hv : validT awH (awW ++ [awG]) = true := by kernel_rfl
  have hu : (univ awH (awW ++ [awG]) 2).length = 5 := rfl
  unfold cycF
  rw [hv, hu]
  simp [bfsF, lastI, aw_b2, aw_b1, nbF]
set_option maxHeartbeats 4000000 in
set_option maxRecDepth 100000 in
theorem awake_any (w0 : World) : Calls Tryz.prog 4 #[] w0 (fun e w' => e = .returned (.bool true) ∧ Ext w0 w') := by
  have HS : Hid (St none default w0 w0 []) := St.start w0
  have hs2 : ∀ w : World, (Instr.buildSlice 23 2 ([(0, .agg (G.mk 1 0 0 1).arr), (1, .agg (G.mk 2 0 0 1).arr)] : List (Nat × Value)).toArray).run Tryz.prog w = .ok (.slice (some ⟨w.heap.size, 0, none⟩) 2 2) (w.alloc (.cells (gL awH).toArray 29)) := fun w =>
    run_slice_rows (P := Tryz.prog) 23 29 2 4 (by omega) (by omega) (by omega) Tryz.underlying23 (by kernel_rfl) [(G.mk 1 0 0 1).lst, (G.mk 2 0 0 1).lst] rfl (by intro x hx; simp at hx; rcases hx with rfl | rfl <;> rfl) w
  have H2 := Lib.hid hs2
  clear hs2
  go_enter Tryz.func4, Tryz.ntmps4
  go_wp2_with (first | (refine sx_build HS (by rfl) 23 29 2 [(0, .tmp 4), (1, .tmp 5)] rfl [(0, .agg (G.mk 1 0 0 1).arr), (1, .agg (G.mk 2 0 0 1).arr)] rfl (gL awH) H2.out ?_; clear HS; intro w b6 HS) | (refine sx_build HS (by rfl) 23 29 1 [(0, .tmp 7)] rfl [(0, .agg (G.mk 1 0 0 2).arr)] rfl (G.mk 1 0 0 2).lst (fun w => build_grant _ w) ?_; clear HS; intro w b8 HS) | (refine sx_alloc HS (by rfl) 25 rfl _ zr25 ?_; clear HS; intro w b1 HS) | (refine sx_store_all HS (by rfl) 25 (.tmp 1) (.tmp 9) rfl rfl 0 _ _ _ rfl rfl [.slice (some ⟨b6, 0, none⟩) 2 2, .slice (some ⟨b8, 0, none⟩) 1 1] rfl 2 sh25 rfl rfl rfl ?_; clear HS; intro w HS) | (refine sx_loads HS (by rfl) 25 (.tmp 1) rfl 0 _ _ _ rfl 0 rfl 2 sh25 [.slice (some ⟨b6, 0, none⟩) 2 2, .slice (some ⟨b8, 0, none⟩) 1 1] rfl ⟨rfl, rfl, trivial⟩ ?_))
  replace HS : Hid (St none default w0 w [(b1, 25, [.slice (some ⟨b6, 0, none⟩) 2 2, .slice (some ⟨b8, 0, none⟩) 1 1]), (b8, 29, (G.mk 1 0 0 2).lst), (b6, 29, gL awH)]) := HS
  have g1 : GsAt w (.slice (some ⟨b6, 0, none⟩) 2 2) awH := GsAt.own (E := 29) (lr := [(b6, 29, gL awH)]) HS.out (fun e he => by simp at he; simp [he]) ⟨rfl, .inr ⟨b6, 2, [], [], by simp, rfl, Nat.le_refl _, by decide, rfl⟩⟩
  have g2 : GsAt w (.slice (some ⟨b8, 0, none⟩) 1 1) awW := GsAt.own (E := 29) (lr := [(b8, 29, (G.mk 1 0 0 2).lst)]) HS.out (fun e he => by simp at he; simp [he]) ⟨rfl, .inr ⟨b8, 1, [], [], by simp [gL, awW], rfl, Nat.le_refl _, by decide, rfl⟩⟩
  refine (wt_would w _ _ awH awW awG g1 g2 (by decide) (by decide)).mono ?_
  clear g1 g2
  rintro e w1 (⟨hF, _⟩ | ⟨u, v, b, vl, hF, _, rfl, lr, hst, hr⟩)
  · rw [aw_req] at hF; cases hF
  · rw [aw_req] at hF
    cases hF
    rw [show awG.tx = 2 from rfl, aw_cyc] at hr
    have hat : IsAt w1 vl [2, 1] := IsAt.own hst (fun e he => he) hr
    replace HS := Lib.hid (HS.out.call hst)
    obtain ⟨ao, cap, rfl, hc1, hc2, hget⟩ := hat.get
    obtain ⟨gg, off, rfl, hcell⟩ := hget (by decide)
    have k0 : w1.cell? ⟨gg, off, none⟩ = some (.int .i64 2) := hcell 0 2 rfl w1 (Ext.refl _)
    have k1 : w1.cell? ⟨gg, off + 1, none⟩ = some (.int .i64 1) := hcell 1 1 rfl w1 (Ext.refl _)
    clear hcell hget hat hr hst
    go_wp2_with fail
    go_ret
    exact ⟨rfl, HS.out.isExt⟩
end Go.Proofs.YtnfkplohpjfocaaGreat
