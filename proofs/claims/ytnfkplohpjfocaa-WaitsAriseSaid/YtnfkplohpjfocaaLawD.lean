/-
  The choices of a law as one of its own blocks: New, Left, Next, Grant.
-/
import Derived.Test.YtnfkplohpjfocaaWouA
set_option linter.unusedVariables false
set_option linter.unusedSimpArgs false
namespace Go.Proofs.Ytnfkplohpjfocaa
open Go.RowKit
/-- the cells of a row of choices -/
def codL (a : Option Addr) (len cap pos : Nat) : List Value := [.slice a len cap, .int .i64 (pos : Int)]
section
variable {w0 w : World} {front ll : List (Nat × TypeId × List Value)} {a : Option Addr} {len cap pos c : Nat}
theorem cod_box (h : St none default w0 w (front ++ ([(c, 54, codL a len cap pos)] ++ ll))) : PBox w c 54 (codL a len cap pos) := ((Bx_iff.1 h.own).1 (c, 54, codL a len cap pos) (by simp)).2
def NextOwn (w0 : World) (front ll : List (Nat × TypeId × List Value)) (a : Option Addr) (len cap pos c : Nat) (n : Nat) (e : Ending) (w' : World) : Prop :=
  ∃ r pos' : Nat, e = .returned (.int .i64 r) ∧ r < n ∧ pos ≤ pos' ∧ pos' ≤ len ∧ (pos < len → pos < pos') ∧ St none default w0 w' (front ++ ([(c, 54, codL a len cap pos')] ++ ll))
set_option maxHeartbeats 1000000 in
theorem next_own (n : Nat) (hst : St none default w0 w (front ++ ([(c, 54, codL a len cap pos)] ++ ll))) (hB : BytesIn w0 a len) (hp : pos ≤ len) (hl : len ≤ 65536) (hn : 1 ≤ n) (hn2 : n ≤ 256) :
    Calls Try.prog 10 #[.pointer (some ⟨c, 0, none⟩), .int .i64 n] w (NextOwn w0 front ll a len cap pos c n) := by
  have hbx := cod_box hst
  have hh : w.heap[c]? = some (.cells #[.slice a len cap, .int .i64 pos] 54 (0, 0)) := hbx
  have c0 : w.cell? ⟨c, 0, none⟩ = some (.slice a len cap) := by rw [cell_of_row w c 0 _ _ _ hh]; rfl
  have c1 : w.cell? ⟨c, 1, none⟩ = some (.int .i64 pos) := by rw [cell_of_row w c 1 _ _ _ hh]; rfl
  have f1 : w.frozen? ⟨c, 1, none⟩ = false := frozen_of_row w c 1 _ _ hh
  by_cases hz : len ≤ pos
  · have fin : ∀ k, NextOwn w0 front ll a len cap pos c n (.returned (.int .i64 0)) (w.drewN k) := fun k => ⟨0, pos, rfl, by omega, Nat.le_refl _, hp, fun h => by omega, hst.drewN k⟩
    have HF := Lib.hid fin
    clear hh fin hbx hst
    have d1 : decide ((len : Int) ≤ (pos : Int)) = true := by simp; omega
    go_enter Try.func10, Try.ntmps10
    go_wp2
    go_quiet (fail)
    go_wp2
    go_ret
    exact HF.out _
  · obtain ⟨blk, off, rfl, hi⟩ := hB (by omega)
    obtain ⟨x, hx, hcell0⟩ := hi pos (by omega)
    have hlt0 := block_lt_of_cell (a := ⟨blk, off + pos, none⟩) hcell0
    have hcell : w.cell? ⟨blk, off + pos, none⟩ = some (.int .u8 x) := (Below.cell (p := ⟨blk, off + pos, none⟩) hst.isExt hlt0).trans hcell0
    have fin : ∀ k, NextOwn w0 front ll (some ⟨blk, off, none⟩) len cap pos c n (.returned (.int .i64 ((x : Int) % (n : Int)))) ((w.setCell ⟨c, 1, none⟩ (.int .i64 ((pos : Int) + 1))).drewN k) := fun k => by
      obtain ⟨r, hr, hlt⟩ := tmod_range x n hn
      refine ⟨r, pos + 1, by rw [hr], hlt, by omega, by omega, fun _ => by omega, ?_⟩
      have h1 := hst.chg (Only.self_setCell c 1 w (.int .i64 ((pos : Int) + 1))) (hbx.setCell 1 (.int .i64 ((pos : Int) + 1)))
      exact h1.drewN k
    have HF := Lib.hid fin
    clear hh fin hbx hst hi hcell0 hlt0 hB
    have d1 : decide ((len : Int) ≤ (pos : Int)) = false := by simp; omega
    have d2 : decide ((n : Int) < 1) = false := by simp; omega
    have d3 : decide (256 < (n : Int)) = false := by simp; omega
    go_enter Try.func10, Try.ntmps10
    go_wp2
    go_quiet (fail)
    go_wp2
    go_quiet (fail)
    go_wp2
    go_ret
    exact HF.out _
set_option maxHeartbeats 1000000 in
theorem left_own (hst : St none default w0 w (front ++ ([(c, 54, codL a len cap pos)] ++ ll))) (hp : pos ≤ len) (hl : len ≤ 65536) :
    Calls Try.prog 8 #[.pointer (some ⟨c, 0, none⟩)] w (fun e w' => e = .returned (.int .i64 ((len : Int) - pos)) ∧ Ext w w') := by
  have hbx := cod_box hst
  have hh : w.heap[c]? = some (.cells #[.slice a len cap, .int .i64 pos] 54 (0, 0)) := hbx
  have c0 : w.cell? ⟨c, 0, none⟩ = some (.slice a len cap) := by rw [cell_of_row w c 0 _ _ _ hh]; rfl
  have c1 : w.cell? ⟨c, 1, none⟩ = some (.int .i64 pos) := by rw [cell_of_row w c 1 _ _ _ hh]; rfl
  clear hh hbx hst
  go_enter Try.func8, Try.ntmps8
  go_wp2_with fail
  go_quiet (fail)
  go_wp2_with fail
  go_ret
  exact ⟨rfl, (Ext.refl w).drewN _⟩
set_option maxHeartbeats 1000000 in
theorem grant_own (hst : St none default w0 w (front ++ ([(c, 54, codL a len cap pos)] ++ ll))) (hB : BytesIn w0 a len) (hp : pos ≤ len) (hl : len ≤ 65536) :
    Calls Try.prog 9 #[.pointer (some ⟨c, 0, none⟩)] w (fun e w' => ∃ (g : G) (pos' : Nat), e = .returned (.agg g.arr) ∧ small g ∧ pos' ≤ len ∧ pos ≤ pos' ∧ (pos < len → pos < pos') ∧ St none default w0 w' (front ++ ([(c, 54, codL a len cap pos')] ++ ll))) := by
  have HS := Lib.hid hst
  have HB := Lib.hid hB
  clear hst hB
  go_enter Try.func9, Try.ntmps9
  go_wp2_with (refine sx_alloc HS rfl 29 rfl _ zr29 ?_; clear HS; intro w b2 HS)
  refine (next_own (front := (b2, 29, [.int .i64 0, .int .i64 0, .int .i64 0, .int .i64 0]) :: front) 5 HS.out HB.out hp hl (by omega) (by omega)).mono ?_
  rintro e w ⟨r1, p1, rfl, hr1, hp1, hq1, hs1, hst⟩
  clear HS
  have HS := Lib.hid hst
  clear hst
  go_wp2_with fail
  refine (next_own (front := (b2, 29, [.int .i64 0, .int .i64 0, .int .i64 0, .int .i64 0]) :: front) 2 HS.out HB.out hq1 hl (by omega) (by omega)).mono ?_
  rintro e w ⟨r2, p2, rfl, hr2, hp2, hq2, hs2, hst⟩
  clear HS
  have HS := Lib.hid hst
  clear hst
  go_wp2_with fail
  refine (next_own (front := (b2, 29, [.int .i64 0, .int .i64 0, .int .i64 0, .int .i64 0]) :: front) 2 HS.out HB.out hq2 hl (by omega) (by omega)).mono ?_
  rintro e w ⟨r3, p3, rfl, hr3, hp3, hq3, hs3, hst⟩
  clear HS
  have HS := Lib.hid hst
  clear hst
  go_wp2_with fail
  refine (next_own (front := (b2, 29, [.int .i64 0, .int .i64 0, .int .i64 0, .int .i64 0]) :: front) 2 HS.out HB.out hq3 hl (by omega) (by omega)).mono ?_
  rintro e w ⟨r4, p4, rfl, hr4, hp4, hq4, hs4, hst⟩
  clear HS
  have HS := Lib.hid hst
  clear hst
  obtain ⟨g, hg⟩ : ∃ g : G, g = ⟨1 + r1, r2, r3, 1 + r4⟩ := ⟨_, rfl⟩
  have hgl : [Value.int .i64 (1 + (r1 : Int)), .int .i64 r2, .int .i64 r3, .int .i64 (1 + (r4 : Int))] = g.lst := by rw [hg]; rfl
  have HGL := Lib.hid hgl
  have HG := Lib.hid hg
  clear hg hgl
  go_wp2_with (refine sx_store_all HS (by rfl) 29 (.tmp 2) (.tmp 14) rfl rfl 0 _ _ _ rfl rfl [.int .i64 (1 + (r1 : Int)), .int .i64 r2, .int .i64 r3, .int .i64 (1 + (r4 : Int))] rfl 4 sh29 rfl rfl rfl ?_; clear HS; intro w HS)
  have hBx : PBox w b2 29 g.lst := by rw [← HGL.out]; exact HS.out.box (i := 0) rfl
  refine bodyPost_ret (results_c rfl rfl (run_load_cells sh29 rfl (fun j u hj => by rw [Nat.zero_add]; exact hBx.cell hj))) rfl ?_
  refine ⟨g, p4, rfl, ?_, hq4, by omega, fun h => by have := hs1 h; omega, HS.out.drop 1⟩
  rw [HG.out]
  unfold small
  dsimp only
  omega
end
/-- What 'New' comes to: a block of the call's own. -/
theorem new_own (a : Option Addr) (len cap : Nat) (w0 w : World) (l : List (Nat × TypeId × List Value)) (hst : St none default w0 w l) (hlc : len ≤ cap) (hmax : cap ≤ maxLen) :
    Calls Try.prog 7 #[.slice a len cap, .int .i64 300] w (fun e w' => ∃ c n : Nat, e = .returned (.pointer (some ⟨c, 0, none⟩)) ∧ n ≤ len ∧ n ≤ 300 ∧ St none default w0 w' ((c, 54, codL a n cap 0) :: l)) := by
  have hm : cap ≤ 9223372036854775807 := hmax
  have HS := Lib.hid hst
  clear hst hmax
  by_cases hl : 300 < len
  · go_enter Try.func7, Try.ntmps7
    go_wp2_with (first | (refine sx_run rfl (.slice a 300 cap) (run_sl_hi (n := len) (s := 1) rfl Try.underlying33 (by kernel_rfl) rfl rfl (by omega) (by unfold sliced; cases a <;> simp)) ?_) | (refine sx_box HS (by rfl) 54 (.tmp 13) rfl (codL a 300 cap 0) rfl ?_; clear HS; intro w c HS))
    go_ret
    exact ⟨c, 300, rfl, by omega, by omega, HS.out⟩
  · go_enter Try.func7, Try.ntmps7
    go_wp2_with (refine sx_box HS (by rfl) 54 (.tmp 13) rfl (codL a len cap 0) rfl ?_; clear HS; intro w c HS)
    go_ret
    exact ⟨c, len, rfl, by omega, by omega, HS.out⟩
end Go.Proofs.Ytnfkplohpjfocaa
