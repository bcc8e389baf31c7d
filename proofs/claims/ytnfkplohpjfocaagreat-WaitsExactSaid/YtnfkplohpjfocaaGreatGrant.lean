/-
  Grants: plain, and the contracts of what compares them.
-/
import Derived.Test.YtnfkplohpjfocaaGreatAppA
import Derived.Test.YtnfkplohpjfocaaGreatTab
import Derived.Test.YtnfkplohpjfocaaGreatBaA
import Derived.BigRegion
set_option linter.unusedVariables false
set_option linter.unusedSimpArgs false
namespace Go.Proofs.YtnfkplohpjfocaaGreat
open Go.RowKit
structure G where
  tx : Int
  page : Int
  slot : Int
  mode : Int
def G.lst (g : G) : List Value := [.int .i64 g.tx, .int .i64 g.page, .int .i64 g.slot, .int .i64 g.mode]
abbrev G.arr (g : G) : Array Value := g.lst.toArray
theorem G.ext {a b : G} (h1 : a.tx = b.tx) (h2 : a.page = b.page) (h3 : a.slot = b.slot) (h4 : a.mode = b.mode) : a = b := by
  cases a; cases b; simp_all
def sameLock (a b : G) : Bool := (a.page == b.page) && (a.slot == b.slot)
def conflictB (a b : G) : Bool := (a.tx != b.tx) && sameLock a b && ((a.mode == 2) || (b.mode == 2))
def validG (g : G) : Bool := decide (1 ≤ g.tx) && decide (g.tx ≤ 1073741824) && decide (0 ≤ g.page) && decide (g.page < 64) && decide (0 ≤ g.slot) && decide (g.slot < 16) && ((g.mode == 1) || (g.mode == 2))
def cmpI (x y : Int) : Int := if x < y then -1 else if y < x then 1 else 0
def ordI (a b : G) : Int := if cmpI a.page b.page ≠ 0 then cmpI a.page b.page else if cmpI a.slot b.slot ≠ 0 then cmpI a.slot b.slot else cmpI a.tx b.tx
/-- A slice that reads as these grants. -/
def GsAt (w : World) (v : Value) (gs : List G) : Prop := SlAt w 4 v (gs.map G.lst)
theorem GsAt.ext {w w' : World} {v : Value} {gs : List G} (h : GsAt w v gs) (k : Ext w w') : GsAt w' v gs := SlAt.ext h k
theorem GsAt.get {w0 : World} {v : Value} {gs : List G} (h : GsAt w0 v gs) : ∃ ao cap, v = .slice ao gs.length cap ∧ gs.length ≤ cap ∧ cap ≤ 9223372036854775807 ∧ (0 < gs.length → ∃ g off, ao = some ⟨g, off, none⟩ ∧ ∀ (i : Nat) (x : G), gs[i]? = some x → ∀ w, Ext w0 w → ∀ (j : Nat) (u : Value), x.lst[j]? = some u → w.cell? ⟨g, off + i * 4 + j, none⟩ = some u) := by
  obtain ⟨ao, cap, h1, h2, h3, h4⟩ := SlAt.get h
  rw [List.length_map] at h1 h2 h4
  refine ⟨ao, cap, h1, h2, h3, fun hn => ?_⟩
  obtain ⟨g, off, h5, h6⟩ := h4 hn
  exact ⟨g, off, h5, fun i x hx w k j u hj => h6 i x.lst (by simp [hx]) w k j u hj⟩
/-- The order, plainly. -/
def ltG (a b : G) : Prop := a.page < b.page ∨ (a.page = b.page ∧ (a.slot < b.slot ∨ (a.slot = b.slot ∧ a.tx < b.tx)))
theorem ordI_lt {a b : G} : ordI a b < 0 ↔ ltG a b := by
  unfold ordI cmpI ltG
  by_cases h1 : a.page < b.page
  · simp [h1]
  · by_cases h2 : b.page < a.page
    · simp [h1, h2]; omega
    · by_cases h3 : a.slot < b.slot
      · simp [h1, h2, h3]; omega
      · by_cases h4 : b.slot < a.slot
        · simp [h1, h2, h3, h4]; omega
        · simp only [h1, h2, h3, h4, if_false]
          by_cases h5 : a.tx < b.tx
          · simp [h5]; omega
          · by_cases h6 : b.tx < a.tx
            · simp [h5, h6]
            · simp [h5, h6]
theorem ordI_zero {a b : G} : ordI a b = 0 ↔ a.page = b.page ∧ a.slot = b.slot ∧ a.tx = b.tx := by
  unfold ordI cmpI
  by_cases h1 : a.page < b.page
  · simp [h1]; omega
  · by_cases h2 : b.page < a.page
    · simp [h1, h2]; omega
    · by_cases h3 : a.slot < b.slot
      · simp [h1, h2, h3]; omega
      · by_cases h4 : b.slot < a.slot
        · simp [h1, h2, h3, h4]; omega
        · simp only [h1, h2, h3, h4, if_false]
          by_cases h5 : a.tx < b.tx
          · simp [h5]; omega
          · by_cases h6 : b.tx < a.tx
            · simp [h5, h6]; omega
            · simp [h5, h6]; omega
theorem ltG_trans {a b c : G} (h : ltG a b) (k : ltG b c) : ltG a c := by unfold ltG at *; omega
def sortedG (gs : List G) : Prop := gs.Pairwise ltG
set_option maxHeartbeats 400000 in
theorem isNaN_any (n : Int) (w : World) : Calls Tryz.prog 76 #[.int .i64 n] w fun e w' => e = .returned (.bool false) ∧ w = w' := by
  have h : (n != n) = false := bne_self_eq_false _
  go_enter Tryz.func76, Tryz.ntmps76
  go_wp2
  go_ret
  exact ⟨rfl, rfl⟩
set_option maxHeartbeats 400000 in
theorem compare_any (x y : Int) (w : World) : Calls Tryz.prog 53 #[.int .i64 x, .int .i64 y] w fun e w' => e = .returned (.int .i64 (cmpI x y)) ∧ w = w' := by
  go_enter Tryz.func53, Tryz.ntmps53
  go_wp2_with (go_at_call 76; refine (isNaN_any _ _).mono ?_; rintro e w' ⟨rfl, rfl⟩)
  all_goals go_ret
  all_goals refine ⟨ret_int ?_, rfl⟩
  all_goals unfold cmpI
  all_goals (repeat (first | rw [if_pos (by assumption)] | rw [if_neg (by omega)]))
theorem info_int : ∃ ie, Tryz.prog.info? 3 = some ie ∧ ie.zero = some (.int .i64 0) ∧ ie.size = 1 ∧ ie.bytes ≤ 1000000 := by
  cases hie : Tryz.prog.info? 3 with
  | none => have h := zr3; rw [hie] at h; cases h
  | some ie =>
    have h1 := zr3
    have h2 : (Tryz.prog.info? 3).map (fun i => (i.size, Nat.ble i.bytes 1000000)) = some (1, true) := by kernel_rfl
    rw [hie] at h1 h2
    simp at h2
    exact ⟨ie, rfl, h1, h2.1, h2.2⟩
theorem build_ints3 (a b c : Int) (w : World) : (Instr.buildSlice 38 3 ([(0, .int .i64 a), (1, .int .i64 b), (2, .int .i64 c)] : List (Nat × Value)).toArray).run Tryz.prog w = .ok (.slice (some ⟨w.heap.size, 0, none⟩) 3 3) (w.alloc (.cells [.int .i64 a, .int .i64 b, .int .i64 c].toArray 3)) := by
  obtain ⟨ie, hie, hz, hs, _⟩ := info_int
  refine run_buildSlice w 38 3 3 _ _ ie _ Tryz.underlying38 hie hz (by rw [hs]; decide) (by rw [hs]; decide) ?_
  rw [hs]
  have hr : Array.range (3 * 1) = #[0, 1, 2] := by decide
  rw [hr]
  simp [Instr.fill, Value.cells]
def or3 (a b c : Int) : Int := if a ≠ 0 then a else if b ≠ 0 then b else c
set_option maxHeartbeats 1000000 in
theorem or_any (g : Nat) (a b c : Int) (w : World) (h0 : w.cell? ⟨g, 0, none⟩ = some (.int .i64 a)) (h1 : w.cell? ⟨g, 1, none⟩ = some (.int .i64 b)) (h2 : w.cell? ⟨g, 2, none⟩ = some (.int .i64 c)) : Calls Tryz.prog 63 #[.slice (some ⟨g, 0, none⟩) 3 3] w fun e w' => e = .returned (.int .i64 (or3 a b c)) ∧ w = w' := by
  go_enter Tryz.func63, Tryz.ntmps63
  go_wp2
  go_loop [8] (fun s => ∃ k : Nat, k ≤ 3 ∧ s = .int .i64 k ∧ (0 < k → a = 0) ∧ (1 < k → b = 0) ∧ (2 < k → c = 0)) (fun s => 3 - (intOf s).toNat)
  case atStart => exact ⟨0, by omega, rfl, (fun h => by omega), (fun h => by omega), fun h => by omega⟩
  case round =>
    obtain ⟨k, hk, rfl, ha, hb, hc⟩ := hrel
    have h4 : k = 0 ∨ k = 1 ∨ k = 2 ∨ k = 3 := by omega
    rcases h4 with rfl | rfl | rfl | rfl
    · clear ha hb hc hk
      by_cases h : a = 0
      · subst h
        go_wp2
        go_round
        case rel => exact ⟨1, by omega, by go_num, (by simp), (fun h => by omega), fun h => by omega⟩
        case measure => simp [intOf]
      · have d : (a != 0) = true := by simp [h]
        go_wp2
        go_ret
        exact ⟨ret_int (by unfold or3; rw [if_pos h]), rfl⟩
    · have ha0 := ha (by omega)
      subst ha0
      clear ha hb hc hk
      by_cases h : b = 0
      · subst h
        go_wp2
        go_round
        case rel => exact ⟨2, by omega, by go_num, (by simp), (by simp), fun h => by omega⟩
        case measure => simp [intOf]
      · have d : (b != 0) = true := by simp [h]
        go_wp2
        go_ret
        exact ⟨ret_int (by unfold or3; rw [if_neg (by simp), if_pos h]), rfl⟩
    · have ha0 := ha (by omega)
      have hb0 := hb (by omega)
      subst ha0 hb0
      clear ha hb hc hk
      by_cases h : c = 0
      · subst h
        go_wp2
        go_round
        case rel => exact ⟨3, by omega, by go_num, (by simp), (by simp), by simp⟩
        case measure => simp [intOf]
      · have d : (c != 0) = true := by simp [h]
        go_wp2
        go_ret
        exact ⟨ret_int (by unfold or3; rw [if_neg (by simp), if_neg (by simp)]), rfl⟩
    · have ha0 := ha (by omega)
      have hb0 := hb (by omega)
      have hc0 := hc (by omega)
      subst ha0 hb0 hc0
      clear ha hb hc hk
      go_wp2
      go_ret
      exact ⟨ret_int (by unfold or3; rw [if_neg (by simp), if_neg (by simp)]), rfl⟩
end Go.Proofs.YtnfkplohpjfocaaGreat
