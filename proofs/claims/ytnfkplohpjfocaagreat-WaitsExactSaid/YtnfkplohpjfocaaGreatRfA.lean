/-
  The contracts of grant, Conflict, less and mode of the reference of the table of locks.
-/
import Derived.Test.YtnfkplohpjfocaaGreatPlA
import Derived.Test.YtnfkplohpjfocaaGreatRfC
set_option linter.unusedVariables false
set_option linter.unusedSimpArgs false
namespace Go.Proofs.YtnfkplohpjfocaaGreat
open Go.RowKit
set_option maxHeartbeats 2000000 in
theorem rf_less (a b : G) (w0 : World) : Calls Tryz.prog 60 #[.agg a.arr, .agg b.arr] w0 fun e w' => e = .returned (.bool (ltB a b)) ∧ Ext w0 w' := by
  obtain ⟨a1, a2, a3, a4⟩ := a
  obtain ⟨b1, b2, b3, b4⟩ := b
  unfold G.arr G.lst
  dsimp only
  by_cases h1 : a2 = b2
  · subst h1
    by_cases h2 : a3 = b3
    · subst h2
      go_enter Tryz.func60, Tryz.ntmps60
      go_wp2
      go_ret
      exact ⟨ret_bool (by simp [ltB]), ((Ext.refl _).alloc _).alloc _⟩
    · have HD : Hid (ltB ⟨a1, a2, a3, a4⟩ ⟨b1, a2, b3, b4⟩ = decide (a3 < b3)) := Lib.hid (by simp [ltB, h2])
      go_enter Tryz.func60, Tryz.ntmps60
      go_wp2
      go_ret
      exact ⟨ret_bool HD.out.symm, ((Ext.refl _).alloc _).alloc _⟩
  · have HD : Hid (ltB ⟨a1, a2, a3, a4⟩ ⟨b1, b2, b3, b4⟩ = decide (a2 < b2)) := Lib.hid (by simp [ltB, h1])
    go_enter Tryz.func60, Tryz.ntmps60
    go_wp2
    go_ret
    exact ⟨ret_bool HD.out.symm, ((Ext.refl _).alloc _).alloc _⟩
theorem modeF_at {gs : List G} {t : G} {i : Nat} {x : G} (hx : gs[i]? = some x) (h : sameKey t x = true) (h0 : ∀ (j : Nat) (y : G), j < i → gs[j]? = some y → sameKey t y = false) : modeF gs t = x.mode := by
  unfold modeF
  have : gs.find? (sameKey t) = some x := by
    obtain ⟨hl, rfl⟩ := List.getElem?_eq_some_iff.1 hx
    rw [List.find?_eq_some_iff_getElem]
    exact ⟨h, i, hl, rfl, fun j hj => by simp [h0 j gs[j] hj (List.getElem?_eq_getElem _)]⟩
  rw [this]
theorem modeF_no {gs : List G} {t : G} (h0 : ∀ (j : Nat) (y : G), j < gs.length → gs[j]? = some y → sameKey t y = false) : modeF gs t = 0 := by
  unfold modeF
  have : gs.find? (sameKey t) = none := List.find?_eq_none.2 fun y hy => by
    obtain ⟨j, hj⟩ := List.mem_iff_getElem?.1 hy
    simp [h0 j y (List.getElem?_eq_some_iff.1 hj).1 hj]
  rw [this]
set_option maxHeartbeats 4000000 in
set_option maxRecDepth 100000 in
theorem rf_mode (w0 : World) (vh vw : Value) (hs : List G) (tx p s : Int) (h : GsAt w0 vh hs) (hone : vw.oneCell' = true) : Calls Tryz.prog 38 #[.agg #[vh, vw], .int .i64 tx, .agg #[.int .i64 p, .int .i64 s]] w0 fun e w' => e = .returned (.int .i64 (modeF hs ⟨tx, p, s, 0⟩)) ∧ Ext w0 w' := by
  obtain ⟨aoh, cph, rfl, hc1, hc2, hat⟩ := h.get
  obtain ⟨nh, hn⟩ : ∃ n, n = hs.length := ⟨_, rfl⟩
  rw [← hn] at hc1 hat ⊢
  have HN := Lib.hid hn
  have HAT := Lib.hid hat
  clear hn hat h
  have HS : Hid (St none default w0 w0 []) := St.start w0
  go_enter Tryz.func38, Tryz.ntmps38
  go_wp2_with (first | (refine sx_box HS rfl 25 (.tmp 0) rfl [.slice aoh nh cph, vw] rfl ?_; clear HS; intro w b3 HS) | (refine sx_box HS rfl 27 (.tmp 2) rfl [.int .i64 p, .int .i64 s] rfl ?_; clear HS; intro w b5 HS))
  replace HS : Hid (St none default w0 w [(b5, 27, [.int .i64 p, .int .i64 s]), (b3, 25, [.slice aoh nh cph, vw])]) := HS
  go_loopw [7] (fun s7 wr => ∃ i : Nat, i ≤ nh ∧ s7 = .int .i64 i ∧ Hid (∀ (j : Nat) (y : G), j < i → hs[j]? = some y → sameKey ⟨tx, p, s, 0⟩ y = false) ∧ Hid (St none default w0 wr [(b5, 27, [.int .i64 p, .int .i64 s]), (b3, 25, [.slice aoh nh cph, vw])])) (fun s7 _ => nh - (intOf s7).toNat)
  case atStart => exact ⟨0, Nat.zero_le _, rfl, (fun j x h => absurd h (Nat.not_lt_zero _)), HS⟩
  case round =>
    clear HS
    obtain ⟨i, hi, rfl, HI, HS⟩ := hrel
    by_cases hlt : i < nh
    · obtain ⟨x, hx⟩ := list_get_of_lt hs i nh HN.out.symm hlt
      obtain ⟨g, off, rfl, hcell⟩ := HAT.out (by omega)
      have HC := Lib.hid (hcell i x hx)
      have HX := Lib.hid hx
      clear hcell hx
      go_wp2_with (refine sx_load HS (by rfl) 23 (.tmp 9) rfl 1 _ _ _ rfl 0 rfl _ sh23 (.slice (some ⟨g, off, none⟩) nh cph) rfl ?_)
      have hq := eql_lock x.page x.slot p s
      have c0 : wr.cell? ⟨g, off + i * 4, none⟩ = some (.int .i64 x.tx) := HC.out wr HS.out.isExt 0 _ rfl
      have c1 : wr.cell? ⟨g, off + i * 4 + 1, none⟩ = some (.int .i64 x.page) := HC.out wr HS.out.isExt 1 _ rfl
      have c2 : wr.cell? ⟨g, off + i * 4 + 2, none⟩ = some (.int .i64 x.slot) := HC.out wr HS.out.isExt 2 _ rfl
      have d0 := (HS.out.box (i := 0) rfl).cell (o := 0) (v := .int .i64 p) rfl
      have d1 := (HS.out.box (i := 0) rfl).cell (o := 1) (v := .int .i64 s) rfl
      have e0 := (HS.out.box (i := 1) rfl).cell (o := 0) (v := .slice (some ⟨g, off, none⟩) nh cph) rfl
      cases h1 : (x.tx == tx) with
      | false =>
        have HK : Hid (sameKey ⟨tx, p, s, 0⟩ x = false) := Lib.hid (by simp [sameKey, h1])
        go_quiet (fail)
        replace HS := Lib.hid (HS.out.drewN nq)
        clear c0 c1 c2 d0 d1 e0 hq
        go_wp2_with fail
        go_roundw
        case rel => exact ⟨i + 1, by omega, by go_num, (fun j y hj hy => by
          by_cases e : j = i
          · subst e; have := HX.out.symm.trans hy; cases this; exact HK.out
          · exact HI.out j y (by omega) hy), HS⟩
        case measure => simp [intOf]; omega
      | true =>
        cases h2 : ((x.page == p) && (x.slot == s)) with
        | false =>
          rw [h2] at hq
          have HK : Hid (sameKey ⟨tx, p, s, 0⟩ x = false) := Lib.hid (by unfold sameKey sameLock; rw [h1]; exact h2)
          go_quiet (fail)
          replace HS := Lib.hid (HS.out.drewN nq)
          clear c0 c1 c2 d0 d1 e0 hq
          go_wp2_with fail
          go_roundw
          case rel => exact ⟨i + 1, by omega, by go_num, (fun j y hj hy => by
            by_cases e : j = i
            · subst e; have := HX.out.symm.trans hy; cases this; exact HK.out
            · exact HI.out j y (by omega) hy), HS⟩
          case measure => simp [intOf]; omega
        | true =>
          rw [h2] at hq
          have HK : Hid (sameKey ⟨tx, p, s, 0⟩ x = true) := Lib.hid (by unfold sameKey sameLock; rw [h1]; exact h2)
          have HM : Hid (modeF hs ⟨tx, p, s, 0⟩ = x.mode) := Lib.hid (modeF_at HX.out HK.out HI.out)
          go_quiet (fail)
          replace HS := Lib.hid (HS.out.drewN nq)
          clear c0 c1 c2 d0 d1 e0 hq
          have c3 := HC.out _ HS.out.isExt 3 (.int .i64 x.mode) rfl
          go_wp2_with (refine sx_load HS (by rfl) 23 (.tmp 33) rfl 1 _ _ _ rfl 0 rfl _ sh23 (.slice (some ⟨g, off, none⟩) nh cph) rfl ?_)
          go_ret
          exact ⟨ret_int HM.out.symm, HS.out.isExt⟩
    · have hin : i = nh := by omega
      subst hin
      go_wp2_with (refine sx_load HS (by rfl) 23 (.tmp 9) rfl 1 _ _ _ rfl 0 rfl _ sh23 (.slice aoh i cph) rfl ?_)
      go_ret
      refine ⟨ret_int ?_, HS.out.isExt⟩
      rw [modeF_no (fun j y hj hy => HI.out j y (by rw [HN.out]; exact hj) hy)]
end Go.Proofs.YtnfkplohpjfocaaGreat
