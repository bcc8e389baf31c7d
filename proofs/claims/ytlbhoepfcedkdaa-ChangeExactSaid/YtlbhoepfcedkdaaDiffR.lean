/-
  The contract of pagemendref03.Diff.
-/
import Derived.Test.YtlbhoepfcedkdaaDiffC
namespace Go.Proofs.Ytlbhoepfcedkdaa
open Go.RowKit
set_option maxHeartbeats 4000000 in
set_option maxRecDepth 100000 in
theorem rf_diff (a b : Pg) (w0 : World) (ha : a.cells.length = 16) (hb : b.cells.length = 16) : Calls Try.prog 27 #[.agg a.arr, .agg b.arr] w0 (DiffPost a b w0) := by
  have HA := Lib.hid ha
  have HB := Lib.hid hb
  clear ha hb
  have HS : Hid (St none default w0 w0 []) := St.start w0
  go_enter Try.func27, Try.ntmps27
  go_upto_region 1 with (first | (refine sx_box HS rfl _ _ rfl a.lst rfl ?_; clear HS; intro w b2 HS) | (refine sx_box HS rfl _ _ rfl b.lst rfl ?_; clear HS; intro w b3 HS))
  cases hid : (a.id == b.id) with
  | false =>
    have hid' : (a.id != b.id) = true := by simp [bne, hid]
    go_wp2_with (first | (refine sx_load HS rfl 3 _ rfl 1 _ _ _ rfl 0 rfl _ sh3 (.int .i64 a.id) rfl ?_) | (refine sx_load HS rfl 3 _ rfl 0 _ _ _ rfl 0 rfl _ sh3 (.int .i64 b.id) rfl ?_))
    go_ret2
    exact ⟨.slice none 0 0, [], by simp only [diffF, hid, Bool.true_eq_false, Bool.false_and, Bool.and_false, if_true, if_false]; rfl, HS.out.sub (List.nil_sublist _), by simp only [diffF, hid, Bool.true_eq_false, Bool.false_and, Bool.and_false, if_true, if_false]; exact RowEnt.nil⟩
  | true =>
    have hid' : (a.id != b.id) = false := by simp [bne, hid]
    by_cases h0 : a.id < 0
    · have hpg : pagedB a.id = false := by simp [pagedB]; omega
      go_wp2_with (first | (refine sx_load HS rfl 3 _ rfl 1 _ _ _ rfl 0 rfl _ sh3 (.int .i64 a.id) rfl ?_) | (refine sx_load HS rfl 3 _ rfl 0 _ _ _ rfl 0 rfl _ sh3 (.int .i64 b.id) rfl ?_))
      go_ret2
      exact ⟨.slice none 0 0, [], by simp only [diffF, hid, hpg, Bool.true_eq_false, Bool.false_and, Bool.and_false, if_true, if_false]; rfl, HS.out.sub (List.nil_sublist _), by simp only [diffF, hid, hpg, Bool.true_eq_false, Bool.false_and, Bool.and_false, if_true, if_false]; exact RowEnt.nil⟩
    · by_cases h64 : a.id ≥ 64
      · have hpg : pagedB a.id = false := by simp [pagedB]; omega
        go_wp2_with (first | (refine sx_load HS rfl 3 _ rfl 1 _ _ _ rfl 0 rfl _ sh3 (.int .i64 a.id) rfl ?_) | (refine sx_load HS rfl 3 _ rfl 0 _ _ _ rfl 0 rfl _ sh3 (.int .i64 b.id) rfl ?_))
        go_ret2
        exact ⟨.slice none 0 0, [], by simp only [diffF, hid, hpg, Bool.true_eq_false, Bool.false_and, Bool.and_false, if_true, if_false]; rfl, HS.out.sub (List.nil_sublist _), by simp only [diffF, hid, hpg, Bool.true_eq_false, Bool.false_and, Bool.and_false, if_true, if_false]; exact RowEnt.nil⟩
      · have hpg : pagedB a.id = true := by simp [pagedB]; omega
        go_wp2_with (first | (refine sx_load HS rfl 3 _ rfl 1 _ _ _ rfl 0 rfl _ sh3 (.int .i64 a.id) rfl ?_) | (refine sx_load HS rfl 3 _ rfl 0 _ _ _ rfl 0 rfl _ sh3 (.int .i64 b.id) rfl ?_))
        obtain ⟨ie, hie, hiz, his, hib⟩ := info_chg
        have HIE := Lib.hid hie
        have HIZ := Lib.hid hiz
        have HIS := Lib.hid his
        have HIB := Lib.hid hib
        clear hie hiz his hib
        replace HS : Hid (St none default w0 w [(b3, 27, b.lst), (b2, 27, a.lst)]) := HS
        go_loopw [6, 7] (fun v i wr => ∃ (k : Nat) (lr : List (Nat × TypeId × List Value)), k ≤ 16 ∧ i = .int .i64 k ∧ Hid (∀ j b1 s1, j < k → a.cells[j]? = some (b1, s1) → cellOkB b1 s1 = true) ∧ Hid (∀ j b1 s1, j < k → b.cells[j]? = some (b1, s1) → cellOkB b1 s1 = true) ∧ Hid (St none default w0 wr (lr ++ [(b3, 27, b.lst), (b2, 27, a.lst)])) ∧ Hid (RowEnt 29 6 lr v (diffL a b k).length (flat (diffL a b k)))) (fun _ i _ => 16 - (intOf i).toNat)
        case atStart => exact ⟨0, [], Nat.zero_le _, rfl, fun j _ _ h => absurd h (Nat.not_lt_zero _), fun j _ _ h => absurd h (Nat.not_lt_zero _), HS, RowEnt.nil⟩
        case round =>
          obtain ⟨k, lr, hk, rfl, HVA, HVB, HS2, HR⟩ := hrel
          clear HS
          have HS := HS2
          clear HS2
          by_cases hlt : k < 16
          · obtain ⟨⟨x1, x2⟩, hx⟩ := list_get_of_lt a.cells k 16 HA.out hlt
            obtain ⟨⟨y1, y2⟩, hy⟩ := list_get_of_lt b.cells k 16 HB.out hlt
            have hca : a.cell k = (x1, x2) := by simp [Pg.cell, hx]
            have hcb : b.cell k = (y1, y2) := by simp [Pg.cell, hy]
            have HX := Lib.hid hx
            have HZ := Lib.hid hy
            have HXX := Lib.hid (Pg.get HA.out k hlt)
            rw [hca] at HXX
            have HY := Lib.hid (Pg.get HB.out k hlt)
            rw [hcb] at HY
            have HCA := Lib.hid hca
            have HCB := Lib.hid hcb
            clear hx hy hca hcb
            go_wp2_with (refine sx_loads HS rfl 24 _ rfl (lr.length + 1) b2 27 a.lst (by simp) (2 + k * 2) rfl 2 sh24 [.bool x1, .string x2] rfl ⟨HXX.out.1, HXX.out.2, trivial⟩ ?_)
            refine (rf_validCell x1 x2 _).mono ?_
            rintro e w ⟨rfl, hx⟩
            replace HS := Lib.hid (HS.out.ext hx)
            clear hx
            cases hva : cellOkB x1 x2 with
            | false =>
              have hra := right_no HX.out hva
              go_wp2_with fail
              go_ret2
              exact ⟨.slice none 0 0, [], by simp only [diffF, hid, hpg, hra, Bool.true_eq_false, Bool.false_and, Bool.and_false, if_true, if_false]; rfl, HS.out.sub (List.nil_sublist _), by simp only [diffF, hid, hpg, hra, Bool.true_eq_false, Bool.false_and, Bool.and_false, if_true, if_false]; exact RowEnt.nil⟩
            | true =>
              go_wp2_with (refine sx_loads HS rfl 24 _ rfl lr.length b3 27 b.lst (by simp) (2 + k * 2) rfl 2 sh24 [.bool y1, .string y2] rfl ⟨HY.out.1, HY.out.2, trivial⟩ ?_)
              refine (rf_validCell y1 y2 _).mono ?_
              rintro e w ⟨rfl, hx⟩
              replace HS := Lib.hid (HS.out.ext hx)
              clear hx
              cases hvb : cellOkB y1 y2 with
              | false =>
                have hrb := right_no HZ.out hvb
                go_wp2_with fail
                go_ret2
                exact ⟨.slice none 0 0, [], by simp only [diffF, hid, hpg, hrb, Bool.true_eq_false, Bool.false_and, Bool.and_false, if_true, if_false]; rfl, HS.out.sub (List.nil_sublist _), by simp only [diffF, hid, hpg, hrb, Bool.true_eq_false, Bool.false_and, Bool.and_false, if_true, if_false]; exact RowEnt.nil⟩
              | true =>
                have HVA2 : Hid (∀ j b1 s1, j < k + 1 → a.cells[j]? = some (b1, s1) → cellOkB b1 s1 = true) := fun j b1 s1 hj hjs => by
                  by_cases e : j = k
                  · subst e; have := HX.out.symm.trans hjs; cases this; exact hva
                  · exact HVA.out j b1 s1 (by omega) hjs
                have HVB2 : Hid (∀ j b1 s1, j < k + 1 → b.cells[j]? = some (b1, s1) → cellOkB b1 s1 = true) := fun j b1 s1 hj hjs => by
                  by_cases e : j = k
                  · subst e; have := HZ.out.symm.trans hjs; cases this; exact hvb
                  · exact HVB.out j b1 s1 (by omega) hjs
                clear hva hvb
                go_upto_region 11 with fail
                have HQ := HS.out.sub (l := [(b3, 27, b.lst), (b2, 27, a.lst)]) (by simp)
                have k0 := (HQ.box (i := 0) rfl).cell HY.out.1
                have k1 := (HQ.box (i := 0) rfl).cell HY.out.2
                have g0 := (HQ.box (i := 1) rfl).cell HXX.out.1
                have g1 := (HQ.box (i := 1) rfl).cell HXX.out.2
                clear HQ
                have hq := fun w => neq_cell x1 y1 x2 y2 w
                cases hce : cellEqB (x1, x2) (y1, y2) with
                | true =>
                  go_quiet (fail)
                  replace HS := Lib.hid (HS.out.drewN nq)
                  clear g0 g1 k0 k1 hq
                  have hds : diffL a b (k + 1) = diffL a b k := diffL_same (by rw [HCA.out, HCB.out]; exact hce)
                  have HD := Lib.hid hds
                  clear hds hce
                  go_wp2_with fail
                  go_roundw
                  case rel => exact ⟨k + 1, lr, by omega, by go_num, HVA2, HVB2, HS, by rw [HD.out]; exact HR⟩
                  case measure => simp [intOf]; omega
                | false =>
                  go_quiet (fail)
                  replace HS := Lib.hid (HS.out.drewN nq)
                  clear g0 g1 k0 k1 hq
                  have hds : diffL a b (k + 1) = diffL a b k ++ [⟨a.id, k, x1, x2, y1, y2⟩] := by rw [diffL_more (by rw [HCA.out, HCB.out]; exact hce)]; unfold diffAt; rw [HCA.out, HCB.out]
                  have HD := Lib.hid hds
                  have hle := diffL_len a b k
                  clear hds hce
                  go_wp2_with fail
                  refine hg_begin [(b3, 27, b.lst), (b2, 27, a.lst)] HS (by kernel_rfl) ?_
                  clear HS; intro w HS
                  refine hg_reg 0 (some 48) rfl rfl (by kernel_rfl) (by kernel_rfl) (by kernel_rfl) (fun _ _ _ _ h => h) HS (by simp) _ rfl (fun _ => by rfl) ?_
                  try simp only [Act.put, List.setIfInBounds_toArray, List.set_cons_zero, List.set_cons_succ]
                  refine hg_reg 1 (some 49) rfl rfl (by kernel_rfl) (by kernel_rfl) (by kernel_rfl) (fun _ _ _ _ h => h) HS (by simp) (.pointer (some ⟨b2, 0, none⟩)) rfl (fun _ => by go_simp) ?_
                  try simp only [Act.put, List.setIfInBounds_toArray, List.set_cons_zero, List.set_cons_succ]
                  refine hg_load 2 (some 50) rfl rfl (by kernel_rfl) (by kernel_rfl) (by kernel_rfl) (fun _ _ _ _ h => h) HS (by simp) rfl 3 _ rfl 1 _ _ _ rfl 0 rfl _ sh3 (.int .i64 a.id) rfl ?_
                  try simp only [Act.put, List.setIfInBounds_toArray, List.set_cons_zero, List.set_cons_succ]
                  refine hg_reg 3 (some 51) rfl rfl (by kernel_rfl) (by kernel_rfl) (by kernel_rfl) (fun _ _ _ _ h => h) HS (by simp) _ rfl (fun _ => by rfl) ?_
                  try simp only [Act.put, List.setIfInBounds_toArray, List.set_cons_zero, List.set_cons_succ]
                  refine hg_reg 4 (some 52) rfl rfl (by kernel_rfl) (by kernel_rfl) (by kernel_rfl) (fun _ _ _ _ h => h) HS (by simp) _ rfl (fun _ => by rfl) ?_
                  try simp only [Act.put, List.setIfInBounds_toArray, List.set_cons_zero, List.set_cons_succ]
                  refine hg_reg 5 (some 53) rfl rfl (by kernel_rfl) (by kernel_rfl) (by kernel_rfl) (fun _ _ _ _ h => h) HS (by simp) (.pointer (some ⟨b2, 2, none⟩)) rfl (fun _ => by go_simp) ?_
                  try simp only [Act.put, List.setIfInBounds_toArray, List.set_cons_zero, List.set_cons_succ]
                  refine hg_reg 6 (some 54) rfl rfl (by kernel_rfl) (by kernel_rfl) (by kernel_rfl) (fun _ _ _ _ h => h) HS (by simp) (.pointer (some ⟨b2, 2 + k * 2, none⟩)) rfl (fun _ => by go_simp) ?_
                  try simp only [Act.put, List.setIfInBounds_toArray, List.set_cons_zero, List.set_cons_succ]
                  refine hg_loads 7 (some 55) rfl rfl (by kernel_rfl) (by kernel_rfl) (by kernel_rfl) (fun _ _ _ _ h => h) HS (by simp) rfl 24 _ rfl 1 _ _ _ rfl (2 + k * 2) rfl 2 sh24 [.bool x1, .string x2] rfl ⟨HXX.out.1, HXX.out.2, trivial⟩ ?_
                  try simp only [Act.put, List.setIfInBounds_toArray, List.set_cons_zero, List.set_cons_succ]
                  refine hg_reg 8 (some 56) rfl rfl (by kernel_rfl) (by kernel_rfl) (by kernel_rfl) (fun _ _ _ _ h => h) HS (by simp) _ rfl (fun _ => by rfl) ?_
                  try simp only [Act.put, List.setIfInBounds_toArray, List.set_cons_zero, List.set_cons_succ]
                  refine hg_reg 9 (some 57) rfl rfl (by kernel_rfl) (by kernel_rfl) (by kernel_rfl) (fun _ _ _ _ h => h) HS (by simp) (.pointer (some ⟨b3, 2, none⟩)) rfl (fun _ => by go_simp) ?_
                  try simp only [Act.put, List.setIfInBounds_toArray, List.set_cons_zero, List.set_cons_succ]
                  refine hg_reg 10 (some 58) rfl rfl (by kernel_rfl) (by kernel_rfl) (by kernel_rfl) (fun _ _ _ _ h => h) HS (by simp) (.pointer (some ⟨b3, 2 + k * 2, none⟩)) rfl (fun _ => by go_simp) ?_
                  try simp only [Act.put, List.setIfInBounds_toArray, List.set_cons_zero, List.set_cons_succ]
                  refine hg_loads 11 (some 59) rfl rfl (by kernel_rfl) (by kernel_rfl) (by kernel_rfl) (fun _ _ _ _ h => h) HS (by simp) rfl 24 _ rfl 0 _ _ _ rfl (2 + k * 2) rfl 2 sh24 [.bool y1, .string y2] rfl ⟨HY.out.1, HY.out.2, trivial⟩ ?_
                  try simp only [Act.put, List.setIfInBounds_toArray, List.set_cons_zero, List.set_cons_succ]
                  refine hg_reg 12 (some 60) rfl rfl (by kernel_rfl) (by kernel_rfl) (by kernel_rfl) (fun _ _ _ _ h => h) HS (by simp) (.agg #[.int .i64 a.id, .int .i64 k, .bool x1, .string x2, .bool y1, .string y2]) rfl (fun _ => by go_simp) ?_
                  try simp only [Act.put, List.setIfInBounds_toArray, List.set_cons_zero, List.set_cons_succ]
                  refine hk_x1 13 (by kernel_rfl) ?_
                  refine hg_build 13 (some 61) rfl rfl rfl HS (by simp) 50 29 1 [(0, .tmp 60)] rfl [(0, .agg #[.int .i64 a.id, .int .i64 k, .bool x1, .string x2, .bool y1, .string y2])] rfl (Chg.lst (⟨a.id, k, x1, x2, y1, y2⟩ : Chg)) (fun w => build_chg (⟨a.id, k, x1, x2, y1, y2⟩ : Chg) w) ?_
                  clear HS; intro w b61 HS
                  try simp only [Act.put, List.setIfInBounds_toArray, List.set_cons_zero, List.set_cons_succ]
                  refine hk_x1 14 (by kernel_rfl) ?_
                  refine hg_append 14 (some 62) rfl rfl rfl (front := [(b61, 29, Chg.lst (⟨a.id, k, x1, x2, y1, y2⟩ : Chg))]) (lr := lr) (ll := [(b3, 27, b.lst), (b2, 27, a.lst)]) HS (fun _ => by simp) _ _ 50 rfl 29 ie _ 6 _ Try.underlying50 HIE.out HIZ.out HIS.out rfl rfl (by decide) _ (diffL a b k).length (flat (diffL a b k)) rfl HR.out 0 b61 1 29 1 (Chg.lst (⟨a.id, k, x1, x2, y1, y2⟩ : Chg)) rfl rfl rfl rfl (by unfold maxLen; omega) (Nat.le_trans (Nat.mul_le_mul (show (diffL a b k).length + 1 ≤ 100 by omega) HIB.out) (by decide)) ?_
                  clear HS HR; intro vv w lq HS HR
                  try simp only [Act.put, List.setIfInBounds_toArray, List.set_cons_zero, List.set_cons_succ]
                  refine hg_reg 15 (some 6) rfl rfl (by kernel_rfl) (by kernel_rfl) (by kernel_rfl) (fun _ _ _ _ h => h) HS (by simp) _ rfl (fun _ => by rfl) ?_
                  try simp only [Act.put, List.setIfInBounds_toArray, List.set_cons_zero, List.set_cons_succ]
                  refine hk_done (by kernel_rfl) ?_
                  go_wp2_with fail
                  go_roundw
                  case rel => exact ⟨k + 1, lq, by omega, by go_num, HVA2, HVB2, Lib.hid (HS.out.drop 1), by rw [HD.out, flat_snoc, List.length_append]; exact HR⟩
                  case measure => simp [intOf]; omega
          · have hk16 : k = 16 := by omega
            subst hk16
            have hra := right_yes HA.out HVA.out
            have hrb := right_yes HB.out HVB.out
            go_wp2_with fail
            go_ret2
            exact ⟨_, lr, by simp only [diffF, hid, hpg, hra, hrb, Bool.and_self, Bool.true_eq_false, if_false]; rfl, HS.out.sub (List.sublist_append_left _ _), by simp only [diffF, hid, hpg, hra, hrb, Bool.and_self, Bool.true_eq_false, if_false]; exact HR.out⟩
end Go.Proofs.Ytlbhoepfcedkdaa
