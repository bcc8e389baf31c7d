/-
  The contract of OddPage: some page, and the row of choices alone changes.
-/
import Derived.Test.YtlbhoepfcedkdaaIntD
import Derived.BigRegion
namespace Go.Proofs.Ytlbhoepfcedkdaa
open Go.RowKit
def OddPost (q : CodeRow) (c : Nat) (w : World) (e : Ending) (w' : World) : Prop := ∃ p : Pg, e = .returned (.agg p.arr) ∧ p.cells.length = 16 ∧ Only c w w' ∧ CodesAt q w' c
set_option maxHeartbeats 2000000 in
set_option maxRecDepth 100000 in
theorem oddPage_any (q : CodeRow) (c : Nat) (p : Pg) (hp : p.cells.length = 16) (w0 : World) (hcd : CodesAt q w0 c) : Calls Try.prog 21 #[.pointer (some ⟨c, 0, none⟩), .agg p.arr] w0 (OddPost q c w0) := by
  have HS : Hid (St (some c) q w0 w0 []) := St.startC hcd
  have HP := Lib.hid hp
  clear hcd hp
  go_enter Try.func21, Try.ntmps21
  go_wp2_with (first | (refine sx_box HS rfl _ _ rfl p.lst rfl ?_; clear HS; intro w b3 HS) | (refine sx_alloc HS rfl 27 rfl _ zero_page ?_; clear HS; intro w b4 HS))
  refine (next_any q c 4 _ HS.out.code (by omega)).mono ?_
  rintro e w ⟨r, rfl, hr, _, ho, hcd⟩
  replace HS := Lib.hid (HS.out.draws ho hcd)
  clear ho hcd
  have h4 : r = 0 ∨ r = 1 ∨ r = 2 ∨ r = 3 := by have := hr (by omega); omega
  clear hr
  rcases h4 with rfl | rfl | rfl | rfl
  · go_wp2_with fail
    refine (int_any q c _ HS.out.code).mono ?_
    rintro e w ⟨i, rfl, ho, hcd⟩
    replace HS := Lib.hid (HS.out.draws ho hcd)
    clear ho hcd
    go_upto_region 10 with (refine sx_store HS rfl 3 _ _ rfl rfl 1 _ _ _ rfl 0 rfl sh3 (.int .i64 i) rfl rfl rfl ?_; clear HS; intro w HS)
    replace HS : Hid (St (some c) q w0 w [(b4, 27, pgLst 0 0 blankCells), (b3, 27, (⟨i, p.lsn, p.cells⟩ : Pg).lst)]) := HS
    have HN : Hid ((⟨i, p.lsn, p.cells⟩ : Pg).cells.length = 16) := HP
    go_wp2_with (first | (refine sx_load_all HS rfl 27 _ rfl 1 _ _ _ rfl rfl 34 sh27 (lst_len HN.out) ?_) | (refine sx_store_all HS rfl 27 _ _ rfl rfl 0 _ _ _ rfl rfl (⟨i, p.lsn, p.cells⟩ : Pg).lst rfl 34 sh27 (lst_len HN.out) (by rw [lst_len HN.out]; rfl) (pgLst_one _ _ _) ?_; clear HS; intro w HS))
    exact bodyPost_ret (results_c Try.results21 rfl (pg_run (p := ⟨i, p.lsn, p.cells⟩) HN.out (HS.out.box (i := 0) rfl))) rfl ⟨⟨i, p.lsn, p.cells⟩, rfl, HN.out, HS.out.isOnly, HS.out.code⟩
  · go_wp2_with fail
    refine (int_any q c _ HS.out.code).mono ?_
    rintro e w ⟨i, rfl, ho, hcd⟩
    replace HS := Lib.hid (HS.out.draws ho hcd)
    clear ho hcd
    go_upto_region 10 with (refine sx_store HS rfl 3 _ _ rfl rfl 1 _ _ _ rfl 1 rfl sh3 (.int .i64 i) rfl rfl rfl ?_; clear HS; intro w HS)
    replace HS : Hid (St (some c) q w0 w [(b4, 27, pgLst 0 0 blankCells), (b3, 27, (⟨p.id, i, p.cells⟩ : Pg).lst)]) := HS
    have HN : Hid ((⟨p.id, i, p.cells⟩ : Pg).cells.length = 16) := HP
    go_wp2_with (first | (refine sx_load_all HS rfl 27 _ rfl 1 _ _ _ rfl rfl 34 sh27 (lst_len HN.out) ?_) | (refine sx_store_all HS rfl 27 _ _ rfl rfl 0 _ _ _ rfl rfl (⟨p.id, i, p.cells⟩ : Pg).lst rfl 34 sh27 (lst_len HN.out) (by rw [lst_len HN.out]; rfl) (pgLst_one _ _ _) ?_; clear HS; intro w HS))
    exact bodyPost_ret (results_c Try.results21 rfl (pg_run (p := ⟨p.id, i, p.cells⟩) HN.out (HS.out.box (i := 0) rfl))) rfl ⟨⟨p.id, i, p.cells⟩, rfl, HN.out, HS.out.isOnly, HS.out.code⟩
  · skip
    go_wp2_with fail
    refine (next_any q c 16 _ HS.out.code (by omega)).mono ?_
    rintro e w ⟨r16, rfl, hr, _, ho, hcd⟩
    replace HS := Lib.hid (HS.out.draws ho hcd)
    have hr16 : r16 < 16 := by have := hr (by omega); omega
    clear ho hcd hr
    go_wp2_with fail
    refine (next_any q c 2 _ HS.out.code (by omega)).mono ?_
    rintro e w ⟨r2, rfl, hr, _, ho, hcd⟩
    replace HS := Lib.hid (HS.out.draws ho hcd)
    have hr2 : r2 < 2 := by have := hr (by omega); omega
    clear ho hcd hr
    go_wp2_with fail
    refine (data_any q c _ HS.out.code).mono ?_
    rintro e w ⟨s, rfl, hs, ho, hcd⟩
    replace HS := Lib.hid (HS.out.draws ho hcd)
    clear ho hcd
    go_upto_region 10 with (refine sx_stores HS rfl 24 _ _ rfl rfl 1 _ _ _ rfl (2 + r16 * 2) rfl 2 sh24 [.bool ((r2 : Int) == 1), .string s] rfl rfl rfl (by rw [lst_len HP.out]; exact Nat.ble_eq_true_of_le (by omega)) ?_; clear HS; intro w HS)
    have e : putCells p.lst (2 + r16 * 2) [.bool ((r2 : Int) == 1), Value.string s] = (⟨p.id, p.lsn, p.cells.set r16 (((r2 : Int) == 1), s)⟩ : Pg).lst := pgLst_set _ _ _ _ _ _
    replace HS : Hid (St (some c) q w0 w [(b4, 27, pgLst 0 0 blankCells), (b3, 27, putCells p.lst (2 + r16 * 2) [.bool ((r2 : Int) == 1), Value.string s])]) := HS
    rw [e] at HS
    clear e
    have HN : Hid ((⟨p.id, p.lsn, p.cells.set r16 (((r2 : Int) == 1), s)⟩ : Pg).cells.length = 16) := by have := HP.out; show _ = _; simp [this]
    go_wp2_with (first | (refine sx_load_all HS rfl 27 _ rfl 1 _ _ _ rfl rfl 34 sh27 (lst_len HN.out) ?_) | (refine sx_store_all HS rfl 27 _ _ rfl rfl 0 _ _ _ rfl rfl (⟨p.id, p.lsn, p.cells.set r16 (((r2 : Int) == 1), s)⟩ : Pg).lst rfl 34 sh27 (lst_len HN.out) (by rw [lst_len HN.out]; rfl) (pgLst_one _ _ _) ?_; clear HS; intro w HS))
    exact bodyPost_ret (results_c Try.results21 rfl (pg_run (p := ⟨p.id, p.lsn, p.cells.set r16 (((r2 : Int) == 1), s)⟩) HN.out (HS.out.box (i := 0) rfl))) rfl ⟨⟨p.id, p.lsn, p.cells.set r16 (((r2 : Int) == 1), s)⟩, rfl, HN.out, HS.out.isOnly, HS.out.code⟩
  · skip
    go_wp2_with fail
    refine (next_any q c 16 _ HS.out.code (by omega)).mono ?_
    rintro e w ⟨r16, rfl, hr, _, ho, hcd⟩
    replace HS := Lib.hid (HS.out.draws ho hcd)
    have hr16 : r16 < 16 := by have := hr (by omega); omega
    clear ho hcd hr
    go_wp2_with fail
    refine (cell_any q c _ HS.out.code).mono ?_
    rintro e w ⟨nb, s, rfl, hs, hs2, ho, hcd⟩
    replace HS := Lib.hid (HS.out.draws ho hcd)
    clear ho hcd hs2
    go_upto_region 10 with (refine sx_stores HS rfl 24 _ _ rfl rfl 1 _ _ _ rfl (2 + r16 * 2) rfl 2 sh24 [.bool nb, .string s] rfl rfl rfl (by rw [lst_len HP.out]; exact Nat.ble_eq_true_of_le (by omega)) ?_; clear HS; intro w HS)
    have e : putCells p.lst (2 + r16 * 2) [.bool nb, Value.string s] = (⟨p.id, p.lsn, p.cells.set r16 (nb, s)⟩ : Pg).lst := pgLst_set _ _ _ _ _ _
    replace HS : Hid (St (some c) q w0 w [(b4, 27, pgLst 0 0 blankCells), (b3, 27, putCells p.lst (2 + r16 * 2) [.bool nb, Value.string s])]) := HS
    rw [e] at HS
    clear e
    have HN : Hid ((⟨p.id, p.lsn, p.cells.set r16 (nb, s)⟩ : Pg).cells.length = 16) := by have := HP.out; show _ = _; simp [this]
    go_wp2_with (first | (refine sx_load_all HS rfl 27 _ rfl 1 _ _ _ rfl rfl 34 sh27 (lst_len HN.out) ?_) | (refine sx_store_all HS rfl 27 _ _ rfl rfl 0 _ _ _ rfl rfl (⟨p.id, p.lsn, p.cells.set r16 (nb, s)⟩ : Pg).lst rfl 34 sh27 (lst_len HN.out) (by rw [lst_len HN.out]; rfl) (pgLst_one _ _ _) ?_; clear HS; intro w HS))
    exact bodyPost_ret (results_c Try.results21 rfl (pg_run (p := ⟨p.id, p.lsn, p.cells.set r16 (nb, s)⟩) HN.out (HS.out.box (i := 0) rfl))) rfl ⟨⟨p.id, p.lsn, p.cells.set r16 (nb, s)⟩, rfl, HN.out, HS.out.isOnly, HS.out.code⟩
end Go.Proofs.Ytlbhoepfcedkdaa
