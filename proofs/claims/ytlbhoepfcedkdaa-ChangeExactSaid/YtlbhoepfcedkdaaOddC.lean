/-
  The contract of OddChange: some change, and the row of choices alone changes.
-/
import Derived.Test.YtlbhoepfcedkdaaOddP
namespace Go.Proofs.Ytlbhoepfcedkdaa
open Go.RowKit
def OddCPost (q : CodeRow) (c : Nat) (w : World) (e : Ending) (w' : World) : Prop := ∃ x : Chg, e = .returned (.agg x.arr) ∧ Only c w w' ∧ CodesAt q w' c
theorem chg_run {w : World} {b : Nat} {x : Chg} (hB : PBox w b 29 x.lst) : (loadVar 29 ⟨b, 0, none⟩).run Try.prog w = .ok (.agg x.arr) w := run_load_agg hB sh29 (vs := x.lst) rfl (by simpa using cellsAt_self [] x.lst)
set_option maxHeartbeats 2000000 in
set_option maxRecDepth 100000 in
theorem oddChange_any (q : CodeRow) (c : Nat) (x : Chg) (w0 : World) (hcd : CodesAt q w0 c) : Calls Try.prog 12 #[.pointer (some ⟨c, 0, none⟩), .agg x.arr] w0 (OddCPost q c w0) := by
  have HS : Hid (St (some c) q w0 w0 []) := St.startC hcd
  clear hcd
  go_enter Try.func12, Try.ntmps12
  go_wp2_with (first | (refine sx_box HS rfl _ _ rfl x.lst rfl ?_; clear HS; intro w b3 HS) | (refine sx_alloc HS rfl 29 rfl _ zr29 ?_; clear HS; intro w b4 HS))
  refine (next_any q c 4 _ HS.out.code (by omega)).mono ?_
  rintro e w ⟨r, rfl, hr, _, ho, hcd⟩
  replace HS := Lib.hid (HS.out.draws ho hcd)
  clear ho hcd
  have h4 : r = 0 ∨ r = 1 ∨ r = 2 ∨ r = 3 := by have := hr (by omega); omega
  clear hr
  rcases h4 with rfl | rfl | rfl | rfl
  · go_wp2_with fail
    refine (int_any q c _ HS.out.code).mono ?_
    rintro e w ⟨i, rfl, ho, hcd⟩
    replace HS := Lib.hid (HS.out.draws ho hcd)
    clear ho hcd
    go_upto_region 10 with (refine sx_store HS rfl 3 _ _ rfl rfl 1 _ _ _ rfl 0 rfl sh3 (.int .i64 i) rfl rfl rfl ?_; clear HS; intro w HS)
    replace HS : Hid (St (some c) q w0 w [(b4, 29, Chg.zero.lst), (b3, 29, (⟨i, x.slot, x.bb, x.bd, x.ab, x.ad⟩ : Chg).lst)]) := HS
    go_wp2_with (first | (refine sx_loads HS rfl 29 _ rfl 1 _ _ _ rfl 0 rfl 6 sh29 (⟨i, x.slot, x.bb, x.bd, x.ab, x.ad⟩ : Chg).lst rfl (by simpa using cellsAt_self [] (⟨i, x.slot, x.bb, x.bd, x.ab, x.ad⟩ : Chg).lst) ?_) | (refine sx_store_all HS rfl 29 _ _ rfl rfl 0 _ _ _ rfl rfl (⟨i, x.slot, x.bb, x.bd, x.ab, x.ad⟩ : Chg).lst rfl 6 sh29 rfl rfl rfl ?_; clear HS; intro w HS))
    exact bodyPost_ret (results_c Try.results12 rfl (chg_run (x := ⟨i, x.slot, x.bb, x.bd, x.ab, x.ad⟩) (HS.out.box (i := 0) rfl))) rfl ⟨⟨i, x.slot, x.bb, x.bd, x.ab, x.ad⟩, rfl, HS.out.isOnly, HS.out.code⟩
  · go_wp2_with fail
    refine (int_any q c _ HS.out.code).mono ?_
    rintro e w ⟨i, rfl, ho, hcd⟩
    replace HS := Lib.hid (HS.out.draws ho hcd)
    clear ho hcd
    go_upto_region 10 with (refine sx_store HS rfl 3 _ _ rfl rfl 1 _ _ _ rfl 1 rfl sh3 (.int .i64 i) rfl rfl rfl ?_; clear HS; intro w HS)
    replace HS : Hid (St (some c) q w0 w [(b4, 29, Chg.zero.lst), (b3, 29, (⟨x.page, i, x.bb, x.bd, x.ab, x.ad⟩ : Chg).lst)]) := HS
    go_wp2_with (first | (refine sx_loads HS rfl 29 _ rfl 1 _ _ _ rfl 0 rfl 6 sh29 (⟨x.page, i, x.bb, x.bd, x.ab, x.ad⟩ : Chg).lst rfl (by simpa using cellsAt_self [] (⟨x.page, i, x.bb, x.bd, x.ab, x.ad⟩ : Chg).lst) ?_) | (refine sx_store_all HS rfl 29 _ _ rfl rfl 0 _ _ _ rfl rfl (⟨x.page, i, x.bb, x.bd, x.ab, x.ad⟩ : Chg).lst rfl 6 sh29 rfl rfl rfl ?_; clear HS; intro w HS))
    exact bodyPost_ret (results_c Try.results12 rfl (chg_run (x := ⟨x.page, i, x.bb, x.bd, x.ab, x.ad⟩) (HS.out.box (i := 0) rfl))) rfl ⟨⟨x.page, i, x.bb, x.bd, x.ab, x.ad⟩, rfl, HS.out.isOnly, HS.out.code⟩
  · go_wp2_with fail
    refine (next_any q c 2 _ HS.out.code (by omega)).mono ?_
    rintro e w ⟨r2, rfl, hr, _, ho, hcd⟩
    replace HS := Lib.hid (HS.out.draws ho hcd)
    have hr2 : r2 < 2 := by have := hr (by omega); omega
    clear ho hcd hr
    go_wp2_with fail
    refine (data_any q c _ HS.out.code).mono ?_
    rintro e w ⟨s, rfl, hs, ho, hcd⟩
    replace HS := Lib.hid (HS.out.draws ho hcd)
    clear ho hcd
    go_upto_region 10 with (refine sx_stores HS rfl 24 _ _ rfl rfl 1 _ _ _ rfl 2 rfl 2 sh24 [.bool ((r2 : Int) == 1), .string s] rfl rfl rfl rfl ?_; clear HS; intro w HS)
    replace HS : Hid (St (some c) q w0 w [(b4, 29, Chg.zero.lst), (b3, 29, (⟨x.page, x.slot, ((r2 : Int) == 1), s, x.ab, x.ad⟩ : Chg).lst)]) := HS
    go_wp2_with (first | (refine sx_loads HS rfl 29 _ rfl 1 _ _ _ rfl 0 rfl 6 sh29 (⟨x.page, x.slot, ((r2 : Int) == 1), s, x.ab, x.ad⟩ : Chg).lst rfl (by simpa using cellsAt_self [] (⟨x.page, x.slot, ((r2 : Int) == 1), s, x.ab, x.ad⟩ : Chg).lst) ?_) | (refine sx_store_all HS rfl 29 _ _ rfl rfl 0 _ _ _ rfl rfl (⟨x.page, x.slot, ((r2 : Int) == 1), s, x.ab, x.ad⟩ : Chg).lst rfl 6 sh29 rfl rfl rfl ?_; clear HS; intro w HS))
    exact bodyPost_ret (results_c Try.results12 rfl (chg_run (x := ⟨x.page, x.slot, ((r2 : Int) == 1), s, x.ab, x.ad⟩) (HS.out.box (i := 0) rfl))) rfl ⟨⟨x.page, x.slot, ((r2 : Int) == 1), s, x.ab, x.ad⟩, rfl, HS.out.isOnly, HS.out.code⟩
  · go_wp2_with fail
    refine (next_any q c 2 _ HS.out.code (by omega)).mono ?_
    rintro e w ⟨r2, rfl, hr, _, ho, hcd⟩
    replace HS := Lib.hid (HS.out.draws ho hcd)
    have hr2 : r2 < 2 := by have := hr (by omega); omega
    clear ho hcd hr
    go_wp2_with fail
    refine (data_any q c _ HS.out.code).mono ?_
    rintro e w ⟨s, rfl, hs, ho, hcd⟩
    replace HS := Lib.hid (HS.out.draws ho hcd)
    clear ho hcd
    go_upto_region 10 with (refine sx_stores HS rfl 24 _ _ rfl rfl 1 _ _ _ rfl 4 rfl 2 sh24 [.bool ((r2 : Int) == 1), .string s] rfl rfl rfl rfl ?_; clear HS; intro w HS)
    replace HS : Hid (St (some c) q w0 w [(b4, 29, Chg.zero.lst), (b3, 29, (⟨x.page, x.slot, x.bb, x.bd, ((r2 : Int) == 1), s⟩ : Chg).lst)]) := HS
    go_wp2_with (first | (refine sx_loads HS rfl 29 _ rfl 1 _ _ _ rfl 0 rfl 6 sh29 (⟨x.page, x.slot, x.bb, x.bd, ((r2 : Int) == 1), s⟩ : Chg).lst rfl (by simpa using cellsAt_self [] (⟨x.page, x.slot, x.bb, x.bd, ((r2 : Int) == 1), s⟩ : Chg).lst) ?_) | (refine sx_store_all HS rfl 29 _ _ rfl rfl 0 _ _ _ rfl rfl (⟨x.page, x.slot, x.bb, x.bd, ((r2 : Int) == 1), s⟩ : Chg).lst rfl 6 sh29 rfl rfl rfl ?_; clear HS; intro w HS))
    exact bodyPost_ret (results_c Try.results12 rfl (chg_run (x := ⟨x.page, x.slot, x.bb, x.bd, ((r2 : Int) == 1), s⟩) (HS.out.box (i := 0) rfl))) rfl ⟨⟨x.page, x.slot, x.bb, x.bd, ((r2 : Int) == 1), s⟩, rfl, HS.out.isOnly, HS.out.code⟩
end Go.Proofs.Ytlbhoepfcedkdaa
