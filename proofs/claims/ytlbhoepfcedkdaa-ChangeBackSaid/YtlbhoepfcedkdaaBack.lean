/-
  ChangeBack: the walk.
-/
import Derived.Test.YtlbhoepfcedkdaaLaw03
import Derived.Test.YtlbhoepfcedkdaaHk
import Derived.Test.YtlbhoepfcedkdaaEql
import Derived.Test.YtlbhoepfcedkdaaBackF
import Derived.BigRegion
namespace Go.Proofs.Ytlbhoepfcedkdaa
open Go.RowKit

set_option maxHeartbeats 4000000 in
set_option maxRecDepth 100000 in
theorem back_walk (a : Option Addr) (len cap : Nat) (w0 : World) (hb : BytesIn w0 a len) (hlc : len ≤ cap) (hmax : cap ≤ maxLen) :
    Calls Try.prog 4 #[.slice a len cap] w0 fun e w' => e = .returned (.bool true) ∧ Ext w0 w' := by
  have HB := Lib.hid hb
  have HM := Lib.hid hmax
  clear hb hmax
  go_enter Try.func4, Try.ntmps4
  go_wp2_with fail
  refine (awake_any _).mono ?_
  rintro e w1 ⟨rfl, hx1⟩
  have HX1 := Lib.hid hx1
  have HB1 : Hid (BytesIn w1 a len) := fun h => by
    obtain ⟨blk, off, ha, hi⟩ := HB.out h
    refine ⟨blk, off, ha, fun i hl => ?_⟩
    obtain ⟨n, hn, hc⟩ := hi i hl
    exact ⟨n, hn, (Below.cell (p := ⟨blk, off + i, none⟩) HX1.out (block_lt_of_cell (a := ⟨blk, off + i, none⟩) hc)).trans hc⟩
  clear hx1
  go_wp2_with fail
  refine (new_any a len cap 160 _ HB1.out hlc (by omega) (by omega) HM.out).mono ?_
  rintro e w2 ⟨c, q, rfl, hc, hx2, hcd⟩
  have hc0 : w0.heap.size ≤ c := by have := HX1.out.size; omega
  have HX2 := Lib.hid (HX1.out.trans hx2)
  have HS : Hid (St (some c) q w2 w2 []) := St.startC hcd
  clear hc hx2 hcd HX1 HB1 HB
  go_wp2_with fail
  refine (page_any q c 1 _ HS.out.code).mono ?_
  rintro e w ⟨lsn, l, rfl, _, _, hl, hok, ho, hcd⟩
  replace HS := Lib.hid (HS.out.draws ho hcd)
  have HL := Lib.hid hl
  have HOK := Lib.hid hok
  clear hl hok ho hcd
  obtain ⟨p0, hp0⟩ : ∃ p0 : Pg, p0 = ⟨1, lsn, l⟩ := ⟨_, rfl⟩
  have HP0 := Lib.hid hp0
  have hpa : pgArr 1 lsn l = p0.arr := by rw [hp0]; rfl
  rw [hpa]
  have HL0 : Hid (p0.cells.length = 16) := by rw [hp0]; exact HL.out
  clear hp0 hpa
  go_wp2_with (first | (refine sx_alloc HS rfl 27 rfl _ zero_page ?_; clear HS; intro w bp HS) | (refine sx_store_all HS rfl 27 _ _ rfl rfl 0 _ _ _ rfl rfl (Pg.lst p0) rfl (size_lst p0 HL0.out) (by show (pgLst 0 0 blankCells).length = _; rw [pgLst_length]; unfold Pg.lst; rw [pgLst_length, HL0.out]; rfl) (pgLst_one _ _ _) ?_; clear HS; intro w HS))
  replace HS : Hid (St (some c) q w2 w [(bp, 27, p0.lst)]) := HS
  refine (change_any q c _ HS.out.code).mono ?_
  rintro e w ⟨ap, asl, abb, abd, aab, aad, rfl, hap, hasl, hab, haa, ho, hcd⟩
  replace HS := Lib.hid (HS.out.draws ho hcd)
  clear ho hcd
  have HAA := Lib.hid haa
  clear hab haa
  go_wp2_with fail
  refine (change_any q c _ HS.out.code).mono ?_
  rintro e w ⟨bpg, bsl, bbb, bbd, bab, bad, rfl, hbp, hbsl, hbb, hba, ho, hcd⟩
  replace HS := Lib.hid (HS.out.draws ho hcd)
  clear ho hcd
  have HBA := Lib.hid hba
  clear hbb hba
  go_wp2_with (refine sx_alloc HS rfl 29 rfl _ zr29 ?_)
  clear HS; intro w ba HS
  go_wp2_with (refine sx_alloc HS rfl 29 rfl _ zr29 ?_)
  clear HS; intro w bb HS
  go_wp2_with (first | (refine sx_stores HS rfl 29 _ _ rfl rfl 1 _ _ _ rfl _ rfl 6 sh29 [_, _, _, _, _, _] rfl rfl rfl rfl ?_; clear HS; intro w HS) | (refine sx_stores HS rfl 29 _ _ rfl rfl 0 _ _ _ rfl _ rfl 6 sh29 [_, _, _, _, _, _] rfl rfl rfl rfl ?_; clear HS; intro w HS))
  replace HS : Hid (St (some c) q w2 w [(bb, 29, [.int .i64 bpg, .int .i64 bsl, .bool bbb, .string bbd, .bool bab, .string bad]), (ba, 29, [.int .i64 ap, .int .i64 asl, .bool abb, .string abd, .bool aab, .string aad]), (bp, 27, p0.lst)]) := HS
  obtain ⟨⟨pb, pd⟩, hpc⟩ := list_get_of_lt l asl 16 HL.out (by omega)
  have hcell : p0.lst[2 + asl * 2]? = some (.bool pb) ∧ p0.lst[2 + asl * 2 + 1]? = some (.string pd) := by rw [HP0.out]; exact pgLst_get 1 lsn l asl pb pd hpc
  have hpok := HOK.out (pb, pd) (List.mem_of_getElem? hpc)
  have BF := Lib.hid (backFacts (lsn := lsn) HL.out (by omega) hpc (okB_of hpok.1 hpok.2) (okB_of HAA.out.1 HAA.out.2) (okB_of HBA.out.1 HBA.out.2))
  have g0 := ((HS.out.box (i := 2) rfl).cell (2 + asl * 2)).trans ((List.getElem?_toArray ..).trans hcell.1)
  have g1 := ((HS.out.box (i := 2) rfl).cell (2 + asl * 2 + 1)).trans ((List.getElem?_toArray ..).trans hcell.2)
  have k0 := ((HS.out.box (i := 1) rfl).cell 0).trans (rfl : _ = some (Value.int .i64 (ap : Int)))
  have k1 := ((HS.out.box (i := 1) rfl).cell 1).trans (rfl : _ = some (Value.int .i64 (asl : Int)))
  have k2 := ((HS.out.box (i := 1) rfl).cell 2).trans (rfl : _ = some (Value.bool abb))
  have k3 := ((HS.out.box (i := 1) rfl).cell 3).trans (rfl : _ = some (Value.string abd))
  have f0 := (HS.out.box (i := 1) rfl).free 0
  have f2 := (HS.out.box (i := 1) rfl).free 2
  have f3 := (HS.out.box (i := 1) rfl).free 3
  have hasl16 : (asl : Int) < 16 := by omega
  have hne : bp ≠ ba := HS.out.own.2.2.2.2.2.1 _ (List.mem_cons_self ..)
  have hne' : ba ≠ bp := Ne.symm hne
  clear hpc hpok hcell HAA HBA HOK
  go_cut [29] (fun _ wx => Hid (St (some c) q w2 wx [(bb, 29, [.int .i64 bpg, .int .i64 bsl, .bool bbb, .string bbd, .bool bab, .string bad]), (ba, 29, [.int .i64 1, .int .i64 asl, .bool pb, .string pd, .bool aab, .string aad]), (bp, 27, p0.lst)]))
  case first =>
    have HS6 := Lib.hid (((HS.out.set1 (i := 1) rfl 0 (.int .i64 1)).set1 (i := 1) rfl 2 (.bool pb)).set1 (i := 1) rfl 3 (.string pd)).drew
    clear HS
    go_region
    all_goals (try go_wp2_with fail)
    all_goals (go_meet; exact HS6)
  case rest =>
    clear HS g0 g1 k0 k1 k2 k3 f0 f2 f3 hne hne'
    have HS := hcut
    clear hcut
    have k1 := ((HS.out.box (i := 1) rfl).cell 1).trans (rfl : _ = some (Value.int .i64 (asl : Int)))
    have k4 := ((HS.out.box (i := 1) rfl).cell 4).trans (rfl : _ = some (Value.bool aab))
    have k5 := ((HS.out.box (i := 1) rfl).cell 5).trans (rfl : _ = some (Value.string aad))
    have m0 := ((HS.out.box (i := 0) rfl).cell 0).trans (rfl : _ = some (Value.int .i64 bpg))
    have f0 := (HS.out.box (i := 0) rfl).free 0
    have m1 := ((HS.out.box (i := 0) rfl).cell 1).trans (rfl : _ = some (Value.int .i64 bsl))
    have f1 := (HS.out.box (i := 0) rfl).free 1
    have m2 := ((HS.out.box (i := 0) rfl).cell 2).trans (rfl : _ = some (Value.bool bbb))
    have f2 := (HS.out.box (i := 0) rfl).free 2
    have m3 := ((HS.out.box (i := 0) rfl).cell 3).trans (rfl : _ = some (Value.string bbd))
    have f3 := (HS.out.box (i := 0) rfl).free 3
    have hne : ba ≠ bb := HS.out.own.2.2.1 _ (List.mem_cons_self ..)
    have hne' : bb ≠ ba := Ne.symm hne
    go_wp2_with fail
    go_cut [36] (fun _ wx => Hid (St (some c) q w2 wx [(bb, 29, [.int .i64 1, .int .i64 asl, .bool aab, .string aad, .bool bab, .string bad]), (ba, 29, [.int .i64 1, .int .i64 asl, .bool pb, .string pd, .bool aab, .string aad]), (bp, 27, p0.lst)]))
    case first =>
      have HS7 := Lib.hid ((((HS.out.set1 (i := 0) rfl 0 (.int .i64 1)).set1 (i := 0) rfl 1 (.int .i64 asl)).set1 (i := 0) rfl 2 (.bool aab)).set1 (i := 0) rfl 3 (.string aad)).drew
      clear HS
      go_region
      all_goals (try go_wp2_with fail)
      all_goals (go_meet; exact HS7)
    case rest =>
      clear HS k1 k4 k5 m0 m1 m2 m3 f0 f1 f2 f3 hne hne'
      have HS := hcut
      clear hcut
      obtain ⟨p1, hp1⟩ : ∃ p1 : Pg, p1 = ⟨1, lsn, l.set asl (aab, aad)⟩ := ⟨_, rfl⟩
      obtain ⟨p2, hp2⟩ : ∃ p2 : Pg, p2 = ⟨1, lsn, l.set asl (bab, bad)⟩ := ⟨_, rfl⟩
      have HL1 : Hid (p1.cells.length = 16) := by rw [hp1]; show (l.set _ _).length = 16; rw [List.length_set]; exact HL.out
      have HL2 : Hid (p2.cells.length = 16) := by rw [hp2]; show (l.set _ _).length = 16; rw [List.length_set]; exact HL.out
      have hp0 := HP0.out
      have b1 := BF.out.e1; have b2 := BF.out.e2; have b3 := BF.out.e3; have b4 := BF.out.e4; have b5 := BF.out.e5; have b6 := BF.out.e6
      rw [← hp0, ← hp1] at b1 b3
      rw [← hp1, ← hp2] at b2
      rw [← hp0, ← hp2] at b5
      have hp0' := hp0; clear hp0 hp1 hp2
      have C1 : Hid (∀ w, Calls Try.prog 22 #[.agg p0.arr, .agg #[.int .i64 1, .int .i64 asl, .bool pb, .string pd, .bool aab, .string aad]] w fun e w' => e = .returned (.tuple #[.agg p1.arr, .int .i64 0]) ∧ Ext w w') := fun w => by have h := ch_apply p0 ⟨1, asl, pb, pd, aab, aad⟩ w HL0.out; rw [b1] at h; exact h
      have C2 : Hid (∀ w, Calls Try.prog 22 #[.agg p1.arr, .agg #[.int .i64 1, .int .i64 asl, .bool aab, .string aad, .bool bab, .string bad]] w fun e w' => e = .returned (.tuple #[.agg p2.arr, .int .i64 0]) ∧ Ext w w') := fun w => by have h := ch_apply p1 ⟨1, asl, aab, aad, bab, bad⟩ w HL1.out; rw [b2] at h; exact h
      have C3 : Hid (∀ w, Calls Try.prog 22 #[.agg p1.arr, .agg #[.int .i64 1, .int .i64 asl, .bool aab, .string aad, .bool pb, .string pd]] w fun e w' => e = .returned (.tuple #[.agg p0.arr, .int .i64 0]) ∧ Ext w w') := fun w => by have h := ch_apply p1 ⟨1, asl, aab, aad, pb, pd⟩ w HL1.out; rw [b3] at h; exact h
      have C4 : Hid (∀ w, Calls Try.prog 13 #[.agg #[.int .i64 1, .int .i64 asl, .bool pb, .string pd, .bool aab, .string aad], .agg #[.int .i64 1, .int .i64 asl, .bool aab, .string aad, .bool bab, .string bad]] w fun e w' => e = .returned (.tuple #[.agg #[.int .i64 1, .int .i64 asl, .bool pb, .string pd, .bool bab, .string bad], .int .i64 0]) ∧ Ext w w') := fun w => by have h := ch_join ⟨1, asl, pb, pd, aab, aad⟩ ⟨1, asl, aab, aad, bab, bad⟩ w; rw [b4] at h; exact h
      have C5 : Hid (∀ w, Calls Try.prog 22 #[.agg p0.arr, .agg #[.int .i64 1, .int .i64 asl, .bool pb, .string pd, .bool bab, .string bad]] w fun e w' => e = .returned (.tuple #[.agg p2.arr, .int .i64 0]) ∧ Ext w w') := fun w => by have h := ch_apply p0 ⟨1, asl, pb, pd, bab, bad⟩ w HL0.out; rw [b5] at h; exact h
      have C6 : Hid (∀ w, Calls Try.prog 13 #[.agg #[.int .i64 1, .int .i64 asl, .bool bab, .string bad, .bool aab, .string aad], .agg #[.int .i64 1, .int .i64 asl, .bool aab, .string aad, .bool pb, .string pd]] w fun e w' => e = .returned (.tuple #[.agg #[.int .i64 1, .int .i64 asl, .bool bab, .string bad, .bool pb, .string pd], .int .i64 0]) ∧ Ext w w') := fun w => by have h := ch_join ⟨1, asl, bab, bad, aab, aad⟩ ⟨1, asl, aab, aad, pb, pd⟩ w; rw [b6] at h; exact h
      have V1 : Hid (∀ w, Calls Try.prog 17 #[.agg #[.int .i64 1, .int .i64 asl, .bool pb, .string pd, .bool aab, .string aad]] w fun e w' => e = .returned (.agg #[.int .i64 1, .int .i64 asl, .bool aab, .string aad, .bool pb, .string pd]) ∧ Ext w w') := fun w => ch_inverse ⟨1, asl, pb, pd, aab, aad⟩ w
      have V2 : Hid (∀ w, Calls Try.prog 17 #[.agg #[.int .i64 1, .int .i64 asl, .bool aab, .string aad, .bool bab, .string bad]] w fun e w' => e = .returned (.agg #[.int .i64 1, .int .i64 asl, .bool bab, .string bad, .bool aab, .string aad]) ∧ Ext w w') := fun w => ch_inverse ⟨1, asl, aab, aad, bab, bad⟩ w
      have V3 : Hid (∀ w, Calls Try.prog 17 #[.agg #[.int .i64 1, .int .i64 asl, .bool pb, .string pd, .bool bab, .string bad]] w fun e w' => e = .returned (.agg #[.int .i64 1, .int .i64 asl, .bool bab, .string bad, .bool pb, .string pd]) ∧ Ext w w') := fun w => ch_inverse ⟨1, asl, pb, pd, bab, bad⟩ w
      clear b1 b2 b3 b4 b5 b6 hp0'
      go_upto_region 9 with (first | (refine sx_load_all HS rfl 27 _ rfl 2 _ _ _ rfl rfl _ Try.underlying27 rfl (size_lst p0 HL0.out) ?_) | (refine sx_loads HS rfl 29 _ rfl 1 _ _ _ rfl _ rfl 6 sh29 [_, _, _, _, _, _] rfl ⟨rfl, rfl, rfl, rfl, rfl, rfl, trivial⟩ ?_) | (go_at_call 22; refine (C1.out _).mono ?_; rintro e w ⟨rfl, hx⟩; replace HS := Lib.hid (HS.out.ext hx); clear hx) | (refine sx_alloc HS rfl 27 rfl _ zero_page ?_; clear HS; intro w bx HS) | (refine sx_store_all HS rfl 27 _ _ rfl rfl 0 _ _ _ rfl rfl (Pg.lst p1) rfl (size_lst p1 HL1.out) (by show (pgLst 0 0 blankCells).length = _; rw [pgLst_length]; unfold Pg.lst; rw [pgLst_length, HL1.out]; rfl) (pgLst_one _ _ _) ?_; clear HS; intro w HS))
      replace HS : Hid (St (some c) q w2 w [(bx, 27, p1.lst), (bb, 29, [.int .i64 1, .int .i64 asl, .bool aab, .string aad, .bool bab, .string bad]), (ba, 29, [.int .i64 1, .int .i64 asl, .bool pb, .string pd, .bool aab, .string aad]), (bp, 27, p0.lst)]) := HS
      go_upto_region 10 with (first | (refine sx_load_all HS rfl 27 _ rfl 0 _ _ _ rfl rfl _ Try.underlying27 rfl (size_lst p1 HL1.out) ?_) | (refine sx_loads HS rfl 29 _ rfl 1 _ _ _ rfl _ rfl 6 sh29 [_, _, _, _, _, _] rfl ⟨rfl, rfl, rfl, rfl, rfl, rfl, trivial⟩ ?_) | (go_at_call 22; refine (C2.out _).mono ?_; rintro e w ⟨rfl, hx⟩; replace HS := Lib.hid (HS.out.ext hx); clear hx) | (refine sx_alloc HS rfl 27 rfl _ zero_page ?_; clear HS; intro w by_ HS) | (refine sx_store_all HS rfl 27 _ _ rfl rfl 0 _ _ _ rfl rfl (Pg.lst p2) rfl (size_lst p2 HL2.out) (by show (pgLst 0 0 blankCells).length = _; rw [pgLst_length]; unfold Pg.lst; rw [pgLst_length, HL2.out]; rfl) (pgLst_one _ _ _) ?_; clear HS; intro w HS))
      replace HS : Hid (St (some c) q w2 w [(by_, 27, p2.lst), (bx, 27, p1.lst), (bb, 29, [.int .i64 1, .int .i64 asl, .bool aab, .string aad, .bool bab, .string bad]), (ba, 29, [.int .i64 1, .int .i64 asl, .bool pb, .string pd, .bool aab, .string aad]), (bp, 27, p0.lst)]) := HS
      go_cut [11, 12] (fun s11 s12 wx => ∃ bz, s11 = .pointer (some ⟨bz, 0, none⟩) ∧ s12 = .int .i64 0 ∧ Hid (St (some c) q w2 wx [(bz, 27, p0.lst), (by_, 27, p2.lst), (bx, 27, p1.lst), (bb, 29, [.int .i64 1, .int .i64 asl, .bool aab, .string aad, .bool bab, .string bad]), (ba, 29, [.int .i64 1, .int .i64 asl, .bool pb, .string pd, .bool aab, .string aad]), (bp, 27, p0.lst)]))
      case first =>
        refine hk_begin HS (by kernel_rfl) ?_
        clear HS; intro w HS
        refine hk_load_all 0 (some 56) rfl rfl (by kernel_rfl) (by kernel_rfl) (by kernel_rfl) (fun _ _ _ _ h => h) (k := 0) HS rfl rfl 27 _ rfl 1 _ _ _ rfl rfl _ Try.underlying27 rfl (size_lst p1 HL1.out) ?_
        try simp only [Act.put, List.setIfInBounds_toArray, List.set_cons_zero, List.set_cons_succ]
        refine hk_loads 1 (some 57) rfl rfl (by kernel_rfl) (by kernel_rfl) (by kernel_rfl) (fun _ _ _ _ h => h) (k := 0) HS rfl rfl 29 _ rfl 3 _ _ _ rfl _ rfl 6 sh29 [_, _, _, _, _, _] rfl ⟨rfl, rfl, rfl, rfl, rfl, rfl, trivial⟩ ?_
        try simp only [Act.put, List.setIfInBounds_toArray, List.set_cons_zero, List.set_cons_succ]
        refine hk_x2 2 7 (by kernel_rfl) ?_ ?_
        · skip
          refine hk_call 2 (some 58) rfl rfl rfl (k := 0) HS rfl 17 _ _ rfl Try.func17 (by kernel_rfl) rfl _ _ (V1.out _) rfl ?_
          clear HS; intro w HS
          try simp only [Act.put, List.setIfInBounds_toArray, List.set_cons_zero, List.set_cons_succ]
          refine hk_x2 3 7 (by kernel_rfl) ?_ ?_
          · skip
            refine hk_call 3 (some 59) rfl rfl rfl (k := 0) HS rfl 22 _ _ rfl Try.func22 (by kernel_rfl) rfl _ _ (C3.out _) rfl ?_
            clear HS; intro w HS
            try simp only [Act.put, List.setIfInBounds_toArray, List.set_cons_zero, List.set_cons_succ]
            refine hk_reg 4 (some 55) rfl rfl (by kernel_rfl) (by kernel_rfl) (by kernel_rfl) (fun _ _ _ _ h => h) (k := 0) HS rfl _ rfl (fun _ => by rfl) ?_
            try simp only [Act.put, List.setIfInBounds_toArray, List.set_cons_zero, List.set_cons_succ]
            refine hk_reg 5 (some 60) rfl rfl (by kernel_rfl) (by kernel_rfl) (by kernel_rfl) (fun _ _ _ _ h => h) (k := 0) HS rfl _ rfl (fun _ => by rfl) ?_
            try simp only [Act.put, List.setIfInBounds_toArray, List.set_cons_zero, List.set_cons_succ]
            refine hk_reg 6 (some 61) rfl rfl (by kernel_rfl) (by kernel_rfl) (by kernel_rfl) (fun _ _ _ _ h => h) (k := 0) HS rfl _ rfl (fun _ => by rfl) ?_
            try simp only [Act.put, List.setIfInBounds_toArray, List.set_cons_zero, List.set_cons_succ]
            refine hk_x1 7 (by kernel_rfl) ?_
            refine hk_alloc 7 (some 11) rfl rfl rfl (k := 0) HS rfl 27 rfl _ zero_page ?_
            clear HS; intro w bk HS
            try simp only [Act.put, List.setIfInBounds_toArray, List.set_cons_zero, List.set_cons_succ]
            refine hk_x1 8 (by kernel_rfl) ?_
            refine hk_store_all 8 rfl rfl (k := 1) HS rfl 27 _ _ rfl rfl 0 _ _ _ rfl (by decide) rfl (Pg.lst p0) rfl (size_lst p0 HL0.out) (by show (pgLst 0 0 blankCells).length = _; rw [pgLst_length]; unfold Pg.lst; rw [pgLst_length, HL0.out]; rfl) (pgLst_one _ _ _) ?_
            clear HS; intro w HS
            try simp only [Act.put, List.setIfInBounds_toArray, List.set_cons_zero, List.set_cons_succ]
            refine hk_reg 9 (some 12) rfl rfl (by kernel_rfl) (by kernel_rfl) (by kernel_rfl) (fun _ _ _ _ h => h) (k := 1) HS rfl _ rfl (fun _ => by rfl) ?_
            try simp only [Act.put, List.setIfInBounds_toArray, List.set_cons_zero, List.set_cons_succ]
            refine hk_done (by kernel_rfl) ?_
            go_wp2_with fail
            go_meet
            exact ⟨_, rfl, rfl, HS⟩
          · skip
            refine hk_alloc 7 (some 11) rfl rfl rfl (k := 0) HS rfl 27 rfl _ zero_page ?_
            clear HS; intro w bk HS
            try simp only [Act.put, List.setIfInBounds_toArray, List.set_cons_zero, List.set_cons_succ]
            refine hk_x1 3 (by kernel_rfl) ?_
            refine hk_call 3 (some 59) rfl rfl rfl (k := 1) HS rfl 22 _ _ rfl Try.func22 (by kernel_rfl) rfl _ _ (C3.out _) rfl ?_
            clear HS; intro w HS
            try simp only [Act.put, List.setIfInBounds_toArray, List.set_cons_zero, List.set_cons_succ]
            refine hk_reg 4 (some 55) rfl rfl (by kernel_rfl) (by kernel_rfl) (by kernel_rfl) (fun _ _ _ _ h => h) (k := 1) HS rfl _ rfl (fun _ => by rfl) ?_
            try simp only [Act.put, List.setIfInBounds_toArray, List.set_cons_zero, List.set_cons_succ]
            refine hk_reg 5 (some 60) rfl rfl (by kernel_rfl) (by kernel_rfl) (by kernel_rfl) (fun _ _ _ _ h => h) (k := 1) HS rfl _ rfl (fun _ => by rfl) ?_
            try simp only [Act.put, List.setIfInBounds_toArray, List.set_cons_zero, List.set_cons_succ]
            refine hk_reg 6 (some 61) rfl rfl (by kernel_rfl) (by kernel_rfl) (by kernel_rfl) (fun _ _ _ _ h => h) (k := 1) HS rfl _ rfl (fun _ => by rfl) ?_
            try simp only [Act.put, List.setIfInBounds_toArray, List.set_cons_zero, List.set_cons_succ]
            refine hk_x1 8 (by kernel_rfl) ?_
            refine hk_store_all 8 rfl rfl (k := 1) HS rfl 27 _ _ rfl rfl 0 _ _ _ rfl (by decide) rfl (Pg.lst p0) rfl (size_lst p0 HL0.out) (by show (pgLst 0 0 blankCells).length = _; rw [pgLst_length]; unfold Pg.lst; rw [pgLst_length, HL0.out]; rfl) (pgLst_one _ _ _) ?_
            clear HS; intro w HS
            try simp only [Act.put, List.setIfInBounds_toArray, List.set_cons_zero, List.set_cons_succ]
            refine hk_reg 9 (some 12) rfl rfl (by kernel_rfl) (by kernel_rfl) (by kernel_rfl) (fun _ _ _ _ h => h) (k := 1) HS rfl _ rfl (fun _ => by rfl) ?_
            try simp only [Act.put, List.setIfInBounds_toArray, List.set_cons_zero, List.set_cons_succ]
            refine hk_done (by kernel_rfl) ?_
            go_wp2_with fail
            go_meet
            exact ⟨_, rfl, rfl, HS⟩
        · skip
          refine hk_alloc 7 (some 11) rfl rfl rfl (k := 0) HS rfl 27 rfl _ zero_page ?_
          clear HS; intro w bk HS
          try simp only [Act.put, List.setIfInBounds_toArray, List.set_cons_zero, List.set_cons_succ]
          refine hk_x1 2 (by kernel_rfl) ?_
          refine hk_call 2 (some 58) rfl rfl rfl (k := 1) HS rfl 17 _ _ rfl Try.func17 (by kernel_rfl) rfl _ _ (V1.out _) rfl ?_
          clear HS; intro w HS
          try simp only [Act.put, List.setIfInBounds_toArray, List.set_cons_zero, List.set_cons_succ]
          refine hk_x1 3 (by kernel_rfl) ?_
          refine hk_call 3 (some 59) rfl rfl rfl (k := 1) HS rfl 22 _ _ rfl Try.func22 (by kernel_rfl) rfl _ _ (C3.out _) rfl ?_
          clear HS; intro w HS
          try simp only [Act.put, List.setIfInBounds_toArray, List.set_cons_zero, List.set_cons_succ]
          refine hk_reg 4 (some 55) rfl rfl (by kernel_rfl) (by kernel_rfl) (by kernel_rfl) (fun _ _ _ _ h => h) (k := 1) HS rfl _ rfl (fun _ => by rfl) ?_
          try simp only [Act.put, List.setIfInBounds_toArray, List.set_cons_zero, List.set_cons_succ]
          refine hk_reg 5 (some 60) rfl rfl (by kernel_rfl) (by kernel_rfl) (by kernel_rfl) (fun _ _ _ _ h => h) (k := 1) HS rfl _ rfl (fun _ => by rfl) ?_
          try simp only [Act.put, List.setIfInBounds_toArray, List.set_cons_zero, List.set_cons_succ]
          refine hk_reg 6 (some 61) rfl rfl (by kernel_rfl) (by kernel_rfl) (by kernel_rfl) (fun _ _ _ _ h => h) (k := 1) HS rfl _ rfl (fun _ => by rfl) ?_
          try simp only [Act.put, List.setIfInBounds_toArray, List.set_cons_zero, List.set_cons_succ]
          refine hk_x1 8 (by kernel_rfl) ?_
          refine hk_store_all 8 rfl rfl (k := 1) HS rfl 27 _ _ rfl rfl 0 _ _ _ rfl (by decide) rfl (Pg.lst p0) rfl (size_lst p0 HL0.out) (by show (pgLst 0 0 blankCells).length = _; rw [pgLst_length]; unfold Pg.lst; rw [pgLst_length, HL0.out]; rfl) (pgLst_one _ _ _) ?_
          clear HS; intro w HS
          try simp only [Act.put, List.setIfInBounds_toArray, List.set_cons_zero, List.set_cons_succ]
          refine hk_reg 9 (some 12) rfl rfl (by kernel_rfl) (by kernel_rfl) (by kernel_rfl) (fun _ _ _ _ h => h) (k := 1) HS rfl _ rfl (fun _ => by rfl) ?_
          try simp only [Act.put, List.setIfInBounds_toArray, List.set_cons_zero, List.set_cons_succ]
          refine hk_done (by kernel_rfl) ?_
          go_wp2_with fail
          go_meet
          exact ⟨_, rfl, rfl, HS⟩
      case rest =>
        clear HS
        obtain ⟨bz, rfl, rfl, HS⟩ := hcut
        go_upto_region 12 with (first | (refine sx_loads HS rfl 29 _ rfl 4 _ _ _ rfl _ rfl 6 sh29 [_, _, _, _, _, _] rfl ⟨rfl, rfl, rfl, rfl, rfl, rfl, trivial⟩ ?_) | (refine sx_loads HS rfl 29 _ rfl 3 _ _ _ rfl _ rfl 6 sh29 [_, _, _, _, _, _] rfl ⟨rfl, rfl, rfl, rfl, rfl, rfl, trivial⟩ ?_) | (go_at_call 13; refine (C4.out _).mono ?_; rintro e w ⟨rfl, hx⟩; replace HS := Lib.hid (HS.out.ext hx); clear hx) | (refine sx_alloc HS rfl 29 rfl _ zr29 ?_; clear HS; intro w bj HS) | (refine sx_stores HS rfl 29 _ _ rfl rfl 0 _ _ _ rfl _ rfl 6 sh29 [_, _, _, _, _, _] rfl rfl rfl rfl ?_; clear HS; intro w HS))
        replace HS : Hid (St (some c) q w2 w [(bj, 29, [.int .i64 1, .int .i64 asl, .bool pb, .string pd, .bool bab, .string bad]), (bz, 27, p0.lst), (by_, 27, p2.lst), (bx, 27, p1.lst), (bb, 29, [.int .i64 1, .int .i64 asl, .bool aab, .string aad, .bool bab, .string bad]), (ba, 29, [.int .i64 1, .int .i64 asl, .bool pb, .string pd, .bool aab, .string aad]), (bp, 27, p0.lst)]) := HS
        go_upto_region 13 with (first | (refine sx_load_all HS rfl 27 _ rfl 6 _ _ _ rfl rfl _ Try.underlying27 rfl (size_lst p0 HL0.out) ?_) | (refine sx_loads HS rfl 29 _ rfl 0 _ _ _ rfl _ rfl 6 sh29 [_, _, _, _, _, _] rfl ⟨rfl, rfl, rfl, rfl, rfl, rfl, trivial⟩ ?_) | (go_at_call 22; refine (C5.out _).mono ?_; rintro e w ⟨rfl, hx⟩; replace HS := Lib.hid (HS.out.ext hx); clear hx) | (refine sx_alloc HS rfl 27 rfl _ zero_page ?_; clear HS; intro w bk HS) | (refine sx_store_all HS rfl 27 _ _ rfl rfl 0 _ _ _ rfl rfl (Pg.lst p2) rfl (size_lst p2 HL2.out) (by show (pgLst 0 0 blankCells).length = _; rw [pgLst_length]; unfold Pg.lst; rw [pgLst_length, HL2.out]; rfl) (pgLst_one _ _ _) ?_; clear HS; intro w HS))
        replace HS : Hid (St (some c) q w2 w [(bk, 27, p2.lst), (bj, 29, [.int .i64 1, .int .i64 asl, .bool pb, .string pd, .bool bab, .string bad]), (bz, 27, p0.lst), (by_, 27, p2.lst), (bx, 27, p1.lst), (bb, 29, [.int .i64 1, .int .i64 asl, .bool aab, .string aad, .bool bab, .string bad]), (ba, 29, [.int .i64 1, .int .i64 asl, .bool pb, .string pd, .bool aab, .string aad]), (bp, 27, p0.lst)]) := HS
        go_cut [17, 18] (fun s17 s18 wx => ∃ bm, s17 = .pointer (some ⟨bm, 0, none⟩) ∧ s18 = .int .i64 0 ∧ Hid (St (some c) q w2 wx [(bm, 29, [.int .i64 1, .int .i64 asl, .bool bab, .string bad, .bool pb, .string pd]), (bk, 27, p2.lst), (bj, 29, [.int .i64 1, .int .i64 asl, .bool pb, .string pd, .bool bab, .string bad]), (bz, 27, p0.lst), (by_, 27, p2.lst), (bx, 27, p1.lst), (bb, 29, [.int .i64 1, .int .i64 asl, .bool aab, .string aad, .bool bab, .string bad]), (ba, 29, [.int .i64 1, .int .i64 asl, .bool pb, .string pd, .bool aab, .string aad]), (bp, 27, p0.lst)]))
        case first =>
          refine hk_begin HS (by kernel_rfl) ?_
          clear HS; intro w HS
          refine hk_loads 0 (some 75) rfl rfl (by kernel_rfl) (by kernel_rfl) (by kernel_rfl) (fun _ _ _ _ h => h) (k := 0) HS rfl rfl 29 _ rfl 5 _ _ _ rfl _ rfl 6 sh29 [_, _, _, _, _, _] rfl ⟨rfl, rfl, rfl, rfl, rfl, rfl, trivial⟩ ?_
          try simp only [Act.put, List.setIfInBounds_toArray, List.set_cons_zero, List.set_cons_succ]
          refine hk_loads 2 (some 77) rfl rfl (by kernel_rfl) (by kernel_rfl) (by kernel_rfl) (fun _ _ _ _ h => h) (k := 0) HS rfl rfl 29 _ rfl 6 _ _ _ rfl _ rfl 6 sh29 [_, _, _, _, _, _] rfl ⟨rfl, rfl, rfl, rfl, rfl, rfl, trivial⟩ ?_
          try simp only [Act.put, List.setIfInBounds_toArray, List.set_cons_zero, List.set_cons_succ]
          refine hk_x2 1 8 (by kernel_rfl) ?_ ?_
          · skip
            refine hk_call 1 (some 76) rfl rfl rfl (k := 0) HS rfl 17 _ _ rfl Try.func17 (by kernel_rfl) rfl _ _ (V2.out _) rfl ?_
            clear HS; intro w HS
            try simp only [Act.put, List.setIfInBounds_toArray, List.set_cons_zero, List.set_cons_succ]
            refine hk_x2 3 8 (by kernel_rfl) ?_ ?_
            · skip
              refine hk_call 3 (some 78) rfl rfl rfl (k := 0) HS rfl 17 _ _ rfl Try.func17 (by kernel_rfl) rfl _ _ (V1.out _) rfl ?_
              clear HS; intro w HS
              try simp only [Act.put, List.setIfInBounds_toArray, List.set_cons_zero, List.set_cons_succ]
              refine hk_x2 4 8 (by kernel_rfl) ?_ ?_
              · skip
                refine hk_call 4 (some 79) rfl rfl rfl (k := 0) HS rfl 13 _ _ rfl Try.func13 (by kernel_rfl) rfl _ _ (C6.out _) rfl ?_
                clear HS; intro w HS
                try simp only [Act.put, List.setIfInBounds_toArray, List.set_cons_zero, List.set_cons_succ]
                refine hk_reg 5 (some 74) rfl rfl (by kernel_rfl) (by kernel_rfl) (by kernel_rfl) (fun _ _ _ _ h => h) (k := 0) HS rfl _ rfl (fun _ => by rfl) ?_
                try simp only [Act.put, List.setIfInBounds_toArray, List.set_cons_zero, List.set_cons_succ]
                refine hk_reg 6 (some 80) rfl rfl (by kernel_rfl) (by kernel_rfl) (by kernel_rfl) (fun _ _ _ _ h => h) (k := 0) HS rfl _ rfl (fun _ => by rfl) ?_
                try simp only [Act.put, List.setIfInBounds_toArray, List.set_cons_zero, List.set_cons_succ]
                refine hk_reg 7 (some 81) rfl rfl (by kernel_rfl) (by kernel_rfl) (by kernel_rfl) (fun _ _ _ _ h => h) (k := 0) HS rfl _ rfl (fun _ => by rfl) ?_
                try simp only [Act.put, List.setIfInBounds_toArray, List.set_cons_zero, List.set_cons_succ]
                refine hk_x1 8 (by kernel_rfl) ?_
                refine hk_alloc 8 (some 17) rfl rfl rfl (k := 0) HS rfl 29 rfl _ zr29 ?_
                clear HS; intro w bk HS
                try simp only [Act.put, List.setIfInBounds_toArray, List.set_cons_zero, List.set_cons_succ]
                refine hk_x1 9 (by kernel_rfl) ?_
                refine hk_store_all 9 rfl rfl (k := 1) HS rfl 29 _ _ rfl rfl 0 _ _ _ rfl (by decide) rfl [_, _, _, _, _, _] rfl size_chg rfl rfl ?_
                clear HS; intro w HS
                try simp only [Act.put, List.setIfInBounds_toArray, List.set_cons_zero, List.set_cons_succ]
                refine hk_reg 10 (some 18) rfl rfl (by kernel_rfl) (by kernel_rfl) (by kernel_rfl) (fun _ _ _ _ h => h) (k := 1) HS rfl _ rfl (fun _ => by rfl) ?_
                try simp only [Act.put, List.setIfInBounds_toArray, List.set_cons_zero, List.set_cons_succ]
                refine hk_done (by kernel_rfl) ?_
                go_wp2_with fail
                go_meet
                exact ⟨_, rfl, rfl, HS⟩
              · skip
                refine hk_alloc 8 (some 17) rfl rfl rfl (k := 0) HS rfl 29 rfl _ zr29 ?_
                clear HS; intro w bk HS
                try simp only [Act.put, List.setIfInBounds_toArray, List.set_cons_zero, List.set_cons_succ]
                refine hk_x1 4 (by kernel_rfl) ?_
                refine hk_call 4 (some 79) rfl rfl rfl (k := 1) HS rfl 13 _ _ rfl Try.func13 (by kernel_rfl) rfl _ _ (C6.out _) rfl ?_
                clear HS; intro w HS
                try simp only [Act.put, List.setIfInBounds_toArray, List.set_cons_zero, List.set_cons_succ]
                refine hk_reg 5 (some 74) rfl rfl (by kernel_rfl) (by kernel_rfl) (by kernel_rfl) (fun _ _ _ _ h => h) (k := 1) HS rfl _ rfl (fun _ => by rfl) ?_
                try simp only [Act.put, List.setIfInBounds_toArray, List.set_cons_zero, List.set_cons_succ]
                refine hk_reg 6 (some 80) rfl rfl (by kernel_rfl) (by kernel_rfl) (by kernel_rfl) (fun _ _ _ _ h => h) (k := 1) HS rfl _ rfl (fun _ => by rfl) ?_
                try simp only [Act.put, List.setIfInBounds_toArray, List.set_cons_zero, List.set_cons_succ]
                refine hk_reg 7 (some 81) rfl rfl (by kernel_rfl) (by kernel_rfl) (by kernel_rfl) (fun _ _ _ _ h => h) (k := 1) HS rfl _ rfl (fun _ => by rfl) ?_
                try simp only [Act.put, List.setIfInBounds_toArray, List.set_cons_zero, List.set_cons_succ]
                refine hk_x1 9 (by kernel_rfl) ?_
                refine hk_store_all 9 rfl rfl (k := 1) HS rfl 29 _ _ rfl rfl 0 _ _ _ rfl (by decide) rfl [_, _, _, _, _, _] rfl size_chg rfl rfl ?_
                clear HS; intro w HS
                try simp only [Act.put, List.setIfInBounds_toArray, List.set_cons_zero, List.set_cons_succ]
                refine hk_reg 10 (some 18) rfl rfl (by kernel_rfl) (by kernel_rfl) (by kernel_rfl) (fun _ _ _ _ h => h) (k := 1) HS rfl _ rfl (fun _ => by rfl) ?_
                try simp only [Act.put, List.setIfInBounds_toArray, List.set_cons_zero, List.set_cons_succ]
                refine hk_done (by kernel_rfl) ?_
                go_wp2_with fail
                go_meet
                exact ⟨_, rfl, rfl, HS⟩
            · skip
              refine hk_alloc 8 (some 17) rfl rfl rfl (k := 0) HS rfl 29 rfl _ zr29 ?_
              clear HS; intro w bk HS
              try simp only [Act.put, List.setIfInBounds_toArray, List.set_cons_zero, List.set_cons_succ]
              refine hk_x1 3 (by kernel_rfl) ?_
              refine hk_call 3 (some 78) rfl rfl rfl (k := 1) HS rfl 17 _ _ rfl Try.func17 (by kernel_rfl) rfl _ _ (V1.out _) rfl ?_
              clear HS; intro w HS
              try simp only [Act.put, List.setIfInBounds_toArray, List.set_cons_zero, List.set_cons_succ]
              refine hk_x1 4 (by kernel_rfl) ?_
              refine hk_call 4 (some 79) rfl rfl rfl (k := 1) HS rfl 13 _ _ rfl Try.func13 (by kernel_rfl) rfl _ _ (C6.out _) rfl ?_
              clear HS; intro w HS
              try simp only [Act.put, List.setIfInBounds_toArray, List.set_cons_zero, List.set_cons_succ]
              refine hk_reg 5 (some 74) rfl rfl (by kernel_rfl) (by kernel_rfl) (by kernel_rfl) (fun _ _ _ _ h => h) (k := 1) HS rfl _ rfl (fun _ => by rfl) ?_
              try simp only [Act.put, List.setIfInBounds_toArray, List.set_cons_zero, List.set_cons_succ]
              refine hk_reg 6 (some 80) rfl rfl (by kernel_rfl) (by kernel_rfl) (by kernel_rfl) (fun _ _ _ _ h => h) (k := 1) HS rfl _ rfl (fun _ => by rfl) ?_
              try simp only [Act.put, List.setIfInBounds_toArray, List.set_cons_zero, List.set_cons_succ]
              refine hk_reg 7 (some 81) rfl rfl (by kernel_rfl) (by kernel_rfl) (by kernel_rfl) (fun _ _ _ _ h => h) (k := 1) HS rfl _ rfl (fun _ => by rfl) ?_
              try simp only [Act.put, List.setIfInBounds_toArray, List.set_cons_zero, List.set_cons_succ]
              refine hk_x1 9 (by kernel_rfl) ?_
              refine hk_store_all 9 rfl rfl (k := 1) HS rfl 29 _ _ rfl rfl 0 _ _ _ rfl (by decide) rfl [_, _, _, _, _, _] rfl size_chg rfl rfl ?_
              clear HS; intro w HS
              try simp only [Act.put, List.setIfInBounds_toArray, List.set_cons_zero, List.set_cons_succ]
              refine hk_reg 10 (some 18) rfl rfl (by kernel_rfl) (by kernel_rfl) (by kernel_rfl) (fun _ _ _ _ h => h) (k := 1) HS rfl _ rfl (fun _ => by rfl) ?_
              try simp only [Act.put, List.setIfInBounds_toArray, List.set_cons_zero, List.set_cons_succ]
              refine hk_done (by kernel_rfl) ?_
              go_wp2_with fail
              go_meet
              exact ⟨_, rfl, rfl, HS⟩
          · skip
            refine hk_alloc 8 (some 17) rfl rfl rfl (k := 0) HS rfl 29 rfl _ zr29 ?_
            clear HS; intro w bk HS
            try simp only [Act.put, List.setIfInBounds_toArray, List.set_cons_zero, List.set_cons_succ]
            refine hk_x1 1 (by kernel_rfl) ?_
            refine hk_call 1 (some 76) rfl rfl rfl (k := 1) HS rfl 17 _ _ rfl Try.func17 (by kernel_rfl) rfl _ _ (V2.out _) rfl ?_
            clear HS; intro w HS
            try simp only [Act.put, List.setIfInBounds_toArray, List.set_cons_zero, List.set_cons_succ]
            refine hk_x1 3 (by kernel_rfl) ?_
            refine hk_call 3 (some 78) rfl rfl rfl (k := 1) HS rfl 17 _ _ rfl Try.func17 (by kernel_rfl) rfl _ _ (V1.out _) rfl ?_
            clear HS; intro w HS
            try simp only [Act.put, List.setIfInBounds_toArray, List.set_cons_zero, List.set_cons_succ]
            refine hk_x1 4 (by kernel_rfl) ?_
            refine hk_call 4 (some 79) rfl rfl rfl (k := 1) HS rfl 13 _ _ rfl Try.func13 (by kernel_rfl) rfl _ _ (C6.out _) rfl ?_
            clear HS; intro w HS
            try simp only [Act.put, List.setIfInBounds_toArray, List.set_cons_zero, List.set_cons_succ]
            refine hk_reg 5 (some 74) rfl rfl (by kernel_rfl) (by kernel_rfl) (by kernel_rfl) (fun _ _ _ _ h => h) (k := 1) HS rfl _ rfl (fun _ => by rfl) ?_
            try simp only [Act.put, List.setIfInBounds_toArray, List.set_cons_zero, List.set_cons_succ]
            refine hk_reg 6 (some 80) rfl rfl (by kernel_rfl) (by kernel_rfl) (by kernel_rfl) (fun _ _ _ _ h => h) (k := 1) HS rfl _ rfl (fun _ => by rfl) ?_
            try simp only [Act.put, List.setIfInBounds_toArray, List.set_cons_zero, List.set_cons_succ]
            refine hk_reg 7 (some 81) rfl rfl (by kernel_rfl) (by kernel_rfl) (by kernel_rfl) (fun _ _ _ _ h => h) (k := 1) HS rfl _ rfl (fun _ => by rfl) ?_
            try simp only [Act.put, List.setIfInBounds_toArray, List.set_cons_zero, List.set_cons_succ]
            refine hk_x1 9 (by kernel_rfl) ?_
            refine hk_store_all 9 rfl rfl (k := 1) HS rfl 29 _ _ rfl rfl 0 _ _ _ rfl (by decide) rfl [_, _, _, _, _, _] rfl size_chg rfl rfl ?_
            clear HS; intro w HS
            try simp only [Act.put, List.setIfInBounds_toArray, List.set_cons_zero, List.set_cons_succ]
            refine hk_reg 10 (some 18) rfl rfl (by kernel_rfl) (by kernel_rfl) (by kernel_rfl) (fun _ _ _ _ h => h) (k := 1) HS rfl _ rfl (fun _ => by rfl) ?_
            try simp only [Act.put, List.setIfInBounds_toArray, List.set_cons_zero, List.set_cons_succ]
            refine hk_done (by kernel_rfl) ?_
            go_wp2_with fail
            go_meet
            exact ⟨_, rfl, rfl, HS⟩
        case rest =>
          clear HS
          obtain ⟨bm, rfl, rfl, HS⟩ := hcut
          clear C1 C2 C3 C4 C5 C6 V1 V2
          go_wp2_with fail
          refine hk_begin HS (by kernel_rfl) ?_
          clear HS; intro w HS
          refine hk_reg 0 (some 82) rfl rfl (by kernel_rfl) (by kernel_rfl) (by kernel_rfl) (fun _ _ _ _ h => h) (k := 0) HS rfl (.int .i64 0) rfl (fun _ => by rfl) ?_
          try simp only [Act.put, List.setIfInBounds_toArray, List.set_cons_zero, List.set_cons_succ]
          refine hk_reg 1 (some 83) rfl rfl (by kernel_rfl) (by kernel_rfl) (by kernel_rfl) (fun _ _ _ _ h => h) (k := 0) HS rfl (.bool true) rfl (fun _ => by go_simp) ?_
          try simp only [Act.put, List.setIfInBounds_toArray, List.set_cons_zero, List.set_cons_succ]
          refine hk_reg 2 (some 84) rfl rfl (by kernel_rfl) (by kernel_rfl) (by kernel_rfl) (fun _ _ _ _ h => h) (k := 0) HS rfl (.bool true) rfl (fun _ => by rfl) ?_
          try simp only [Act.put, List.setIfInBounds_toArray, List.set_cons_zero, List.set_cons_succ]
          refine hk_reg 3 (some 85) rfl rfl (by kernel_rfl) (by kernel_rfl) (by kernel_rfl) (fun _ _ _ _ h => h) (k := 0) HS rfl (.int .i64 0) rfl (fun _ => by rfl) ?_
          try simp only [Act.put, List.setIfInBounds_toArray, List.set_cons_zero, List.set_cons_succ]
          refine hk_reg 4 (some 86) rfl rfl (by kernel_rfl) (by kernel_rfl) (by kernel_rfl) (fun _ _ _ _ h => h) (k := 0) HS rfl (.bool true) rfl (fun _ => by go_simp) ?_
          try simp only [Act.put, List.setIfInBounds_toArray, List.set_cons_zero, List.set_cons_succ]
          refine hk_reg 5 (some 87) rfl rfl (by kernel_rfl) (by kernel_rfl) (by kernel_rfl) (fun _ _ _ _ h => h) (k := 0) HS rfl (.bool true) rfl (fun _ => by rfl) ?_
          try simp only [Act.put, List.setIfInBounds_toArray, List.set_cons_zero, List.set_cons_succ]
          refine hk_reg 6 (some 88) rfl rfl (by kernel_rfl) (by kernel_rfl) (by kernel_rfl) (fun _ _ _ _ h => h) (k := 0) HS rfl (.bool true) rfl (fun _ => by rfl) ?_
          try simp only [Act.put, List.setIfInBounds_toArray, List.set_cons_zero, List.set_cons_succ]
          refine hk_reg 7 (some 89) rfl rfl (by kernel_rfl) (by kernel_rfl) (by kernel_rfl) (fun _ _ _ _ h => h) (k := 0) HS rfl (.int .i64 0) rfl (fun _ => by rfl) ?_
          try simp only [Act.put, List.setIfInBounds_toArray, List.set_cons_zero, List.set_cons_succ]
          refine hk_reg 8 (some 90) rfl rfl (by kernel_rfl) (by kernel_rfl) (by kernel_rfl) (fun _ _ _ _ h => h) (k := 0) HS rfl (.bool true) rfl (fun _ => by go_simp) ?_
          try simp only [Act.put, List.setIfInBounds_toArray, List.set_cons_zero, List.set_cons_succ]
          refine hk_reg 9 (some 91) rfl rfl (by kernel_rfl) (by kernel_rfl) (by kernel_rfl) (fun _ _ _ _ h => h) (k := 0) HS rfl (.bool true) rfl (fun _ => by rfl) ?_
          try simp only [Act.put, List.setIfInBounds_toArray, List.set_cons_zero, List.set_cons_succ]
          refine hk_reg 10 (some 92) rfl rfl (by kernel_rfl) (by kernel_rfl) (by kernel_rfl) (fun _ _ _ _ h => h) (k := 0) HS rfl (.bool true) rfl (fun _ => by rfl) ?_
          try simp only [Act.put, List.setIfInBounds_toArray, List.set_cons_zero, List.set_cons_succ]
          refine hk_reg 11 (some 93) rfl rfl (by kernel_rfl) (by kernel_rfl) (by kernel_rfl) (fun _ _ _ _ h => h) (k := 0) HS rfl (.int .i64 0) rfl (fun _ => by rfl) ?_
          try simp only [Act.put, List.setIfInBounds_toArray, List.set_cons_zero, List.set_cons_succ]
          refine hk_reg 12 (some 94) rfl rfl (by kernel_rfl) (by kernel_rfl) (by kernel_rfl) (fun _ _ _ _ h => h) (k := 0) HS rfl (.bool true) rfl (fun _ => by go_simp) ?_
          try simp only [Act.put, List.setIfInBounds_toArray, List.set_cons_zero, List.set_cons_succ]
          refine hk_reg 13 (some 95) rfl rfl (by kernel_rfl) (by kernel_rfl) (by kernel_rfl) (fun _ _ _ _ h => h) (k := 0) HS rfl (.bool true) rfl (fun _ => by rfl) ?_
          try simp only [Act.put, List.setIfInBounds_toArray, List.set_cons_zero, List.set_cons_succ]
          refine hk_reg 14 (some 96) rfl rfl (by kernel_rfl) (by kernel_rfl) (by kernel_rfl) (fun _ _ _ _ h => h) (k := 0) HS rfl (.bool true) rfl (fun _ => by rfl) ?_
          try simp only [Act.put, List.setIfInBounds_toArray, List.set_cons_zero, List.set_cons_succ]
          refine hk_reg 15 (some 97) rfl rfl (by kernel_rfl) (by kernel_rfl) (by kernel_rfl) (fun _ _ _ _ h => h) (k := 0) HS rfl (.int .i64 0) rfl (fun _ => by rfl) ?_
          try simp only [Act.put, List.setIfInBounds_toArray, List.set_cons_zero, List.set_cons_succ]
          refine hk_reg 16 (some 98) rfl rfl (by kernel_rfl) (by kernel_rfl) (by kernel_rfl) (fun _ _ _ _ h => h) (k := 0) HS rfl (.bool true) rfl (fun _ => by go_simp) ?_
          try simp only [Act.put, List.setIfInBounds_toArray, List.set_cons_zero, List.set_cons_succ]
          refine hk_reg 17 (some 99) rfl rfl (by kernel_rfl) (by kernel_rfl) (by kernel_rfl) (fun _ _ _ _ h => h) (k := 0) HS rfl (.bool true) rfl (fun _ => by rfl) ?_
          try simp only [Act.put, List.setIfInBounds_toArray, List.set_cons_zero, List.set_cons_succ]
          refine hk_reg 18 (some 100) rfl rfl (by kernel_rfl) (by kernel_rfl) (by kernel_rfl) (fun _ _ _ _ h => h) (k := 0) HS rfl (.bool true) rfl (fun _ => by rfl) ?_
          try simp only [Act.put, List.setIfInBounds_toArray, List.set_cons_zero, List.set_cons_succ]
          refine hk_reg 19 (some 101) rfl rfl (by kernel_rfl) (by kernel_rfl) (by kernel_rfl) (fun _ _ _ _ h => h) (k := 0) HS rfl (.int .i64 0) rfl (fun _ => by rfl) ?_
          try simp only [Act.put, List.setIfInBounds_toArray, List.set_cons_zero, List.set_cons_succ]
          refine hk_reg 20 (some 102) rfl rfl (by kernel_rfl) (by kernel_rfl) (by kernel_rfl) (fun _ _ _ _ h => h) (k := 0) HS rfl (.bool true) rfl (fun _ => by go_simp) ?_
          try simp only [Act.put, List.setIfInBounds_toArray, List.set_cons_zero, List.set_cons_succ]
          refine hk_reg 21 (some 103) rfl rfl (by kernel_rfl) (by kernel_rfl) (by kernel_rfl) (fun _ _ _ _ h => h) (k := 0) HS rfl (.bool true) rfl (fun _ => by rfl) ?_
          try simp only [Act.put, List.setIfInBounds_toArray, List.set_cons_zero, List.set_cons_succ]
          refine hk_reg 22 (some 104) rfl rfl (by kernel_rfl) (by kernel_rfl) (by kernel_rfl) (fun _ _ _ _ h => h) (k := 0) HS rfl (.bool true) rfl (fun _ => by rfl) ?_
          try simp only [Act.put, List.setIfInBounds_toArray, List.set_cons_zero, List.set_cons_succ]
          refine hk_load_all 23 (some 105) rfl rfl (by kernel_rfl) (by kernel_rfl) (by kernel_rfl) (fun _ _ _ _ h => h) (k := 0) HS rfl rfl 27 _ rfl 3 _ _ _ rfl rfl _ Try.underlying27 rfl (size_lst p0 HL0.out) ?_
          try simp only [Act.put, List.setIfInBounds_toArray, List.set_cons_zero, List.set_cons_succ]
          refine hk_load_all 24 (some 106) rfl rfl (by kernel_rfl) (by kernel_rfl) (by kernel_rfl) (fun _ _ _ _ h => h) (k := 0) HS rfl rfl 27 _ rfl 8 _ _ _ rfl rfl _ Try.underlying27 rfl (size_lst p0 HL0.out) ?_
          try simp only [Act.put, List.setIfInBounds_toArray, List.set_cons_zero, List.set_cons_succ]
          refine hk_reg 25 (some 107) rfl rfl (by kernel_rfl) (by kernel_rfl) (by kernel_rfl) (fun _ _ _ _ h => h) (k := 0) HS rfl (.bool true) rfl (fun _ => by exact run_binop rfl rfl rfl (guard_page ..) (eql_page p0 HL0.out _)) ?_
          try simp only [Act.put, List.setIfInBounds_toArray, List.set_cons_zero, List.set_cons_succ]
          refine hk_reg 26 (some 108) rfl rfl (by kernel_rfl) (by kernel_rfl) (by kernel_rfl) (fun _ _ _ _ h => h) (k := 0) HS rfl (.bool true) rfl (fun _ => by rfl) ?_
          try simp only [Act.put, List.setIfInBounds_toArray, List.set_cons_zero, List.set_cons_succ]
          refine hk_reg 27 (some 109) rfl rfl (by kernel_rfl) (by kernel_rfl) (by kernel_rfl) (fun _ _ _ _ h => h) (k := 0) HS rfl (.bool true) rfl (fun _ => by rfl) ?_
          try simp only [Act.put, List.setIfInBounds_toArray, List.set_cons_zero, List.set_cons_succ]
          refine hk_load_all 28 (some 110) rfl rfl (by kernel_rfl) (by kernel_rfl) (by kernel_rfl) (fun _ _ _ _ h => h) (k := 0) HS rfl rfl 27 _ rfl 1 _ _ _ rfl rfl _ Try.underlying27 rfl (size_lst p2 HL2.out) ?_
          try simp only [Act.put, List.setIfInBounds_toArray, List.set_cons_zero, List.set_cons_succ]
          refine hk_load_all 29 (some 111) rfl rfl (by kernel_rfl) (by kernel_rfl) (by kernel_rfl) (fun _ _ _ _ h => h) (k := 0) HS rfl rfl 27 _ rfl 4 _ _ _ rfl rfl _ Try.underlying27 rfl (size_lst p2 HL2.out) ?_
          try simp only [Act.put, List.setIfInBounds_toArray, List.set_cons_zero, List.set_cons_succ]
          refine hk_reg 30 (some 112) rfl rfl (by kernel_rfl) (by kernel_rfl) (by kernel_rfl) (fun _ _ _ _ h => h) (k := 0) HS rfl (.bool true) rfl (fun _ => by exact run_binop rfl rfl rfl (guard_page ..) (eql_page p2 HL2.out _)) ?_
          try simp only [Act.put, List.setIfInBounds_toArray, List.set_cons_zero, List.set_cons_succ]
          refine hk_reg 31 (some 113) rfl rfl (by kernel_rfl) (by kernel_rfl) (by kernel_rfl) (fun _ _ _ _ h => h) (k := 0) HS rfl (.bool true) rfl (fun _ => by rfl) ?_
          try simp only [Act.put, List.setIfInBounds_toArray, List.set_cons_zero, List.set_cons_succ]
          refine hk_reg 32 (some 114) rfl rfl (by kernel_rfl) (by kernel_rfl) (by kernel_rfl) (fun _ _ _ _ h => h) (k := 0) HS rfl (.bool true) rfl (fun _ => by rfl) ?_
          try simp only [Act.put, List.setIfInBounds_toArray, List.set_cons_zero, List.set_cons_succ]
          refine hk_loads 33 (some 115) rfl rfl (by kernel_rfl) (by kernel_rfl) (by kernel_rfl) (fun _ _ _ _ h => h) (k := 0) HS rfl rfl 29 _ rfl 0 _ _ _ rfl _ rfl 6 sh29 [_, _, _, _, _, _] rfl ⟨rfl, rfl, rfl, rfl, rfl, rfl, trivial⟩ ?_
          try simp only [Act.put, List.setIfInBounds_toArray, List.set_cons_zero, List.set_cons_succ]
          refine hk_loads 34 (some 116) rfl rfl (by kernel_rfl) (by kernel_rfl) (by kernel_rfl) (fun _ _ _ _ h => h) (k := 0) HS rfl rfl 29 _ rfl 2 _ _ _ rfl _ rfl 6 sh29 [_, _, _, _, _, _] rfl ⟨rfl, rfl, rfl, rfl, rfl, rfl, trivial⟩ ?_
          try simp only [Act.put, List.setIfInBounds_toArray, List.set_cons_zero, List.set_cons_succ]
          refine hk_x1 35 (by kernel_rfl) ?_
          refine hk_call 35 (some 117) rfl rfl rfl (k := 0) HS rfl 17 _ _ rfl Try.func17 (by kernel_rfl) rfl _ _ (V3.out _) rfl ?_
          clear HS; intro w HS
          try simp only [Act.put, List.setIfInBounds_toArray, List.set_cons_zero, List.set_cons_succ]
          refine hk_reg 36 (some 118) rfl rfl (by kernel_rfl) (by kernel_rfl) (by kernel_rfl) (fun _ _ _ _ h => h) (k := 0) HS rfl (.bool true) rfl (fun _ => by exact run_binop rfl rfl rfl (guard_chg ..) (eql_chg ⟨1, asl, bab, bad, pb, pd⟩ _)) ?_
          try simp only [Act.put, List.setIfInBounds_toArray, List.set_cons_zero, List.set_cons_succ]
          refine hk_reg 37 (some 119) rfl rfl (by kernel_rfl) (by kernel_rfl) (by kernel_rfl) (fun _ _ _ _ h => h) (k := 0) HS rfl (.bool true) rfl (fun _ => by rfl) ?_
          try simp only [Act.put, List.setIfInBounds_toArray, List.set_cons_zero, List.set_cons_succ]
          refine hk_reg 38 (some 2) rfl rfl (by kernel_rfl) (by kernel_rfl) (by kernel_rfl) (fun _ _ _ _ h => h) (k := 0) HS rfl (.bool true) rfl (fun _ => by rfl) ?_
          try simp only [Act.put, List.setIfInBounds_toArray, List.set_cons_zero, List.set_cons_succ]
          refine hk_done (by kernel_rfl) ?_
          go_wp2_with fail
          go_ret
          exact ⟨rfl, HX2.out.only HS.out.isOnly hc0⟩
end Go.Proofs.Ytlbhoepfcedkdaa
