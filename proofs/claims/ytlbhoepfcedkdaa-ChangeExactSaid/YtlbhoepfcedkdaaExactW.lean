/-
  ChangeExact: the walk.
-/
import Derived.Test.YtlbhoepfcedkdaaExactA
namespace Go.Proofs.Ytlbhoepfcedkdaa
open Go.RowKit
set_option maxHeartbeats 8000000 in
set_option maxRecDepth 100000 in
theorem exact_walk (a : Option Addr) (len cap : Nat) (A : Pg) (X Y : Chg) (hA : A.cells.length = 16) (w0 : World) (hb : BytesIn w0 a len) (hlc : len ≤ cap) (hmax : cap ≤ maxLen) :
    Calls Try.prog 3 #[.slice a len cap, .agg A.arr, .agg X.arr, .agg Y.arr] w0 fun e w' => e = .returned (.bool true) ∧ Ext w0 w' := by
  have HB := Lib.hid hb
  have HM := Lib.hid hmax
  have HA := Lib.hid hA
  clear hb hmax hA
  have HS : Hid (St none default w0 w0 []) := St.start w0
  go_enter Try.func3, Try.ntmps3
  go_wp2_with (first | (refine sx_box HS rfl _ _ rfl A.lst rfl ?_; clear HS; intro w b5 HS) | (refine sx_box HS rfl _ _ rfl X.lst rfl ?_; clear HS; intro w b6 HS) | (refine sx_box HS rfl _ _ rfl Y.lst rfl ?_; clear HS; intro w b7 HS))
  refine (awake_any _).mono ?_
  rintro e w ⟨rfl, hx⟩
  replace HS := Lib.hid (HS.out.ext hx)
  clear hx
  have HB1 : Hid (BytesIn w a len) := BytesIn.ext HB.out HS.out.isExt
  go_wp2_with fail
  have hsz := HS.out.size
  have hlt5 := (HS.out.box (i := 2) rfl).lt
  have hlt6 := (HS.out.box (i := 1) rfl).lt
  have hlt7 := (HS.out.box (i := 0) rfl).lt
  refine (new_any a len cap 160 _ HB1.out hlc (by omega) (by omega) HM.out).mono ?_
  rintro e w2 ⟨c, q, rfl, hc, hx, hcd⟩
  replace HS := Lib.hid (HS.out.ext hx)
  have H5 : Hid (Old w2 c b5 27 A.lst) := Old.of (HS.out.box (i := 2) rfl) hlt5 hc
  have H6 : Hid (Old w2 c b6 29 X.lst) := Old.of (HS.out.box (i := 1) rfl) hlt6 hc
  have H7 : Hid (Old w2 c b7 29 Y.lst) := Old.of (HS.out.box (i := 0) rfl) hlt7 hc
  have HX := Lib.hid HS.out.isExt
  have hc0 : w0.heap.size ≤ c := Nat.le_trans hsz hc
  clear HS hlt5 hlt6 hlt7 hx HB1 HB hc hsz
  have HS : Hid (St (some c) q w2 w2 []) := St.startC hcd
  clear hcd
  go_wp2_with fail
  refine (next_any q c 3 _ HS.out.code (by omega)).mono ?_
  rintro e w ⟨r3, rfl, hr, _, ho, hcd⟩
  replace HS := Lib.hid (HS.out.draws ho hcd)
  have hr3 : r3 < 3 := by have := hr (by omega); omega
  clear ho hcd hr
  go_wp2_with fail
  refine (page_any q c r3 _ HS.out.code).mono ?_
  rintro e w ⟨lsn, l, rfl, _, _, hl, hok, ho, hcd⟩
  replace HS := Lib.hid (HS.out.draws ho hcd)
  obtain ⟨P, hP⟩ : ∃ P : Pg, P = ⟨r3, lsn, l⟩ := ⟨_, rfl⟩
  have eP : pgArr r3 lsn l = P.arr := by rw [hP]; rfl
  rw [eP]
  have HLP : Hid (P.cells.length = 16) := by rw [hP]; exact hl
  clear hl hok ho hcd eP hP
  go_wp2_with (first | (refine sx_alloc HS rfl 27 rfl _ zero_page ?_; clear HS; intro w b10 HS) | (refine sx_store_all HS rfl 27 _ _ rfl rfl 0 _ _ _ rfl rfl P.lst rfl 34 sh27 (lst_len HLP.out) (by rw [lst_len HLP.out]; rfl) (pgLst_one _ _ _) ?_; clear HS; intro w HS))
  replace HS : Hid (St (some c) q w2 w [(b10, 27, P.lst)]) := HS
  refine (change_any q c _ HS.out.code).mono ?_
  rintro e w ⟨xp, xs, x1, x2, x3, x4, rfl, hxp, hxs, _, _, ho, hcd⟩
  replace HS := Lib.hid (HS.out.draws ho hcd)
  clear ho hcd
  go_wp2_with fail
  refine (change_any q c _ HS.out.code).mono ?_
  rintro e w ⟨yp, ys, y1, y2, y3, y4, rfl, hyp, hys, _, _, ho, hcd⟩
  replace HS := Lib.hid (HS.out.draws ho hcd)
  clear ho hcd
  have tok1 : True := trivial
  go_wp2_with (first | (have _t := tok1; refine sx_alloc HS rfl 29 rfl _ zr29 ?_; clear HS tok1; intro w b11 HS) | (refine sx_alloc HS rfl 29 rfl _ zr29 ?_; clear HS; intro w b12 HS) | (refine sx_stores HS rfl 29 _ _ rfl rfl 1 _ _ _ rfl _ rfl 6 sh29 [.int .i64 xp, .int .i64 xs, .bool x1, .string x2, .bool x3, .string x4] rfl rfl rfl rfl ?_; clear HS; intro w HS) | (refine sx_stores HS rfl 29 _ _ rfl rfl 0 _ _ _ rfl _ rfl 6 sh29 [.int .i64 yp, .int .i64 ys, .bool y1, .string y2, .bool y3, .string y4] rfl rfl rfl rfl ?_; clear HS; intro w HS))
  replace HS : Hid (St (some c) q w2 w [(b12, 29, [.int .i64 yp, .int .i64 ys, .bool y1, .string y2, .bool y3, .string y4]), (b11, 29, [.int .i64 xp, .int .i64 xs, .bool x1, .string x2, .bool x3, .string x4]), (b10, 27, P.lst)]) := HS
  have hxs16 : xs < 16 := by omega
  obtain ⟨pb, pd, hpc⟩ : ∃ pb pd, P.cell xs = (pb, pd) := ⟨_, _, rfl⟩
  have hcell := Pg.get HLP.out xs hxs16
  rw [hpc] at hcell
  have g0 := (HS.out.box (i := 2) rfl).cell hcell.1
  have g1 := (HS.out.box (i := 2) rfl).cell hcell.2
  have gi := (HS.out.box (i := 2) rfl).cell (o := 0) (v := Value.int .i64 P.id) rfl
  have k0 := (HS.out.box (i := 1) rfl).cell (o := 0) (v := (.int .i64 (xp : Int) : Value)) rfl
  have k1 := (HS.out.box (i := 1) rfl).cell (o := 1) (v := (.int .i64 (xs : Int) : Value)) rfl
  have k2 := (HS.out.box (i := 1) rfl).cell (o := 2) (v := (.bool x1 : Value)) rfl
  have k3 := (HS.out.box (i := 1) rfl).cell (o := 3) (v := (.string x2 : Value)) rfl
  have f0 := (HS.out.box (i := 1) rfl).free 0
  have f2 := (HS.out.box (i := 1) rfl).free 2
  have f3 := (HS.out.box (i := 1) rfl).free 3
  have hxsi : (xs : Int) < 16 := by omega
  have hne : b10 ≠ b11 := HS.out.own.2.2.2.2.2.1 _ (List.mem_cons_self ..)
  have hne' : b11 ≠ b10 := Ne.symm hne
  clear hcell hpc
  try simp only [Act.put, List.setIfInBounds_toArray, List.set_cons_zero, List.set_cons_succ]
  go_cut [43] (fun _ wx => Hid (St (some c) q w2 wx [(b12, 29, [.int .i64 yp, .int .i64 ys, .bool y1, .string y2, .bool y3, .string y4]), (b11, 29, [.int .i64 P.id, .int .i64 xs, .bool pb, .string pd, .bool x3, .string x4]), (b10, 27, P.lst)]))
  case first =>
    have HS6 := Lib.hid (((HS.out.set1 (i := 1) rfl 0 (.int .i64 P.id)).set1 (i := 1) rfl 2 (.bool pb)).set1 (i := 1) rfl 3 (.string pd)).drew
    clear HS
    go_region
    all_goals (try go_wp2_with fail)
    all_goals (go_meet; exact HS6)
  case rest =>
    clear HS g0 g1 gi k0 k1 k2 k3 f0 f2 f3 hne hne'
    have HS := hcut
    clear hcut
    go_wp2_with fail
    refine (next_any q c 2 _ HS.out.code (by omega)).mono ?_
    rintro e w ⟨r2, rfl, hr, _, ho, hcd⟩
    replace HS := Lib.hid (HS.out.draws ho hcd)
    have hr2 : r2 < 2 := by have := hr (by omega); omega
    clear ho hcd hr
    go_upto_if 48 with (fail)
    go_cut [54] (fun _ wx => ∃ y : Chg, Hid (St (some c) q w2 wx [(b12, 29, y.lst), (b11, 29, (⟨P.id, xs, pb, pd, x3, x4⟩ : Chg).lst), (b10, 27, P.lst)]))
    case first =>
      by_cases h0 : r2 = 0
      · subst h0
        go_wp2_with fail
        have k0 := (HS.out.box (i := 1) rfl).cell (o := 0) (v := (.int .i64 P.id : Value)) rfl
        have k1 := (HS.out.box (i := 1) rfl).cell (o := 1) (v := (.int .i64 (xs : Int) : Value)) rfl
        have k4 := (HS.out.box (i := 1) rfl).cell (o := 4) (v := (.bool x3 : Value)) rfl
        have k5 := (HS.out.box (i := 1) rfl).cell (o := 5) (v := (.string x4 : Value)) rfl
        have m0 := (HS.out.box (i := 0) rfl).cell (o := 0) (v := (.int .i64 (yp : Int) : Value)) rfl
        have f0 := (HS.out.box (i := 0) rfl).free 0
        have m1 := (HS.out.box (i := 0) rfl).cell (o := 1) (v := (.int .i64 (ys : Int) : Value)) rfl
        have f1 := (HS.out.box (i := 0) rfl).free 1
        have m2 := (HS.out.box (i := 0) rfl).cell (o := 2) (v := (.bool y1 : Value)) rfl
        have f2 := (HS.out.box (i := 0) rfl).free 2
        have m3 := (HS.out.box (i := 0) rfl).cell (o := 3) (v := (.string y2 : Value)) rfl
        have f3 := (HS.out.box (i := 0) rfl).free 3
        have hne : b11 ≠ b12 := HS.out.own.2.2.1 _ (List.mem_cons_self ..)
        have hne' : b12 ≠ b11 := Ne.symm hne
        have HS7 : Hid (∃ y : Chg, Hid (St (some c) q w2 _ [(b12, 29, y.lst), (b11, 29, (⟨P.id, xs, pb, pd, x3, x4⟩ : Chg).lst), (b10, 27, P.lst)])) := ⟨⟨P.id, xs, x3, x4, y3, y4⟩, Lib.hid ((((HS.out.set1 (i := 0) rfl 0 (.int .i64 P.id)).set1 (i := 0) rfl 1 (.int .i64 xs)).set1 (i := 0) rfl 2 (.bool x3)).set1 (i := 0) rfl 3 (.string x4)).drew⟩
        clear HS
        go_region
        all_goals (try go_wp2_with fail)
        all_goals (go_meet; exact HS7.out)
      · go_wp2_with fail
        go_meet
        exact ⟨⟨yp, ys, y1, y2, y3, y4⟩, HS⟩
    case rest =>
      obtain ⟨y, HS7⟩ := hcut
      clear HS
      have HS := HS7
      clear HS7
      obtain ⟨x, hx⟩ : ∃ x : Chg, x = (⟨P.id, xs, pb, pd, x3, x4⟩ : Chg) := ⟨_, rfl⟩
      rw [← hx] at HS
      clear hx hxs16 hxsi
      go_wp2_with fail
      refine hg_begin [(b12, 29, y.lst), (b11, 29, x.lst), (b10, 27, P.lst)] HS (by kernel_rfl) ?_
      clear HS; intro w HS
      refine hg_loadsW 0 (some 58) rfl rfl (by kernel_rfl) (by kernel_rfl) (by kernel_rfl) (fun _ _ _ _ h => h) HS (by simp) rfl 29 _ rfl b6 _ _ (fun w2 h => St.atOld h H6.out) 0 rfl 6 sh29 X.lst (rfl) (by simpa using cellsAt_self [] X.lst) ?_
      try simp only [Act.put, List.setIfInBounds_toArray, List.set_cons_zero, List.set_cons_succ]
      refine hg_loadsW 1 (some 59) rfl rfl (by kernel_rfl) (by kernel_rfl) (by kernel_rfl) (fun _ _ _ _ h => h) HS (by simp) rfl 29 _ rfl b7 _ _ (fun w2 h => St.atOld h H7.out) 0 rfl 6 sh29 Y.lst (rfl) (by simpa using cellsAt_self [] Y.lst) ?_
      try simp only [Act.put, List.setIfInBounds_toArray, List.set_cons_zero, List.set_cons_succ]
      refine hg_reg 2 (some 60) rfl rfl (by kernel_rfl) (by kernel_rfl) (by kernel_rfl) (fun _ _ _ _ h => h) HS (by simp) (.agg (pairC (X, Y)).toArray) rfl (fun _ => run_buildop (parts := [(0, .tmp 58), (1, .tmp 59)]) rfl rfl (built_pairC X Y)) ?_
      try simp only [Act.put, List.setIfInBounds_toArray, List.set_cons_zero, List.set_cons_succ]
      refine hg_loads 3 (some 61) rfl rfl (by kernel_rfl) (by kernel_rfl) (by kernel_rfl) (fun _ _ _ _ h => h) HS (by simp) rfl 29 _ rfl 1 _ _ _ rfl 0 rfl 6 sh29 x.lst (rfl) (by simpa using cellsAt_self [] x.lst) ?_
      try simp only [Act.put, List.setIfInBounds_toArray, List.set_cons_zero, List.set_cons_succ]
      refine hg_loads 4 (some 62) rfl rfl (by kernel_rfl) (by kernel_rfl) (by kernel_rfl) (fun _ _ _ _ h => h) HS (by simp) rfl 29 _ rfl 0 _ _ _ rfl 0 rfl 6 sh29 y.lst (rfl) (by simpa using cellsAt_self [] y.lst) ?_
      try simp only [Act.put, List.setIfInBounds_toArray, List.set_cons_zero, List.set_cons_succ]
      refine hg_reg 5 (some 63) rfl rfl (by kernel_rfl) (by kernel_rfl) (by kernel_rfl) (fun _ _ _ _ h => h) HS (by simp) (.agg (pairC (x, y)).toArray) rfl (fun _ => run_buildop (parts := [(0, .tmp 61), (1, .tmp 62)]) rfl rfl (built_pairC x y)) ?_
      try simp only [Act.put, List.setIfInBounds_toArray, List.set_cons_zero, List.set_cons_succ]
      refine hg_reg 6 (some 64) rfl rfl (by kernel_rfl) (by kernel_rfl) (by kernel_rfl) (fun _ _ _ _ h => h) HS (by simp) (.pointer (some ⟨c, 0, none⟩)) rfl (fun _ => by rfl) ?_
      try simp only [Act.put, List.setIfInBounds_toArray, List.set_cons_zero, List.set_cons_succ]
      refine hg_loads 7 (some 65) rfl rfl (by kernel_rfl) (by kernel_rfl) (by kernel_rfl) (fun _ _ _ _ h => h) HS (by simp) rfl 29 _ rfl 1 _ _ _ rfl 0 rfl 6 sh29 x.lst (rfl) (by simpa using cellsAt_self [] x.lst) ?_
      try simp only [Act.put, List.setIfInBounds_toArray, List.set_cons_zero, List.set_cons_succ]
      refine hg_loads 9 (some 67) rfl rfl (by kernel_rfl) (by kernel_rfl) (by kernel_rfl) (fun _ _ _ _ h => h) HS (by simp) rfl 29 _ rfl 0 _ _ _ rfl 0 rfl 6 sh29 y.lst (rfl) (by simpa using cellsAt_self [] y.lst) ?_
      try simp only [Act.put, List.setIfInBounds_toArray, List.set_cons_zero, List.set_cons_succ]
      refine hg_loads 11 (some 69) rfl rfl (by kernel_rfl) (by kernel_rfl) (by kernel_rfl) (fun _ _ _ _ h => h) HS (by simp) rfl 29 _ rfl 1 _ _ _ rfl 0 rfl 6 sh29 x.lst (rfl) (by simpa using cellsAt_self [] x.lst) ?_
      try simp only [Act.put, List.setIfInBounds_toArray, List.set_cons_zero, List.set_cons_succ]
      refine hg_reg 12 (some 70) rfl rfl (by kernel_rfl) (by kernel_rfl) (by kernel_rfl) (fun _ _ _ _ h => h) HS (by simp) (.pointer (some ⟨c, 0, none⟩)) rfl (fun _ => by rfl) ?_
      try simp only [Act.put, List.setIfInBounds_toArray, List.set_cons_zero, List.set_cons_succ]
      refine hg_loads 13 (some 71) rfl rfl (by kernel_rfl) (by kernel_rfl) (by kernel_rfl) (fun _ _ _ _ h => h) HS (by simp) rfl 29 _ rfl 0 _ _ _ rfl 0 rfl 6 sh29 y.lst (rfl) (by simpa using cellsAt_self [] y.lst) ?_
      try simp only [Act.put, List.setIfInBounds_toArray, List.set_cons_zero, List.set_cons_succ]
      refine hg_reg 18 (some 76) rfl rfl (by kernel_rfl) (by kernel_rfl) (by kernel_rfl) (fun _ _ _ _ h => h) HS (by simp) (.int .i64 0) rfl (fun _ => by rfl) ?_
      try simp only [Act.put, List.setIfInBounds_toArray, List.set_cons_zero, List.set_cons_succ]
      refine hk_x1 8 (by kernel_rfl) ?_
      refine hg_call 8 (some 66) rfl rfl rfl HS (by simp) 12 _ _ rfl Try.func12 (by kernel_rfl) rfl _ (fun v => ∃ p : Chg, v = .agg p.arr) ((oddChange_any q c x _ HS.out.code).mono (fun e w1 h => by obtain ⟨p, rfl, ho, hcd⟩ := h; exact ⟨_, rfl, ⟨p, rfl⟩, HS.out.draws ho hcd⟩)) rfl ?_
      clear HS; rintro _ w ⟨O1, rfl⟩ HS
      try simp only [Act.put, List.setIfInBounds_toArray, List.set_cons_zero, List.set_cons_succ]
      refine hg_reg 10 (some 68) rfl rfl (by kernel_rfl) (by kernel_rfl) (by kernel_rfl) (fun _ _ _ _ h => h) HS (by simp) (.agg (pairC (O1, y)).toArray) rfl (fun _ => run_buildop (parts := [(0, .tmp 66), (1, .tmp 67)]) rfl rfl (built_pairC O1 y)) ?_
      try simp only [Act.put, List.setIfInBounds_toArray, List.set_cons_zero, List.set_cons_succ]
      refine hk_x1 14 (by kernel_rfl) ?_
      refine hg_call 14 (some 72) rfl rfl rfl HS (by simp) 12 _ _ rfl Try.func12 (by kernel_rfl) rfl _ (fun v => ∃ p : Chg, v = .agg p.arr) ((oddChange_any q c y _ HS.out.code).mono (fun e w1 h => by obtain ⟨p, rfl, ho, hcd⟩ := h; exact ⟨_, rfl, ⟨p, rfl⟩, HS.out.draws ho hcd⟩)) rfl ?_
      clear HS; rintro _ w ⟨O2, rfl⟩ HS
      try simp only [Act.put, List.setIfInBounds_toArray, List.set_cons_zero, List.set_cons_succ]
      refine hg_reg 15 (some 73) rfl rfl (by kernel_rfl) (by kernel_rfl) (by kernel_rfl) (fun _ _ _ _ h => h) HS (by simp) (.agg (pairC (x, O2)).toArray) rfl (fun _ => run_buildop (parts := [(0, .tmp 69), (1, .tmp 72)]) rfl rfl (built_pairC x O2)) ?_
      try simp only [Act.put, List.setIfInBounds_toArray, List.set_cons_zero, List.set_cons_succ]
      refine hk_x1 16 (by kernel_rfl) ?_
      refine hg_build 16 (some 74) rfl rfl rfl HS (by simp) 38 36 4 [(0, .tmp 60), (1, .tmp 63), (2, .tmp 68), (3, .tmp 73)] rfl [(0, .agg (pairC (X, Y)).toArray), (1, .agg (pairC (x, y)).toArray), (2, .agg (pairC (O1, y)).toArray), (3, .agg (pairC (x, O2)).toArray)] rfl (fourC [(X, Y), (x, y), (O1, y), (x, O2)]) (fun w => build_fourC (X, Y) (x, y) (O1, y) (x, O2) w) ?_
      clear HS; intro w b74 HS
      try simp only [Act.put, List.setIfInBounds_toArray, List.set_cons_zero, List.set_cons_succ]
      refine hg_reg 17 (some 75) rfl rfl (by kernel_rfl) (by kernel_rfl) (by kernel_rfl) (fun _ _ _ _ h => h) HS (by simp) (.int .i64 4) rfl (fun _ => by go_simp) ?_
      try simp only [Act.put, List.setIfInBounds_toArray, List.set_cons_zero, List.set_cons_succ]
      refine hk_done (by kernel_rfl) ?_
      obtain ⟨zs, hzs⟩ : ∃ zs, zs = [(X, Y), (x, y), (O1, y), (x, O2)] := ⟨_, rfl⟩
      rw [← hzs] at HS
      have HZ : Hid (zs.length = 4) := by rw [hzs]; exact rfl
      clear hzs H6 H7
      replace HS : Hid (St (some c) q w2 w [(b74, 36, fourC zs), (b12, 29, y.lst), (b11, 29, x.lst), (b10, 27, P.lst)]) := HS
      go_wp2_with fail
      go_loopw [76] (fun i wr => ∃ k : Nat, k ≤ 4 ∧ i = .int .i64 k ∧ Hid (St (some c) q w2 wr [(b74, 36, fourC zs), (b12, 29, y.lst), (b11, 29, x.lst), (b10, 27, P.lst)])) (fun i _ => 4 - (intOf i).toNat)
      case atStart => exact ⟨0, Nat.zero_le _, rfl, HS⟩
      case round =>
        obtain ⟨k, hk, rfl, HS2⟩ := hrel
        clear HS
        have HS := HS2
        clear HS2
        by_cases hlt : k < 4
        · obtain ⟨z, hz⟩ := list_get_of_lt zs k 4 HZ.out hlt
          have HZK := Lib.hid hz
          clear hz
          go_wp2_with (first | (refine sx_loads HS rfl 36 _ rfl 0 _ _ _ rfl (k * 12) rfl 12 sh36 (pairC z) rfl (fourC_at HZK.out) ?_) | (refine sx_alloc HS rfl 36 rfl _ zero_pairC ?_; clear HS; intro w b14 HS) | (refine sx_store_all HS rfl 36 _ _ rfl rfl 0 _ _ _ rfl rfl (pairC z) rfl 12 sh36 rfl rfl rfl ?_; clear HS; intro w HS) | (refine sx_loads HS rfl 29 _ rfl 0 _ _ _ rfl 0 rfl 6 sh29 z.1.lst rfl (pairC_at0 z) ?_) | (refine sx_loads HS rfl 29 _ rfl 0 _ _ _ rfl 6 rfl 6 sh29 z.2.lst rfl (pairC_at1 z) ?_))
          replace HS : Hid (St (some c) q w2 w ((b14, 36, pairC z) :: [(b74, 36, fourC zs), (b12, 29, y.lst), (b11, 29, x.lst), (b10, 27, P.lst)])) := HS
          obtain ⟨J, jc, hJ⟩ : ∃ J jc, joinF z.1 z.2 = (J, jc) := ⟨_, _, rfl⟩
          have HJ := Lib.hid hJ
          clear hJ
          refine (ch_join z.1 z.2 _).mono ?_
          rintro e w ⟨he, hx⟩
          rw [HJ.out] at he
          subst he
          replace HS := Lib.hid (HS.out.ext hx)
          clear hx
          go_wp2_with (first | (refine sx_alloc HS rfl 29 rfl _ zr29 ?_; clear HS; intro w b15 HS) | (refine sx_stores HS rfl 29 _ _ rfl rfl 0 _ _ _ rfl 0 rfl 6 sh29 J.lst rfl rfl rfl rfl ?_; clear HS; intro w HS) | (refine sx_loads HS rfl 29 _ rfl 1 _ _ _ rfl 0 rfl 6 sh29 z.1.lst rfl (pairC_at0 z) ?_) | (refine sx_loads HS rfl 29 _ rfl 1 _ _ _ rfl 6 rfl 6 sh29 z.2.lst rfl (pairC_at1 z) ?_))
          replace HS : Hid (St (some c) q w2 w ((b15, 29, J.lst) :: (b14, 36, pairC z) :: [(b74, 36, fourC zs), (b12, 29, y.lst), (b11, 29, x.lst), (b10, 27, P.lst)])) := HS
          refine (rf_join z.1 z.2 _).mono ?_
          rintro e w ⟨he, hx⟩
          rw [HJ.out] at he
          subst he
          replace HS := Lib.hid (HS.out.ext hx)
          clear hx
          go_upto_region 14 with (first | (refine sx_alloc HS rfl 29 rfl _ zr29 ?_; clear HS; intro w b17 HS) | (refine sx_stores HS rfl 29 _ _ rfl rfl 0 _ _ _ rfl 0 rfl 6 sh29 J.lst rfl rfl rfl rfl ?_; clear HS; intro w HS))
          replace HS : Hid (St (some c) q w2 w ((b17, 29, J.lst) :: (b15, 29, J.lst) :: (b14, 36, pairC z) :: [(b74, 36, fourC zs), (b12, 29, y.lst), (b11, 29, x.lst), (b10, 27, P.lst)])) := HS
          refine hg_begin ((b17, 29, J.lst) :: (b15, 29, J.lst) :: (b14, 36, pairC z) :: [(b74, 36, fourC zs), (b12, 29, y.lst), (b11, 29, x.lst), (b10, 27, P.lst)]) HS (by kernel_rfl) ?_
          clear HS; intro w HS
          refine hg_loads 0 (some 96) rfl rfl (by kernel_rfl) (by kernel_rfl) (by kernel_rfl) (fun _ _ _ _ h => h) HS (by simp) rfl 29 _ rfl 1 _ _ _ rfl 0 rfl 6 sh29 J.lst (rfl) (by simpa using cellsAt_self [] J.lst) ?_
          try simp only [Act.put, List.setIfInBounds_toArray, List.set_cons_zero, List.set_cons_succ]
          refine hg_loads 1 (some 97) rfl rfl (by kernel_rfl) (by kernel_rfl) (by kernel_rfl) (fun _ _ _ _ h => h) HS (by simp) rfl 29 _ rfl 0 _ _ _ rfl 0 rfl 6 sh29 J.lst (rfl) (by simpa using cellsAt_self [] J.lst) ?_
          try simp only [Act.put, List.setIfInBounds_toArray, List.set_cons_zero, List.set_cons_succ]
          refine hg_reg 2 (some 98) rfl rfl (by kernel_rfl) (by kernel_rfl) (by kernel_rfl) (fun _ _ _ _ h => h) HS (by simp) (.bool false) rfl (fun _ => run_binop rfl rfl rfl (guard_chg ..) (neq_chg J _)) ?_
          try simp only [Act.put, List.setIfInBounds_toArray, List.set_cons_zero, List.set_cons_succ]
          refine hg_reg 3 (some 99) rfl rfl (by kernel_rfl) (by kernel_rfl) (by kernel_rfl) (fun _ _ _ _ h => h) HS (by simp) (.bool false) rfl (fun _ => by rfl) ?_
          try simp only [Act.put, List.setIfInBounds_toArray, List.set_cons_zero, List.set_cons_succ]
          refine hg_reg 4 (some 100) rfl rfl (by kernel_rfl) (by kernel_rfl) (by kernel_rfl) (fun _ _ _ _ h => h) HS (by simp) (.int .i64 jc) rfl (fun _ => by rfl) ?_
          try simp only [Act.put, List.setIfInBounds_toArray, List.set_cons_zero, List.set_cons_succ]
          refine hg_reg 5 (some 101) rfl rfl (by kernel_rfl) (by kernel_rfl) (by kernel_rfl) (fun _ _ _ _ h => h) HS (by simp) (.int .i64 jc) rfl (fun _ => by rfl) ?_
          try simp only [Act.put, List.setIfInBounds_toArray, List.set_cons_zero, List.set_cons_succ]
          refine hg_reg 6 (some 102) rfl rfl (by kernel_rfl) (by kernel_rfl) (by kernel_rfl) (fun _ _ _ _ h => h) HS (by simp) (.bool false) rfl (fun _ => run_binop rfl rfl rfl (guard_errno ..) (neq_errno jc _)) ?_
          try simp only [Act.put, List.setIfInBounds_toArray, List.set_cons_zero, List.set_cons_succ]
          refine hg_reg 7 (some 103) rfl rfl (by kernel_rfl) (by kernel_rfl) (by kernel_rfl) (fun _ _ _ _ h => h) HS (by simp) (.bool false) rfl (fun _ => by rfl) ?_
          try simp only [Act.put, List.setIfInBounds_toArray, List.set_cons_zero, List.set_cons_succ]
          refine hg_reg 8 (some 104) rfl rfl (by kernel_rfl) (by kernel_rfl) (by kernel_rfl) (fun _ _ _ _ h => h) HS (by simp) (.bool false) rfl (fun _ => by rfl) ?_
          try simp only [Act.put, List.setIfInBounds_toArray, List.set_cons_zero, List.set_cons_succ]
          refine hg_reg 9 (some 105) rfl rfl (by kernel_rfl) (by kernel_rfl) (by kernel_rfl) (fun _ _ _ _ h => h) HS (by simp) (.pointer (some ⟨b14, 0, none⟩)) rfl (fun _ => by go_simp) ?_
          try simp only [Act.put, List.setIfInBounds_toArray, List.set_cons_zero, List.set_cons_succ]
          refine hg_loads 10 (some 106) rfl rfl (by kernel_rfl) (by kernel_rfl) (by kernel_rfl) (fun _ _ _ _ h => h) HS (by simp) rfl 29 _ rfl 2 _ _ _ rfl 0 rfl 6 sh29 z.1.lst (rfl) (pairC_at0 z) ?_
          try simp only [Act.put, List.setIfInBounds_toArray, List.set_cons_zero, List.set_cons_succ]
          refine hg_reg 12 (some 108) rfl rfl (by kernel_rfl) (by kernel_rfl) (by kernel_rfl) (fun _ _ _ _ h => h) HS (by simp) (.pointer (some ⟨b14, 0, none⟩)) rfl (fun _ => by go_simp) ?_
          try simp only [Act.put, List.setIfInBounds_toArray, List.set_cons_zero, List.set_cons_succ]
          refine hg_loads 13 (some 109) rfl rfl (by kernel_rfl) (by kernel_rfl) (by kernel_rfl) (fun _ _ _ _ h => h) HS (by simp) rfl 29 _ rfl 2 _ _ _ rfl 0 rfl 6 sh29 z.1.lst (rfl) (pairC_at0 z) ?_
          try simp only [Act.put, List.setIfInBounds_toArray, List.set_cons_zero, List.set_cons_succ]
          refine hk_x1 11 (by kernel_rfl) ?_
          refine hg_call 11 (some 107) rfl rfl rfl HS (by simp) 15 _ _ rfl Try.func15 (by kernel_rfl) rfl _ (fun v => v = .bool z.1.ok) ((ch_valid z.1 _).mono (fun e w1 h => by obtain ⟨rfl, hx⟩ := h; exact ⟨_, rfl, rfl, HS.out.ext hx⟩)) rfl ?_
          clear HS; rintro _ w rfl HS
          try simp only [Act.put, List.setIfInBounds_toArray, List.set_cons_zero, List.set_cons_succ]
          refine hk_x1 14 (by kernel_rfl) ?_
          refine hg_call 14 (some 110) rfl rfl rfl HS (by simp) 16 _ _ rfl Try.func16 (by kernel_rfl) rfl _ (fun v => v = .bool z.1.ok) ((rf_valid z.1 _).mono (fun e w1 h => by obtain ⟨rfl, hx⟩ := h; exact ⟨_, rfl, rfl, HS.out.ext hx⟩)) rfl ?_
          clear HS; rintro _ w rfl HS
          try simp only [Act.put, List.setIfInBounds_toArray, List.set_cons_zero, List.set_cons_succ]
          refine hg_reg 15 (some 111) rfl rfl (by kernel_rfl) (by kernel_rfl) (by kernel_rfl) (fun _ _ _ _ h => h) HS (by simp) (.bool false) rfl (fun _ => run_binop rfl rfl rfl (guard_bool ..) (neq_bool z.1.ok _)) ?_
          try simp only [Act.put, List.setIfInBounds_toArray, List.set_cons_zero, List.set_cons_succ]
          refine hg_reg 16 (some 112) rfl rfl (by kernel_rfl) (by kernel_rfl) (by kernel_rfl) (fun _ _ _ _ h => h) HS (by simp) (.bool false) rfl (fun _ => by rfl) ?_
          try simp only [Act.put, List.setIfInBounds_toArray, List.set_cons_zero, List.set_cons_succ]
          refine hg_reg 17 (some 113) rfl rfl (by kernel_rfl) (by kernel_rfl) (by kernel_rfl) (fun _ _ _ _ h => h) HS (by simp) (.bool false) rfl (fun _ => by rfl) ?_
          try simp only [Act.put, List.setIfInBounds_toArray, List.set_cons_zero, List.set_cons_succ]
          refine hg_reg 18 (some 114) rfl rfl (by kernel_rfl) (by kernel_rfl) (by kernel_rfl) (fun _ _ _ _ h => h) HS (by simp) (.pointer (some ⟨b14, 6, none⟩)) rfl (fun _ => by go_simp) ?_
          try simp only [Act.put, List.setIfInBounds_toArray, List.set_cons_zero, List.set_cons_succ]
          refine hg_loads 19 (some 115) rfl rfl (by kernel_rfl) (by kernel_rfl) (by kernel_rfl) (fun _ _ _ _ h => h) HS (by simp) rfl 29 _ rfl 2 _ _ _ rfl 6 rfl 6 sh29 z.2.lst (rfl) (pairC_at1 z) ?_
          try simp only [Act.put, List.setIfInBounds_toArray, List.set_cons_zero, List.set_cons_succ]
          refine hg_reg 21 (some 117) rfl rfl (by kernel_rfl) (by kernel_rfl) (by kernel_rfl) (fun _ _ _ _ h => h) HS (by simp) (.pointer (some ⟨b14, 6, none⟩)) rfl (fun _ => by go_simp) ?_
          try simp only [Act.put, List.setIfInBounds_toArray, List.set_cons_zero, List.set_cons_succ]
          refine hg_loads 22 (some 118) rfl rfl (by kernel_rfl) (by kernel_rfl) (by kernel_rfl) (fun _ _ _ _ h => h) HS (by simp) rfl 29 _ rfl 2 _ _ _ rfl 6 rfl 6 sh29 z.2.lst (rfl) (pairC_at1 z) ?_
          try simp only [Act.put, List.setIfInBounds_toArray, List.set_cons_zero, List.set_cons_succ]
          refine hk_x1 20 (by kernel_rfl) ?_
          refine hg_call 20 (some 116) rfl rfl rfl HS (by simp) 17 _ _ rfl Try.func17 (by kernel_rfl) rfl _ (fun v => v = .agg (inverseF z.2).arr) ((ch_inverse z.2 _).mono (fun e w1 h => by obtain ⟨rfl, hx⟩ := h; exact ⟨_, rfl, rfl, HS.out.ext hx⟩)) rfl ?_
          clear HS; rintro _ w rfl HS
          try simp only [Act.put, List.setIfInBounds_toArray, List.set_cons_zero, List.set_cons_succ]
          refine hk_x1 23 (by kernel_rfl) ?_
          refine hg_call 23 (some 119) rfl rfl rfl HS (by simp) 18 _ _ rfl Try.func18 (by kernel_rfl) rfl _ (fun v => v = .agg (inverseF z.2).arr) ((rf_inverse z.2 _).mono (fun e w1 h => by obtain ⟨rfl, hx⟩ := h; exact ⟨_, rfl, rfl, HS.out.ext hx⟩)) rfl ?_
          clear HS; rintro _ w rfl HS
          try simp only [Act.put, List.setIfInBounds_toArray, List.set_cons_zero, List.set_cons_succ]
          refine hg_reg 24 (some 120) rfl rfl (by kernel_rfl) (by kernel_rfl) (by kernel_rfl) (fun _ _ _ _ h => h) HS (by simp) (.bool false) rfl (fun _ => run_binop rfl rfl rfl (guard_chg ..) (neq_chg (inverseF z.2) _)) ?_
          try simp only [Act.put, List.setIfInBounds_toArray, List.set_cons_zero, List.set_cons_succ]
          refine hg_reg 25 (some 121) rfl rfl (by kernel_rfl) (by kernel_rfl) (by kernel_rfl) (fun _ _ _ _ h => h) HS (by simp) (.bool false) rfl (fun _ => by rfl) ?_
          try simp only [Act.put, List.setIfInBounds_toArray, List.set_cons_zero, List.set_cons_succ]
          refine hg_reg 26 (some 122) rfl rfl (by kernel_rfl) (by kernel_rfl) (by kernel_rfl) (fun _ _ _ _ h => h) HS (by simp) (.bool false) rfl (fun _ => by rfl) ?_
          try simp only [Act.put, List.setIfInBounds_toArray, List.set_cons_zero, List.set_cons_succ]
          refine hg_reg 27 (some 123) rfl rfl (by kernel_rfl) (by kernel_rfl) (by kernel_rfl) (fun _ _ _ _ h => h) HS (by simp) (.pointer (some ⟨b14, 0, none⟩)) rfl (fun _ => by go_simp) ?_
          try simp only [Act.put, List.setIfInBounds_toArray, List.set_cons_zero, List.set_cons_succ]
          refine hg_reg 28 (some 124) rfl rfl (by kernel_rfl) (by kernel_rfl) (by kernel_rfl) (fun _ _ _ _ h => h) HS (by simp) (.pointer (some ⟨b14, 4, none⟩)) rfl (fun _ => by go_simp) ?_
          try simp only [Act.put, List.setIfInBounds_toArray, List.set_cons_zero, List.set_cons_succ]
          refine hg_loads 29 (some 125) rfl rfl (by kernel_rfl) (by kernel_rfl) (by kernel_rfl) (fun _ _ _ _ h => h) HS (by simp) rfl 24 _ rfl 2 _ _ _ rfl 4 rfl 2 sh24 [.bool z.1.ab, .string z.1.ad] (rfl) (pairC_after z) ?_
          try simp only [Act.put, List.setIfInBounds_toArray, List.set_cons_zero, List.set_cons_succ]
          refine hg_reg 31 (some 127) rfl rfl (by kernel_rfl) (by kernel_rfl) (by kernel_rfl) (fun _ _ _ _ h => h) HS (by simp) (.pointer (some ⟨b14, 0, none⟩)) rfl (fun _ => by go_simp) ?_
          try simp only [Act.put, List.setIfInBounds_toArray, List.set_cons_zero, List.set_cons_succ]
          refine hg_reg 32 (some 128) rfl rfl (by kernel_rfl) (by kernel_rfl) (by kernel_rfl) (fun _ _ _ _ h => h) HS (by simp) (.pointer (some ⟨b14, 4, none⟩)) rfl (fun _ => by go_simp) ?_
          try simp only [Act.put, List.setIfInBounds_toArray, List.set_cons_zero, List.set_cons_succ]
          refine hg_loads 33 (some 129) rfl rfl (by kernel_rfl) (by kernel_rfl) (by kernel_rfl) (fun _ _ _ _ h => h) HS (by simp) rfl 24 _ rfl 2 _ _ _ rfl 4 rfl 2 sh24 [.bool z.1.ab, .string z.1.ad] (rfl) (pairC_after z) ?_
          try simp only [Act.put, List.setIfInBounds_toArray, List.set_cons_zero, List.set_cons_succ]
          refine hk_x1 30 (by kernel_rfl) ?_
          refine hg_call 30 (some 126) rfl rfl rfl HS (by simp) 19 _ _ rfl Try.func19 (by kernel_rfl) rfl _ (fun v => v = .bool (cellOkB z.1.ab z.1.ad)) ((ch_validCell z.1.ab z.1.ad _).mono (fun e w1 h => by obtain ⟨rfl, hx⟩ := h; exact ⟨_, rfl, rfl, HS.out.ext hx⟩)) rfl ?_
          clear HS; rintro _ w rfl HS
          try simp only [Act.put, List.setIfInBounds_toArray, List.set_cons_zero, List.set_cons_succ]
          refine hk_x1 34 (by kernel_rfl) ?_
          refine hg_call 34 (some 130) rfl rfl rfl HS (by simp) 20 _ _ rfl Try.func20 (by kernel_rfl) rfl _ (fun v => v = .bool (cellOkB z.1.ab z.1.ad)) ((rf_validCell z.1.ab z.1.ad _).mono (fun e w1 h => by obtain ⟨rfl, hx⟩ := h; exact ⟨_, rfl, rfl, HS.out.ext hx⟩)) rfl ?_
          clear HS; rintro _ w rfl HS
          try simp only [Act.put, List.setIfInBounds_toArray, List.set_cons_zero, List.set_cons_succ]
          refine hg_reg 35 (some 131) rfl rfl (by kernel_rfl) (by kernel_rfl) (by kernel_rfl) (fun _ _ _ _ h => h) HS (by simp) (.bool false) rfl (fun _ => run_binop rfl rfl rfl (guard_bool ..) (neq_bool (cellOkB z.1.ab z.1.ad) _)) ?_
          try simp only [Act.put, List.setIfInBounds_toArray, List.set_cons_zero, List.set_cons_succ]
          refine hg_reg 36 (some 132) rfl rfl (by kernel_rfl) (by kernel_rfl) (by kernel_rfl) (fun _ _ _ _ h => h) HS (by simp) (.bool false) rfl (fun _ => by rfl) ?_
          try simp only [Act.put, List.setIfInBounds_toArray, List.set_cons_zero, List.set_cons_succ]
          refine hk_done (by kernel_rfl) ?_
          go_wp2_with fail
          refine hg_begin ((b17, 29, J.lst) :: (b15, 29, J.lst) :: (b14, 36, pairC z) :: [(b74, 36, fourC zs), (b12, 29, y.lst), (b11, 29, x.lst), (b10, 27, P.lst)]) HS (by kernel_rfl) ?_
          clear HS; intro w HS
          refine hg_loadsW 0 (some 133) rfl rfl (by kernel_rfl) (by kernel_rfl) (by kernel_rfl) (fun _ _ _ _ h => h) HS (by simp) rfl 27 _ rfl b5 _ _ (fun w2 h => St.atOld h H5.out) 0 rfl 34 sh27 A.lst (lst_len HA.out) (by simpa using cellsAt_self [] A.lst) ?_
          try simp only [Act.put, List.setIfInBounds_toArray, List.set_cons_zero, List.set_cons_succ]
          refine hg_loads 1 (some 134) rfl rfl (by kernel_rfl) (by kernel_rfl) (by kernel_rfl) (fun _ _ _ _ h => h) HS (by simp) rfl 27 _ rfl 6 _ _ _ rfl 0 rfl 34 sh27 P.lst (lst_len HLP.out) (by simpa using cellsAt_self [] P.lst) ?_
          try simp only [Act.put, List.setIfInBounds_toArray, List.set_cons_zero, List.set_cons_succ]
          refine hg_reg 2 (some 135) rfl rfl (by kernel_rfl) (by kernel_rfl) (by kernel_rfl) (fun _ _ _ _ h => h) HS (by simp) (.pointer (some ⟨c, 0, none⟩)) rfl (fun _ => by rfl) ?_
          try simp only [Act.put, List.setIfInBounds_toArray, List.set_cons_zero, List.set_cons_succ]
          refine hg_loads 3 (some 136) rfl rfl (by kernel_rfl) (by kernel_rfl) (by kernel_rfl) (fun _ _ _ _ h => h) HS (by simp) rfl 27 _ rfl 6 _ _ _ rfl 0 rfl 34 sh27 P.lst (lst_len HLP.out) (by simpa using cellsAt_self [] P.lst) ?_
          try simp only [Act.put, List.setIfInBounds_toArray, List.set_cons_zero, List.set_cons_succ]
          refine hg_reg 7 (some 140) rfl rfl (by kernel_rfl) (by kernel_rfl) (by kernel_rfl) (fun _ _ _ _ h => h) HS (by simp) (.int .i64 0) rfl (fun _ => by rfl) ?_
          try simp only [Act.put, List.setIfInBounds_toArray, List.set_cons_zero, List.set_cons_succ]
          refine hk_x1 4 (by kernel_rfl) ?_
          refine hg_call 4 (some 137) rfl rfl rfl HS (by simp) 21 _ _ rfl Try.func21 (by kernel_rfl) rfl _ (fun v => ∃ p : Pg, v = .agg p.arr ∧ p.cells.length = 16) ((oddPage_any q c P HLP.out _ HS.out.code).mono (fun e w1 h => by obtain ⟨p, rfl, h1, ho, hcd⟩ := h; exact ⟨_, rfl, ⟨p, rfl, h1⟩, HS.out.draws ho hcd⟩)) rfl ?_
          clear HS; rintro _ w ⟨O, rfl, hl⟩ HS
          have HO := Lib.hid hl
          clear hl
          try simp only [Act.put, List.setIfInBounds_toArray, List.set_cons_zero, List.set_cons_succ]
          have HT : Hid (okThree [A, P, O]) := okThree_of HA.out HLP.out HO.out
          refine hk_x1 5 (by kernel_rfl) ?_
          refine hg_build 5 (some 138) rfl rfl rfl HS (by simp) 45 27 3 [(0, .tmp 133), (1, .tmp 134), (2, .tmp 137)] rfl [(0, .agg A.arr), (1, .agg P.arr), (2, .agg O.arr)] rfl (threeL [A, P, O]) (fun w => build_three A P O HT.out w) ?_
          clear HS; intro w b138 HS
          try simp only [Act.put, List.setIfInBounds_toArray, List.set_cons_zero, List.set_cons_succ]
          refine hg_reg 6 (some 139) rfl rfl (by kernel_rfl) (by kernel_rfl) (by kernel_rfl) (fun _ _ _ _ h => h) HS (by simp) (.int .i64 3) rfl (fun _ => by go_simp) ?_
          try simp only [Act.put, List.setIfInBounds_toArray, List.set_cons_zero, List.set_cons_succ]
          refine hk_done (by kernel_rfl) ?_
          obtain ⟨ps, hps⟩ : ∃ ps, ps = [A, P, O] := ⟨_, rfl⟩
          rw [← hps] at HS HT
          clear hps
          replace HS : Hid (St (some c) q w2 w ((b138, 27, threeL ps) :: ((b17, 29, J.lst) :: (b15, 29, J.lst) :: (b14, 36, pairC z) :: [(b74, 36, fourC zs), (b12, 29, y.lst), (b11, 29, x.lst), (b10, 27, P.lst)]))) := HS
          go_wp2_with fail
          obtain ⟨wo, hwo⟩ : ∃ wo : World, wo = wr := ⟨_, rfl⟩
          subst hwo
          go_loopw [140] (fun i wr => ∃ m : Nat, m ≤ 3 ∧ i = .int .i64 m ∧ Hid (St (some c) q w2 wr ((b138, 27, threeL ps) :: ((b17, 29, J.lst) :: (b15, 29, J.lst) :: (b14, 36, pairC z) :: [(b74, 36, fourC zs), (b12, 29, y.lst), (b11, 29, x.lst), (b10, 27, P.lst)])))) (fun i _ => 3 - (intOf i).toNat)
          case atStart => exact ⟨0, Nat.zero_le _, rfl, HS⟩
          case round =>
            obtain ⟨m, hm, rfl, HS2⟩ := hrel
            clear HS
            have HS := HS2
            clear HS2
            by_cases hlt2 : m < 3
            · obtain ⟨r, hr⟩ := list_get_of_lt ps m 3 HT.out.1 hlt2
              have HRK := Lib.hid hr
              have HR : Hid (r.cells.length = 16) := HT.out.2 r (List.mem_of_getElem? hr)
              clear hr
              go_wp2_with (first | (refine sx_loads HS rfl 27 _ rfl 0 _ _ (threeL ps) rfl (m * 34) rfl 34 sh27 r.lst (lst_len HR.out) (three_at HT.out HRK.out) ?_) | (refine sx_alloc HS rfl 27 rfl _ zero_page ?_; clear HS; intro w b20 HS) | (refine sx_store_all HS rfl 27 _ _ rfl rfl 0 _ _ _ rfl rfl r.lst rfl 34 sh27 (lst_len HR.out) (by rw [lst_len HR.out]; rfl) (pgLst_one _ _ _) ?_; clear HS; intro w HS) | (refine sx_load_all HS rfl 27 _ rfl 0 _ _ r.lst rfl rfl 34 sh27 (lst_len HR.out) ?_) | (refine sx_loads HS rfl 29 _ rfl 4 _ _ (pairC z) rfl 0 rfl 6 sh29 z.1.lst rfl (pairC_at0 z) ?_))
              replace HS : Hid (St (some c) q w2 w ((b20, 27, r.lst) :: ((b138, 27, threeL ps) :: ((b17, 29, J.lst) :: (b15, 29, J.lst) :: (b14, 36, pairC z) :: [(b74, 36, fourC zs), (b12, 29, y.lst), (b11, 29, x.lst), (b10, 27, P.lst)])))) := HS
              obtain ⟨U, uc, hU⟩ : ∃ U uc, applyF r z.1 = (U, uc) := ⟨_, _, rfl⟩
              have HU := Lib.hid hU
              have HUL : Hid (U.cells.length = 16) := by have h := applyF_len HR.out z.1; rw [hU] at h; exact h
              clear hU
              refine (ch_apply r z.1 _ HR.out).mono ?_
              rintro e w ⟨he, hx⟩
              rw [HU.out] at he
              subst he
              replace HS := Lib.hid (HS.out.ext hx)
              clear hx
              go_wp2_with (first | (refine sx_alloc HS rfl 27 rfl _ zero_page ?_; clear HS; intro w b21 HS) | (refine sx_store_all HS rfl 27 _ _ rfl rfl 0 _ _ _ rfl rfl U.lst rfl 34 sh27 (lst_len HUL.out) (by rw [lst_len HUL.out]; rfl) (pgLst_one _ _ _) ?_; clear HS; intro w HS) | (refine sx_load_all HS rfl 27 _ rfl 1 _ _ r.lst rfl rfl 34 sh27 (lst_len HR.out) ?_) | (refine sx_loads HS rfl 29 _ rfl 5 _ _ (pairC z) rfl 0 rfl 6 sh29 z.1.lst rfl (pairC_at0 z) ?_))
              replace HS : Hid (St (some c) q w2 w ((b21, 27, U.lst) :: (b20, 27, r.lst) :: ((b138, 27, threeL ps) :: ((b17, 29, J.lst) :: (b15, 29, J.lst) :: (b14, 36, pairC z) :: [(b74, 36, fourC zs), (b12, 29, y.lst), (b11, 29, x.lst), (b10, 27, P.lst)])))) := HS
              refine (rf_apply r z.1 _ HR.out).mono ?_
              rintro e w ⟨he, hx⟩
              rw [HU.out] at he
              subst he
              replace HS := Lib.hid (HS.out.ext hx)
              clear hx
              go_upto_region 21 with (first | (refine sx_alloc HS rfl 27 rfl _ zero_page ?_; clear HS; intro w b23 HS) | (refine sx_store_all HS rfl 27 _ _ rfl rfl 0 _ _ _ rfl rfl U.lst rfl 34 sh27 (lst_len HUL.out) (by rw [lst_len HUL.out]; rfl) (pgLst_one _ _ _) ?_; clear HS; intro w HS))
              replace HS : Hid (St (some c) q w2 w ((b23, 27, U.lst) :: (b21, 27, U.lst) :: (b20, 27, r.lst) :: ((b138, 27, threeL ps) :: ((b17, 29, J.lst) :: (b15, 29, J.lst) :: (b14, 36, pairC z) :: [(b74, 36, fourC zs), (b12, 29, y.lst), (b11, 29, x.lst), (b10, 27, P.lst)])))) := HS
              have hbv : ∀ w, (binOp .neq 39 (.int .i64 uc) (.int .i64 uc)).run Try.prog w = .ok (.bool false) w := fun w => neq_errno uc w
              go_wp2_with (first | (refine sx_load_all HS rfl 27 _ rfl 1 _ _ U.lst rfl rfl 34 sh27 (lst_len HUL.out) ?_) | (refine sx_load_all HS rfl 27 _ rfl 0 _ _ U.lst rfl rfl 34 sh27 (lst_len HUL.out) ?_) | (refine sx_run rfl (.bool false) (run_binop rfl rfl rfl (guard_page ..) (neq_page U HUL.out _)) ?_) | (refine sx_run rfl (.bool false) (run_binop rfl rfl rfl (guard_errno ..) (neq_errno uc _)) ?_))
              replace HS := Lib.hid (HS.out.drop 3)
              go_roundw
              case rel => exact ⟨m + 1, by omega, by go_num, HS⟩
              case measure => simp [intOf]; omega
            · have hm3 : m = 3 := by omega
              subst hm3
              replace HS := Lib.hid (HS.out.drop 4)
              go_wp2_with fail
              go_roundw
              case rel => exact ⟨k + 1, by omega, by go_num, HS⟩
              case measure => simp [intOf]; omega
        · have hk4 : k = 4 := by omega
          subst hk4
          go_wp2_with fail
          go_ret
          exact ⟨rfl, HX.out.only HS.out.isOnly hc0⟩
end Go.Proofs.Ytlbhoepfcedkdaa
