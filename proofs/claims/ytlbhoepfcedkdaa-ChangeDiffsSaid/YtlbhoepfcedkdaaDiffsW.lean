/-
  ChangeDiffs: the walk.
-/
import Derived.Test.YtlbhoepfcedkdaaDiffsA
namespace Go.Proofs.Ytlbhoepfcedkdaa
open Go.RowKit
set_option maxHeartbeats 8000000 in
set_option maxRecDepth 100000 in
theorem diffs_walk (a : Option Addr) (len cap : Nat) (A B : Pg) (hA : A.cells.length = 16) (hB : B.cells.length = 16) (w0 : World) (hb : BytesIn w0 a len) (hlc : len ≤ cap) (hmax : cap ≤ maxLen) :
    Calls Try.prog 6 #[.slice a len cap, .agg A.arr, .agg B.arr] w0 fun e w' => e = .returned (.bool true) ∧ Ext w0 w' := by
  have HB := Lib.hid hb
  have HM := Lib.hid hmax
  have HA := Lib.hid hA
  have HBB := Lib.hid hB
  clear hb hmax hA hB
  have HS : Hid (St none default w0 w0 []) := St.start w0
  go_enter Try.func6, Try.ntmps6
  go_wp2_with (first | (refine sx_box HS rfl _ _ rfl A.lst rfl ?_; clear HS; intro w b4 HS) | (refine sx_box HS rfl _ _ rfl B.lst rfl ?_; clear HS; intro w b5 HS))
  refine (awake_any _).mono ?_
  rintro e w ⟨rfl, hx⟩
  replace HS := Lib.hid (HS.out.ext hx)
  clear hx
  have HB1 : Hid (BytesIn w a len) := BytesIn.ext HB.out HS.out.isExt
  go_wp2_with fail
  have hsz := HS.out.size
  have hlt4 := (HS.out.box (i := 1) rfl).lt
  have hlt5 := (HS.out.box (i := 0) rfl).lt
  refine (new_any a len cap 200 _ HB1.out hlc (by omega) (by omega) HM.out).mono ?_
  rintro e w2 ⟨c, q, rfl, hc, hx, hcd⟩
  replace HS := Lib.hid (HS.out.ext hx)
  have H4 : Hid (Old w2 c b4 27 A.lst) := Old.of (HS.out.box (i := 1) rfl) hlt4 hc
  have H5 : Hid (Old w2 c b5 27 B.lst) := Old.of (HS.out.box (i := 0) rfl) hlt5 hc
  have HX := Lib.hid HS.out.isExt
  have hc0 : w0.heap.size ≤ c := Nat.le_trans hsz hc
  clear HS hlt4 hlt5 hx HB1 HB hc hsz
  have HS : Hid (St (some c) q w2 w2 []) := St.startC hcd
  clear hcd
  go_wp2_with fail
  refine (page_any q c 2 _ HS.out.code).mono ?_
  rintro e w ⟨lp, cP, rfl, _, _, hl, hok, ho, hcd⟩
  replace HS := Lib.hid (HS.out.draws ho hcd)
  obtain ⟨P, hP⟩ : ∃ P : Pg, P = ⟨2, lp, cP⟩ := ⟨_, rfl⟩
  have eP : pgArr 2 lp cP = P.arr := by rw [hP]; rfl
  rw [eP]
  have HP : Hid (P.id = 2 ∧ P.cells.length = 16 ∧ okCells P.cells) := by rw [hP]; exact ⟨rfl, hl, hok⟩
  have HLP : Hid (P.cells.length = 16) := HP.out.2.1
  clear hl hok ho hcd eP hP
  go_wp2_with fail
  refine (page_any q c 2 _ HS.out.code).mono ?_
  rintro e w ⟨lq, cQ, rfl, _, _, hl, hok, ho, hcd⟩
  replace HS := Lib.hid (HS.out.draws ho hcd)
  obtain ⟨Q, hQ⟩ : ∃ Q : Pg, Q = ⟨2, lq, cQ⟩ := ⟨_, rfl⟩
  have eQ : pgArr 2 lq cQ = Q.arr := by rw [hQ]; rfl
  rw [eQ]
  have HQ : Hid (Q.id = 2 ∧ Q.cells.length = 16 ∧ okCells Q.cells) := by rw [hQ]; exact ⟨rfl, hl, hok⟩
  have HLQ : Hid (Q.cells.length = 16) := HQ.out.2.1
  clear hl hok ho hcd eQ hQ
  have tok1 : True := trivial
  go_upto_region 5 with (first | (have _t := tok1; refine sx_alloc HS rfl 27 rfl _ zero_page ?_; clear HS tok1; intro w b8 HS) | (refine sx_alloc HS rfl 27 rfl _ zero_page ?_; clear HS; intro w b9 HS) | (refine sx_store_all HS rfl 27 _ _ rfl rfl 1 _ _ _ rfl rfl (Pg.lst P) rfl 34 sh27 (lst_len HLP.out) (by first | rfl | (rw [lst_len HLP.out]; first | rfl | exact lst_len HLP.out | exact (mix_len _ _ _))) (pgLst_one _ _ _) ?_; clear HS; intro w HS) | (refine sx_store_all HS rfl 27 _ _ rfl rfl 0 _ _ _ rfl rfl (Pg.lst Q) rfl 34 sh27 (lst_len HLQ.out) (by first | rfl | (rw [lst_len HLQ.out]; first | rfl | exact lst_len HLP.out | exact (mix_len _ _ _))) (pgLst_one _ _ _) ?_; clear HS; intro w HS))
  replace HS : Hid (St (some c) q w2 w [(b9, 27, Q.lst), (b8, 27, P.lst)]) := HS
  refine hg_begin [(b9, 27, Q.lst), (b8, 27, P.lst)] HS (by kernel_rfl) ?_
  clear HS; intro w HS
  refine hg_loadsW 0 (some 32) rfl rfl (by kernel_rfl) (by kernel_rfl) (by kernel_rfl) (fun _ _ _ _ h => h) HS (by simp) rfl 27 _ rfl b4 _ _ (fun w2 h => St.atOld h H4.out) 0 rfl 34 sh27 A.lst (lst_len HA.out) (by simpa using cellsAt_self [] A.lst) ?_
  try simp only [Act.put, List.setIfInBounds_toArray, List.set_cons_zero, List.set_cons_succ]
  refine hg_loadsW 1 (some 33) rfl rfl (by kernel_rfl) (by kernel_rfl) (by kernel_rfl) (fun _ _ _ _ h => h) HS (by simp) rfl 27 _ rfl b5 _ _ (fun w2 h => St.atOld h H5.out) 0 rfl 34 sh27 B.lst (lst_len HBB.out) (by simpa using cellsAt_self [] B.lst) ?_
  try simp only [Act.put, List.setIfInBounds_toArray, List.set_cons_zero, List.set_cons_succ]
  refine hg_reg 2 (some 34) rfl rfl (by kernel_rfl) (by kernel_rfl) (by kernel_rfl) (fun _ _ _ _ h => h) HS (by simp) (.agg (pairL (A, B)).toArray) rfl (fun _ => run_buildop (parts := [(0, .tmp 32), (1, .tmp 33)]) rfl rfl (built_pair A B HA.out HBB.out)) ?_
  try simp only [Act.put, List.setIfInBounds_toArray, List.set_cons_zero, List.set_cons_succ]
  refine hg_loads 3 (some 35) rfl rfl (by kernel_rfl) (by kernel_rfl) (by kernel_rfl) (fun _ _ _ _ h => h) HS (by simp) rfl 27 _ rfl 1 _ _ _ rfl 0 rfl 34 sh27 P.lst (lst_len HLP.out) (by simpa using cellsAt_self [] P.lst) ?_
  try simp only [Act.put, List.setIfInBounds_toArray, List.set_cons_zero, List.set_cons_succ]
  refine hg_loads 4 (some 36) rfl rfl (by kernel_rfl) (by kernel_rfl) (by kernel_rfl) (fun _ _ _ _ h => h) HS (by simp) rfl 27 _ rfl 0 _ _ _ rfl 0 rfl 34 sh27 Q.lst (lst_len HLQ.out) (by simpa using cellsAt_self [] Q.lst) ?_
  try simp only [Act.put, List.setIfInBounds_toArray, List.set_cons_zero, List.set_cons_succ]
  refine hg_reg 5 (some 37) rfl rfl (by kernel_rfl) (by kernel_rfl) (by kernel_rfl) (fun _ _ _ _ h => h) HS (by simp) (.agg (pairL (P, Q)).toArray) rfl (fun _ => run_buildop (parts := [(0, .tmp 35), (1, .tmp 36)]) rfl rfl (built_pair P Q HLP.out HLQ.out)) ?_
  try simp only [Act.put, List.setIfInBounds_toArray, List.set_cons_zero, List.set_cons_succ]
  refine hg_loads 6 (some 38) rfl rfl (by kernel_rfl) (by kernel_rfl) (by kernel_rfl) (fun _ _ _ _ h => h) HS (by simp) rfl 27 _ rfl 1 _ _ _ rfl 0 rfl 34 sh27 P.lst (lst_len HLP.out) (by simpa using cellsAt_self [] P.lst) ?_
  try simp only [Act.put, List.setIfInBounds_toArray, List.set_cons_zero, List.set_cons_succ]
  refine hg_reg 7 (some 39) rfl rfl (by kernel_rfl) (by kernel_rfl) (by kernel_rfl) (fun _ _ _ _ h => h) HS (by simp) (.pointer (some ⟨c, 0, none⟩)) rfl (fun _ => by rfl) ?_
  try simp only [Act.put, List.setIfInBounds_toArray, List.set_cons_zero, List.set_cons_succ]
  refine hg_loads 8 (some 40) rfl rfl (by kernel_rfl) (by kernel_rfl) (by kernel_rfl) (fun _ _ _ _ h => h) HS (by simp) rfl 27 _ rfl 0 _ _ _ rfl 0 rfl 34 sh27 Q.lst (lst_len HLQ.out) (by simpa using cellsAt_self [] Q.lst) ?_
  try simp only [Act.put, List.setIfInBounds_toArray, List.set_cons_zero, List.set_cons_succ]
  refine hg_reg 11 (some 43) rfl rfl (by kernel_rfl) (by kernel_rfl) (by kernel_rfl) (fun _ _ _ _ h => h) HS (by simp) (.pointer (some ⟨c, 0, none⟩)) rfl (fun _ => by rfl) ?_
  try simp only [Act.put, List.setIfInBounds_toArray, List.set_cons_zero, List.set_cons_succ]
  refine hg_loads 12 (some 44) rfl rfl (by kernel_rfl) (by kernel_rfl) (by kernel_rfl) (fun _ _ _ _ h => h) HS (by simp) rfl 27 _ rfl 1 _ _ _ rfl 0 rfl 34 sh27 P.lst (lst_len HLP.out) (by simpa using cellsAt_self [] P.lst) ?_
  try simp only [Act.put, List.setIfInBounds_toArray, List.set_cons_zero, List.set_cons_succ]
  refine hg_loads 14 (some 46) rfl rfl (by kernel_rfl) (by kernel_rfl) (by kernel_rfl) (fun _ _ _ _ h => h) HS (by simp) rfl 27 _ rfl 0 _ _ _ rfl 0 rfl 34 sh27 Q.lst (lst_len HLQ.out) (by simpa using cellsAt_self [] Q.lst) ?_
  try simp only [Act.put, List.setIfInBounds_toArray, List.set_cons_zero, List.set_cons_succ]
  refine hg_reg 18 (some 50) rfl rfl (by kernel_rfl) (by kernel_rfl) (by kernel_rfl) (fun _ _ _ _ h => h) HS (by simp) (.int .i64 0) rfl (fun _ => by rfl) ?_
  try simp only [Act.put, List.setIfInBounds_toArray, List.set_cons_zero, List.set_cons_succ]
  refine hk_x1 9 (by kernel_rfl) ?_
  refine hg_call 9 (some 41) rfl rfl rfl HS (by simp) 21 _ _ rfl Try.func21 (by kernel_rfl) rfl _ (fun v => ∃ p : Pg, v = .agg p.arr ∧ p.cells.length = 16) ((oddPage_any q c Q HLQ.out _ HS.out.code).mono (fun e w1 h => by obtain ⟨p, rfl, h1, ho, hcd⟩ := h; exact ⟨_, rfl, ⟨p, rfl, h1⟩, HS.out.draws ho hcd⟩)) rfl ?_
  clear HS; rintro _ w ⟨O1, rfl, hl⟩ HS
  have HLO1 := Lib.hid hl
  clear hl
  try simp only [Act.put, List.setIfInBounds_toArray, List.set_cons_zero, List.set_cons_succ]
  refine hg_reg 10 (some 42) rfl rfl (by kernel_rfl) (by kernel_rfl) (by kernel_rfl) (fun _ _ _ _ h => h) HS (by simp) (.agg (pairL (P, O1)).toArray) rfl (fun _ => run_buildop (parts := [(0, .tmp 38), (1, .tmp 41)]) rfl rfl (built_pair P O1 HLP.out HLO1.out)) ?_
  try simp only [Act.put, List.setIfInBounds_toArray, List.set_cons_zero, List.set_cons_succ]
  refine hk_x1 13 (by kernel_rfl) ?_
  refine hg_call 13 (some 45) rfl rfl rfl HS (by simp) 21 _ _ rfl Try.func21 (by kernel_rfl) rfl _ (fun v => ∃ p : Pg, v = .agg p.arr ∧ p.cells.length = 16) ((oddPage_any q c P HLP.out _ HS.out.code).mono (fun e w1 h => by obtain ⟨p, rfl, h1, ho, hcd⟩ := h; exact ⟨_, rfl, ⟨p, rfl, h1⟩, HS.out.draws ho hcd⟩)) rfl ?_
  clear HS; rintro _ w ⟨O2, rfl, hl⟩ HS
  have HLO2 := Lib.hid hl
  clear hl
  try simp only [Act.put, List.setIfInBounds_toArray, List.set_cons_zero, List.set_cons_succ]
  refine hg_reg 15 (some 47) rfl rfl (by kernel_rfl) (by kernel_rfl) (by kernel_rfl) (fun _ _ _ _ h => h) HS (by simp) (.agg (pairL (O2, Q)).toArray) rfl (fun _ => run_buildop (parts := [(0, .tmp 45), (1, .tmp 46)]) rfl rfl (built_pair O2 Q HLO2.out HLQ.out)) ?_
  try simp only [Act.put, List.setIfInBounds_toArray, List.set_cons_zero, List.set_cons_succ]
  have HZ : Hid (okPairs [(A, B), (P, Q), (P, O1), (O2, Q)]) := okPairs_four HA.out HBB.out HLP.out HLQ.out HLP.out HLO1.out HLO2.out HLQ.out
  refine hk_x1 16 (by kernel_rfl) ?_
  refine hg_build 16 (some 48) rfl rfl rfl HS (by simp) 56 55 4 [(0, .tmp 34), (1, .tmp 37), (2, .tmp 42), (3, .tmp 47)] rfl [(0, .agg (pairL (A, B)).toArray), (1, .agg (pairL (P, Q)).toArray), (2, .agg (pairL (P, O1)).toArray), (3, .agg (pairL (O2, Q)).toArray)] rfl (fourL [(A, B), (P, Q), (P, O1), (O2, Q)]) (fun w => build_four (A, B) (P, Q) (P, O1) (O2, Q) HZ.out w) ?_
  clear HS; intro w b48 HS
  try simp only [Act.put, List.setIfInBounds_toArray, List.set_cons_zero, List.set_cons_succ]
  refine hg_reg 17 (some 49) rfl rfl (by kernel_rfl) (by kernel_rfl) (by kernel_rfl) (fun _ _ _ _ h => h) HS (by simp) (.int .i64 4) rfl (fun _ => by go_simp) ?_
  try simp only [Act.put, List.setIfInBounds_toArray, List.set_cons_zero, List.set_cons_succ]
  refine hk_done (by kernel_rfl) ?_
  obtain ⟨zs, hzs⟩ : ∃ zs, zs = [(A, B), (P, Q), (P, O1), (O2, Q)] := ⟨_, rfl⟩
  rw [← hzs] at HS HZ
  clear hzs HLO1 HLO2 HA HBB H4 H5
  replace HS : Hid (St (some c) q w2 w [(b48, 55, fourL zs), (b9, 27, Q.lst), (b8, 27, P.lst)]) := HS
  go_wp2_with fail
  go_loopw [50] (fun i wr => ∃ k : Nat, k ≤ 4 ∧ i = .int .i64 k ∧ Hid (St (some c) q w2 wr [(b48, 55, fourL zs), (b9, 27, Q.lst), (b8, 27, P.lst)])) (fun i _ => 4 - (intOf i).toNat)
  case atStart => exact ⟨0, Nat.zero_le _, rfl, HS⟩
  case round =>
    obtain ⟨k, hk, rfl, HS2⟩ := hrel
    clear HS
    have HS := HS2
    clear HS2
    by_cases hlt : k < 4
    · obtain ⟨z, hz⟩ := list_get_of_lt zs k 4 HZ.out.1 hlt
      have HZK := Lib.hid hz
      have HZ1 : Hid (z.1.cells.length = 16) := (HZ.out.2 z (List.mem_of_getElem? hz)).1
      have HZ2 : Hid (z.2.cells.length = 16) := (HZ.out.2 z (List.mem_of_getElem? hz)).2
      clear hz
      go_wp2_with (first | (refine sx_loads HS rfl 55 _ rfl 0 _ _ _ rfl (k * 68) rfl 68 sh55 (pairL z) (pairL_len HZ1.out HZ2.out) (four_at HZ.out HZK.out) ?_) | (refine sx_alloc HS rfl 55 rfl _ zero_pair ?_; clear HS; intro w b11 HS) | (refine sx_store_all HS rfl 55 _ _ rfl rfl 0 _ _ _ rfl rfl (pairL z) rfl 68 sh55 (pairL_len HZ1.out HZ2.out) (by rw [pairL_len HZ1.out HZ2.out]; rfl) (pairL_one z) ?_; clear HS; intro w HS) | (refine sx_loads HS rfl 27 _ rfl 0 _ _ _ rfl 0 rfl 34 sh27 z.1.lst (lst_len HZ1.out) (pair_at0 z) ?_) | (refine sx_loads HS rfl 27 _ rfl 0 _ _ _ rfl 34 rfl 34 sh27 z.2.lst (lst_len HZ2.out) (pair_at1 HZ1.out) ?_))
      replace HS : Hid (St (some c) q w2 w ((b11, 55, pairL z) :: [(b48, 55, fourL zs), (b9, 27, Q.lst), (b8, 27, P.lst)])) := HS
      obtain ⟨xs, code, hd⟩ : ∃ xs code, diffF z.1 z.2 = (xs, code) := ⟨_, _, rfl⟩
      have HD := Lib.hid hd
      clear hd
      refine (ch_diff z.1 z.2 _ HZ1.out HZ2.out).mono ?_
      rintro e w ⟨v1, lr1, he, hst, hre⟩
      rw [HD.out] at he hre
      subst he
      replace HS := Lib.hid (HS.out.call hst)
      have HR1 := Lib.hid hre
      clear hst hre
      go_wp2_with (first | (refine sx_loads HS rfl 27 _ rfl lr1.length b11 55 (pairL z) (by simp) 0 rfl 34 sh27 z.1.lst (lst_len HZ1.out) (pair_at0 z) ?_) | (refine sx_loads HS rfl 27 _ rfl lr1.length b11 55 (pairL z) (by simp) 34 rfl 34 sh27 z.2.lst (lst_len HZ2.out) (pair_at1 HZ1.out) ?_))
      refine (rf_diff z.1 z.2 _ HZ1.out HZ2.out).mono ?_
      rintro e w ⟨v2, lr2, he, hst, hre⟩
      rw [HD.out] at he hre
      subst he
      replace HS := Lib.hid (HS.out.call hst)
      have HR2 := Lib.hid hre
      clear hst hre
      have hne : (code != code) = false := bne_self_eq_false _
      have hbv : ∀ w, (binOp .neq 39 (.int .i64 code) (.int .i64 code)).run Try.prog w = .ok (.bool false) w := fun w => neq_errno code w
      go_wp2_with fail
      clear hbv hne
      refine (same_any _ v1 v2 xs (RowVal.of (front := lr2) HS.out HR1.out) (RowVal.of (front := []) HS.out HR2.out)).mono ?_
      rintro e w ⟨rfl, hx⟩
      replace HS := Lib.hid (HS.out.ext hx)
      clear hx
      replace HS : Hid (St (some c) q w2 w [(b48, 55, fourL zs), (b9, 27, Q.lst), (b8, 27, P.lst)]) := HS.out.sub (((List.sublist_cons_self _ _).trans (List.sublist_append_right lr1 _)).trans (List.sublist_append_right lr2 _))
      go_wp2_with fail
      go_roundw
      case rel => exact ⟨k + 1, by omega, by go_num, HS⟩
      case measure => simp [intOf]; omega
    · have hk4 : k = 4 := by omega
      subst hk4
      clear hlt hk
      go_wp2_with (first | (refine sx_load_all HS rfl 27 _ rfl 2 _ _ P.lst rfl rfl 34 sh27 (lst_len HLP.out) ?_) | (refine sx_load_all HS rfl 27 _ rfl 1 _ _ Q.lst rfl rfl 34 sh27 (lst_len HLQ.out) ?_))
      obtain ⟨xs, hxs⟩ : ∃ xs, xs = diffL P Q 16 := ⟨_, rfl⟩
      have hd : diffF P Q = (xs, 0) := by rw [hxs]; exact diffF_ok HP.out.1 HQ.out.1 HP.out.2.2 HQ.out.2.2
      have HD := Lib.hid hd
      have HXS := Lib.hid hxs
      clear hd hxs
      refine (ch_diff P Q _ HLP.out HLQ.out).mono ?_
      rintro e w ⟨v1, lr, he, hst, hre⟩
      rw [HD.out] at he hre
      subst he
      replace HS := Lib.hid (HS.out.call hst)
      have HR := Lib.hid hre
      clear hst hre HD
      obtain ⟨ao, cp, rfl, hcp, hmx, _⟩ := RowVal.of (front := []) HS.out HR.out
      have hcp2 : cp ≤ 9223372036854775807 := by unfold maxLen at hmx; omega
      obtain ⟨n, hn⟩ : ∃ n, n = xs.length := ⟨_, rfl⟩
      rw [← hn] at hcp HR ⊢
      have hn16 : n ≤ 16 := by rw [hn, HXS.out]; exact diffL_len P Q 16
      have HN := Lib.hid hn
      clear hn hmx
      have HM0 : Hid ((mixPg P Q (fun _ => false)).cells.length = 16) := mix_len _ _ _
      have hP0 : P.lst = (mixPg P Q (fun _ => false)).lst := by rw [mix_none HLP.out]
      go_upto_region 15 with (first | (refine sx_load_all HS rfl 27 _ rfl (lr.length + 2) b8 27 P.lst (by simp) rfl 34 sh27 (lst_len HLP.out) ?_) | (refine sx_alloc HS rfl 27 rfl _ zero_page ?_; clear HS; intro w b18 HS) | (refine sx_store_all HS rfl 27 _ _ rfl rfl 0 _ _ _ rfl rfl (Pg.lst P) rfl 34 sh27 (lst_len HLP.out) (by first | rfl | (rw [lst_len HLP.out]; first | rfl | exact lst_len HLP.out | exact (mix_len _ _ _))) (pgLst_one _ _ _) ?_; clear HS; intro w HS))
      replace HS : Hid (St (some c) q w2 w ((b18, 27, P.lst) :: (lr ++ [(b48, 55, fourL zs), (b9, 27, Q.lst), (b8, 27, P.lst)]))) := HS
      have HS0 : Hid (St (some c) q w2 w ((b18, 27, (mixPg P Q (fun _ => false)).lst) :: (lr ++ [(b48, 55, fourL zs), (b9, 27, Q.lst), (b8, 27, P.lst)]))) := by rw [← hP0]; exact HS
      clear HS hP0 HM0
      have HS := HS0
      clear HS0
      go_wp2_with fail
      obtain ⟨wo, hwo⟩ : ∃ wo : World, wo = wr := ⟨_, rfl⟩
      subst hwo
      go_loopw [19] (fun i wr => ∃ (j : Nat) (S : Nat → Bool), j ≤ n ∧ i = .int .i64 j ∧ Hid (doneN xs S = j) ∧ Hid (St (some c) q w2 wr ((b18, 27, (mixPg P Q S).lst) :: (lr ++ [(b48, 55, fourL zs), (b9, 27, Q.lst), (b8, 27, P.lst)])))) (fun i _ => n - (intOf i).toNat)
      case atStart => exact ⟨0, fun _ => false, Nat.zero_le _, rfl, doneN_none xs, HS⟩
      case round =>
        obtain ⟨j, S, hj, rfl, HJ, HS2⟩ := hrel
        clear HS
        have HS := HS2
        clear HS2
        by_cases hlt : j < n
        · skip
          go_wp2_with fail
          refine (next_any q c n _ HS.out.code (by omega)).mono ?_
          rintro e w ⟨r, rfl, hr, _, ho, hcd⟩
          replace HS := Lib.hid (HS.out.draws ho hcd)
          have hrn : r < n := by have := hr (by omega); omega
          clear ho hcd hr
          obtain ⟨g, cp2, junk, hlr, hv, _, _⟩ := RowEnt.pos HR.out (by omega)
          obtain ⟨rfl, rfl⟩ : ao = some ⟨g, 0, none⟩ ∧ cp = cp2 := by simpa using hv
          subst hlr
          clear hv
          replace HS : Hid (St (some c) q w2 w ((b18, 27, (mixPg P Q S).lst) :: [(g, 29, flat xs ++ junk), (b48, 55, fourL zs), (b9, 27, Q.lst), (b8, 27, P.lst)])) := HS
          go_wp2_with fail
          obtain ⟨wo2, hwo2⟩ : ∃ wo2 : World, wo2 = wr := ⟨_, rfl⟩
          subst hwo2
          go_loopw [20, 21] (fun s20 s21 wr => ∃ (m k : Nat), m ≤ n ∧ s21 = .int .i64 m ∧ s20 = .int .i64 k ∧ k < n ∧ Hid (k = (r + m) % n) ∧ Hid (∀ i, i < m → ∀ cx, xs[(r + i) % n]? = some cx → S (slotN cx) = true) ∧ Hid (St (some c) q w2 wr ((b18, 27, (mixPg P Q S).lst) :: [(g, 29, flat xs ++ junk), (b48, 55, fourL zs), (b9, 27, Q.lst), (b8, 27, P.lst)]))) (fun _ s21 _ => n - (intOf s21).toNat)
          case atStart => exact ⟨0, r, Nat.zero_le _, rfl, rfl, hrn, (Nat.mod_eq_of_lt hrn).symm, fun i h => absurd h (Nat.not_lt_zero _), HS⟩
          case round =>
            obtain ⟨m, k, hm, rfl, rfl, hk, HK, HDN, HS2⟩ := hrel
            clear HS
            have HS := HS2
            clear HS2
            have hmn : m < n := left_one (by omega) HN.out HJ.out hlt (fun i hi => HDN.out i (by omega))
            obtain ⟨cx, hcx⟩ := list_get_of_lt xs k n HN.out.symm hk
            have hmem : cx ∈ diffL P Q 16 := by rw [← HXS.out]; exact List.mem_of_getElem? hcx
            have hs0 : 0 ≤ cx.slot := (diffL_slot hmem).1
            have hs1 : cx.slot < 16 := (diffL_slot hmem).2
            have hi16 : cx.slot.toNat < 16 := by omega
            have hrow := rowAt_of (HS.out.box (i := 1) rfl)
            have p1 : wr.cell? ⟨g, k * 6 + 1, none⟩ = some (Value.int .i64 cx.slot) := by have h := hrow k cx hcx 1 (Value.int .i64 cx.slot) rfl; simpa only [Nat.zero_add, Nat.add_zero] using h
            have p4 : wr.cell? ⟨g, k * 6 + 4, none⟩ = some (Value.bool cx.ab) := by have h := hrow k cx hcx 4 (Value.bool cx.ab) rfl; simpa only [Nat.zero_add, Nat.add_zero] using h
            have p5 : wr.cell? ⟨g, k * 6 + 5, none⟩ = some (Value.string cx.ad) := by have h := hrow k cx hcx 5 (Value.string cx.ad) rfl; simpa only [Nat.zero_add, Nat.add_zero] using h
            have g0 := (HS.out.box (i := 0) rfl).cell (Pg.get (mix_len P Q S) cx.slot.toNat hi16).1
            have g1 := (HS.out.box (i := 0) rfl).cell (Pg.get (mix_len P Q S) cx.slot.toNat hi16).2
            have hq := fun w => eql_cell ((mixPg P Q S).cell cx.slot.toNat).1 cx.ab ((mixPg P Q S).cell cx.slot.toNat).2 cx.ad w
            have d1 : decide (m < n) = true := by simpa using hmn
            have HCX := Lib.hid hcx
            have HMEM := Lib.hid hmem
            clear hrow hcx hmem
            cases hS : S (slotN cx) with
            | true =>
              have hce : cellEqB (((mixPg P Q S).cell cx.slot.toNat).1, ((mixPg P Q S).cell cx.slot.toNat).2) (cx.ab, cx.ad) = true := (diff_cell_done HMEM.out).trans hS
              have HSS := Lib.hid hS
              clear hS
              go_wp2_with fail
              go_quiet (fail)
              replace HS := Lib.hid (HS.out.drewN nq)
              clear p1 p4 p5 g0 g1 hq hce d1
              have hrem : ((k : Int) + 1) % (n : Int) = (((k + 1) % n : Nat) : Int) := by simp
              have HREM := Lib.hid hrem
              clear hrem
              go_wp2_with fail
              go_roundw
              case rel =>
                refine ⟨m + 1, (k + 1) % n, by omega, by go_num, ?_, Nat.mod_lt _ (by omega), ?_, ?_, HS⟩
                · rw [HREM.out]
                · show _ = _; rw [HK.out, Nat.mod_add_mod]; rfl
                · intro i hi cy hcy
                  by_cases e : i = m
                  · subst e; rw [← HK.out] at hcy; have := HCX.out.symm.trans hcy; cases this; exact HSS.out
                  · exact HDN.out i (by omega) cy hcy
              case measure => simp [intOf]; omega
            | false =>
              have hce : cellEqB (((mixPg P Q S).cell cx.slot.toNat).1, ((mixPg P Q S).cell cx.slot.toNat).2) (cx.ab, cx.ad) = false := (diff_cell_done HMEM.out).trans hS
              have HSS := Lib.hid hS
              clear hS
              go_wp2_with fail
              go_quiet (fail)
              replace HS := Lib.hid (HS.out.drewN nq)
              clear p1 p4 p5 g0 g1 hq hce d1
              obtain ⟨S2, hS2⟩ : ∃ S2, S2 = addS S (slotN cx) := ⟨_, rfl⟩
              have HCA : Hid (∀ w, Calls Try.prog 22 #[.agg (mixPg P Q S).arr, .agg cx.arr] w fun e w1 => e = .returned (.tuple #[.agg (mixPg P Q S2).arr, .int .i64 0]) ∧ Ext w w1) := fun w => by
                have h := ch_apply (mixPg P Q S) cx w (mix_len _ _ _)
                rw [diff_apply HP.out.1 HP.out.2.2 HQ.out.2.2 HLP.out HLQ.out HMEM.out HSS.out, ← hS2] at h
                exact h
              have HJ2 : Hid (doneN xs S2 = j + 1) := by show doneN xs S2 = j + 1; rw [hS2, doneN_add xs S k cx (by rw [HXS.out]; exact (diffL_slots P Q 16).1) HCX.out HSS.out, HJ.out]
              have HM1 : Hid ((mixPg P Q S).cells.length = 16) := mix_len _ _ _
              have HM2 : Hid ((mixPg P Q S2).cells.length = 16) := mix_len _ _ _
              clear hS2
              go_wp2_with fail
              refine hg_begin ((b18, 27, (mixPg P Q S).lst) :: [(g, 29, flat xs ++ junk), (b48, 55, fourL zs), (b9, 27, Q.lst), (b8, 27, P.lst)]) HS (by kernel_rfl) ?_
              clear HS; intro w HS
              refine hg_loads 0 (some 125) rfl rfl (by kernel_rfl) (by kernel_rfl) (by kernel_rfl) (fun _ _ _ _ h => h) HS (by simp) rfl 27 _ rfl 0 _ _ _ rfl 0 rfl 34 sh27 (mixPg P Q S).lst (lst_len HM1.out) (by simpa using cellsAt_self [] (mixPg P Q S).lst) ?_
              try simp only [Act.put, List.setIfInBounds_toArray, List.set_cons_zero, List.set_cons_succ]
              refine hg_reg 1 (some 126) rfl rfl (by kernel_rfl) (by kernel_rfl) (by kernel_rfl) (fun _ _ _ _ h => h) HS (by simp) (.slice (some ⟨g, 0, none⟩) n cp) rfl (fun _ => by rfl) ?_
              try simp only [Act.put, List.setIfInBounds_toArray, List.set_cons_zero, List.set_cons_succ]
              refine hg_reg 2 (some 127) rfl rfl (by kernel_rfl) (by kernel_rfl) (by kernel_rfl) (fun _ _ _ _ h => h) HS (by simp) (.int .i64 k) rfl (fun _ => by rfl) ?_
              try simp only [Act.put, List.setIfInBounds_toArray, List.set_cons_zero, List.set_cons_succ]
              refine hg_reg 3 (some 128) rfl rfl (by kernel_rfl) (by kernel_rfl) (by kernel_rfl) (fun _ _ _ _ h => h) HS (by simp) (.pointer (some ⟨g, k * 6, none⟩)) rfl (fun _ => by go_simp) ?_
              try simp only [Act.put, List.setIfInBounds_toArray, List.set_cons_zero, List.set_cons_succ]
              refine hg_loads 4 (some 129) rfl rfl (by kernel_rfl) (by kernel_rfl) (by kernel_rfl) (fun _ _ _ _ h => h) HS (by simp) rfl 29 _ rfl 1 _ _ _ rfl (k * 6) rfl 6 sh29 cx.lst rfl (row_at HCX.out) ?_
              try simp only [Act.put, List.setIfInBounds_toArray, List.set_cons_zero, List.set_cons_succ]
              refine hk_x2 5 9 (by kernel_rfl) ?_ ?_
              · skip
                refine hg_call 5 (some 130) rfl rfl rfl HS (by simp) 22 _ _ rfl Try.func22 (by kernel_rfl) rfl _ (fun v => v = .tuple #[.agg (mixPg P Q S2).arr, .int .i64 0]) ((HCA.out _).mono (fun e w1 h => by obtain ⟨rfl, hx⟩ := h; exact ⟨_, rfl, rfl, HS.out.ext hx⟩)) rfl ?_
                clear HS; rintro _ w rfl HS
                try simp only [Act.put, List.setIfInBounds_toArray, List.set_cons_zero, List.set_cons_succ]
                refine hg_reg 6 (some 124) rfl rfl (by kernel_rfl) (by kernel_rfl) (by kernel_rfl) (fun _ _ _ _ h => h) HS (by simp) (.tuple #[.agg (mixPg P Q S2).arr, .int .i64 0]) rfl (fun _ => by rfl) ?_
                try simp only [Act.put, List.setIfInBounds_toArray, List.set_cons_zero, List.set_cons_succ]
                refine hg_reg 7 (some 131) rfl rfl (by kernel_rfl) (by kernel_rfl) (by kernel_rfl) (fun _ _ _ _ h => h) HS (by simp) (.agg (mixPg P Q S2).arr) rfl (fun _ => by go_simp) ?_
                try simp only [Act.put, List.setIfInBounds_toArray, List.set_cons_zero, List.set_cons_succ]
                refine hg_reg 8 (some 132) rfl rfl (by kernel_rfl) (by kernel_rfl) (by kernel_rfl) (fun _ _ _ _ h => h) HS (by simp) (.int .i64 0) rfl (fun _ => by go_simp) ?_
                try simp only [Act.put, List.setIfInBounds_toArray, List.set_cons_zero, List.set_cons_succ]
                refine hk_x1 9 (by kernel_rfl) ?_
                refine hg_alloc 9 (some 22) rfl rfl rfl HS (by simp) 27 rfl _ zero_page ?_
                clear HS; intro w b22 HS
                try simp only [Act.put, List.setIfInBounds_toArray, List.set_cons_zero, List.set_cons_succ]
                refine hk_x1 10 (by kernel_rfl) ?_
                refine hg_store_all 10 rfl rfl HS 27 _ _ rfl rfl 0 _ _ _ rfl rfl (mixPg P Q S2).lst rfl 34 sh27 (lst_len HM2.out) (by rw [lst_len HM2.out]; rfl) (pgLst_one _ _ _) (by simp) ?_
                clear HS; intro w HS
                try simp only [Act.put, List.setIfInBounds_toArray, List.set_cons_zero, List.set_cons_succ]
                refine hg_reg 11 (some 23) rfl rfl (by kernel_rfl) (by kernel_rfl) (by kernel_rfl) (fun _ _ _ _ h => h) HS (by simp) (.int .i64 0) rfl (fun _ => by rfl) ?_
                try simp only [Act.put, List.setIfInBounds_toArray, List.set_cons_zero, List.set_cons_succ]
                refine hk_done (by kernel_rfl) ?_
                replace HS : Hid (St (some c) q w2 w ((b22, 27, (mixPg P Q S2).lst) :: ((b18, 27, (mixPg P Q S).lst) :: [(g, 29, flat xs ++ junk), (b48, 55, fourL zs), (b9, 27, Q.lst), (b8, 27, P.lst)]))) := HS
                go_wp2_with (first | (refine sx_load_all HS rfl 27 _ rfl 0 _ _ _ rfl rfl 34 sh27 (lst_len HM2.out) ?_) | (refine sx_store_all HS rfl 27 _ _ rfl rfl 1 _ _ _ rfl rfl (mixPg P Q S2).lst rfl 34 sh27 (lst_len HM2.out) (by rw [lst_len HM1.out, lst_len HM2.out]) (pgLst_one _ _ _) ?_; clear HS; intro w HS))
                replace HS : Hid (St (some c) q w2 w ((b18, 27, (mixPg P Q S2).lst) :: [(g, 29, flat xs ++ junk), (b48, 55, fourL zs), (b9, 27, Q.lst), (b8, 27, P.lst)])) := HS.out.drop 1
                go_roundw
                case rel => exact ⟨j + 1, S2, by omega, by go_num, HJ2.out, HS⟩
                case measure => simp [intOf]; omega
              · skip
                refine hg_alloc 9 (some 22) rfl rfl rfl HS (by simp) 27 rfl _ zero_page ?_
                clear HS; intro w b22 HS
                try simp only [Act.put, List.setIfInBounds_toArray, List.set_cons_zero, List.set_cons_succ]
                refine hk_x1 5 (by kernel_rfl) ?_
                refine hg_call 5 (some 130) rfl rfl rfl HS (by simp) 22 _ _ rfl Try.func22 (by kernel_rfl) rfl _ (fun v => v = .tuple #[.agg (mixPg P Q S2).arr, .int .i64 0]) ((HCA.out _).mono (fun e w1 h => by obtain ⟨rfl, hx⟩ := h; exact ⟨_, rfl, rfl, HS.out.ext hx⟩)) rfl ?_
                clear HS; rintro _ w rfl HS
                try simp only [Act.put, List.setIfInBounds_toArray, List.set_cons_zero, List.set_cons_succ]
                refine hg_reg 6 (some 124) rfl rfl (by kernel_rfl) (by kernel_rfl) (by kernel_rfl) (fun _ _ _ _ h => h) HS (by simp) (.tuple #[.agg (mixPg P Q S2).arr, .int .i64 0]) rfl (fun _ => by rfl) ?_
                try simp only [Act.put, List.setIfInBounds_toArray, List.set_cons_zero, List.set_cons_succ]
                refine hg_reg 7 (some 131) rfl rfl (by kernel_rfl) (by kernel_rfl) (by kernel_rfl) (fun _ _ _ _ h => h) HS (by simp) (.agg (mixPg P Q S2).arr) rfl (fun _ => by go_simp) ?_
                try simp only [Act.put, List.setIfInBounds_toArray, List.set_cons_zero, List.set_cons_succ]
                refine hg_reg 8 (some 132) rfl rfl (by kernel_rfl) (by kernel_rfl) (by kernel_rfl) (fun _ _ _ _ h => h) HS (by simp) (.int .i64 0) rfl (fun _ => by go_simp) ?_
                try simp only [Act.put, List.setIfInBounds_toArray, List.set_cons_zero, List.set_cons_succ]
                refine hk_x1 10 (by kernel_rfl) ?_
                refine hg_store_all 10 rfl rfl HS 27 _ _ rfl rfl 0 _ _ _ rfl rfl (mixPg P Q S2).lst rfl 34 sh27 (lst_len HM2.out) (by rw [lst_len HM2.out]; rfl) (pgLst_one _ _ _) (by simp) ?_
                clear HS; intro w HS
                try simp only [Act.put, List.setIfInBounds_toArray, List.set_cons_zero, List.set_cons_succ]
                refine hg_reg 11 (some 23) rfl rfl (by kernel_rfl) (by kernel_rfl) (by kernel_rfl) (fun _ _ _ _ h => h) HS (by simp) (.int .i64 0) rfl (fun _ => by rfl) ?_
                try simp only [Act.put, List.setIfInBounds_toArray, List.set_cons_zero, List.set_cons_succ]
                refine hk_done (by kernel_rfl) ?_
                replace HS : Hid (St (some c) q w2 w ((b22, 27, (mixPg P Q S2).lst) :: ((b18, 27, (mixPg P Q S).lst) :: [(g, 29, flat xs ++ junk), (b48, 55, fourL zs), (b9, 27, Q.lst), (b8, 27, P.lst)]))) := HS
                go_wp2_with (first | (refine sx_load_all HS rfl 27 _ rfl 0 _ _ _ rfl rfl 34 sh27 (lst_len HM2.out) ?_) | (refine sx_store_all HS rfl 27 _ _ rfl rfl 1 _ _ _ rfl rfl (mixPg P Q S2).lst rfl 34 sh27 (lst_len HM2.out) (by rw [lst_len HM1.out, lst_len HM2.out]) (pgLst_one _ _ _) ?_; clear HS; intro w HS))
                replace HS : Hid (St (some c) q w2 w ((b18, 27, (mixPg P Q S2).lst) :: [(g, 29, flat xs ++ junk), (b48, 55, fourL zs), (b9, 27, Q.lst), (b8, 27, P.lst)])) := HS.out.drop 1
                go_roundw
                case rel => exact ⟨j + 1, S2, by omega, by go_num, HJ2.out, HS⟩
                case measure => simp [intOf]; omega
        · have hjn : j = n := by omega
          subst hjn
          clear hlt hj
          have hmix : (mixPg P Q S).cells = Q.cells := mix_end HLQ.out (by rw [← HXS.out, ← HN.out]; exact HJ.out)
          have HMX := Lib.hid hmix
          have HM1 : Hid ((mixPg P Q S).cells.length = 16) := mix_len _ _ _
          clear hmix
          have hl1 : (P.lsn == P.lsn) = true := beq_self_eq_true _
          have HE : Hid (∀ w, (binOp .eql 25 (.agg (cellVals (mixPg P Q S).cells).toArray) (.agg (cellVals Q.cells).toArray)).run Try.prog w = .ok (.bool true) w) := fun w => by
            have h := eql_cells (mixPg P Q S).cells Q.cells HM1.out HLQ.out w
            rw [HMX.out, eqCellsB_self] at h
            rw [HMX.out]
            exact h
          go_wp2_with (first | (refine sx_loads HS rfl 25 _ rfl 0 _ _ _ rfl 2 rfl 32 sh25 (cellVals (mixPg P Q S).cells) (by rw [cellVals_length, HM1.out]) (cells_at (mixPg P Q S)) ?_) | (refine sx_loads HS rfl 25 _ rfl (lr.length + 2) b9 27 Q.lst (by simp) 2 rfl 32 sh25 (cellVals Q.cells) (by rw [cellVals_length, HLQ.out]) (cells_at Q) ?_) | (refine sx_run rfl (.bool true) (run_binop rfl rfl rfl (guard_cells ..) (HE.out _)) ?_) | (refine sx_load HS rfl 3 _ rfl 0 _ _ _ rfl 1 rfl _ sh3 (.int .i64 P.lsn) rfl ?_) | (refine sx_load HS rfl 3 _ rfl (lr.length + 3) b8 27 P.lst (by simp) 1 rfl _ sh3 (.int .i64 P.lsn) rfl ?_))
          go_ret
          exact ⟨rfl, HX.out.only HS.out.isOnly hc0⟩
end Go.Proofs.Ytlbhoepfcedkdaa
