/-
  ChangeRows: the walk.
-/
import Derived.Test.YtlbhoepfcedkdaaLaw03
import Derived.Test.YtlbhoepfcedkdaaHg
import Derived.Test.YtlbhoepfcedkdaaEql
import Derived.Test.YtlbhoepfcedkdaaRowF
import Derived.Test.YtlbhoepfcedkdaaRowsA
import Derived.BigRegion
namespace Go.Proofs.Ytlbhoepfcedkdaa
open Go.RowKit

set_option maxHeartbeats 4000000 in
set_option maxRecDepth 100000 in
theorem rows_walk (a : Option Addr) (len cap cut : Nat) (w0 : World) (hb : BytesIn w0 a len) (hlc : len ≤ cap) (hmax : cap ≤ maxLen) (hcut : cut < 256) :
    Calls Try.prog 5 #[.slice a len cap, .int .u8 cut] w0 fun e w' => e = .returned (.bool true) ∧ Ext w0 w' := by
  have HB := Lib.hid hb
  have HM := Lib.hid hmax
  clear hb hmax
  go_enter Try.func5, Try.ntmps5
  go_wp2_with fail
  refine (awake_any _).mono ?_
  rintro e w1 ⟨rfl, hx1⟩
  have HX1 := Lib.hid hx1
  have HB1 : Hid (BytesIn w1 a len) := fun h => by
    obtain ⟨blk, off, ha, hi⟩ := HB.out h
    refine ⟨blk, off, ha, fun i hl => ?_⟩
    obtain ⟨n, hn, hc⟩ := hi i hl
    exact ⟨n, hn, (Below.cell (p := ⟨blk, off + i, none⟩) HX1.out (block_lt_of_cell (a := ⟨blk, off + i, none⟩) hc)).trans hc⟩
  clear hx1
  go_wp2_with fail
  refine (new_any a len cap 200 _ HB1.out hlc (by omega) (by omega) HM.out).mono ?_
  rintro e w2 ⟨c, q, rfl, hc, hx2, hcd⟩
  have hc0 : w0.heap.size ≤ c := by have := HX1.out.size; omega
  have HX2 := Lib.hid (HX1.out.trans hx2)
  have HS : Hid (St (some c) q w2 w2 []) := St.startC hcd
  clear hc hx2 hcd HX1 HB1 HB
  go_wp2_with fail
  refine (page_any q c 2 _ HS.out.code).mono ?_
  rintro e w ⟨lsn, l, rfl, _, _, hl, hok, ho, hcd⟩
  replace HS := Lib.hid (HS.out.draws ho hcd)
  have HL := Lib.hid hl
  have HOK := Lib.hid hok
  clear hl hok ho hcd
  obtain ⟨p0, hp0⟩ : ∃ p0 : Pg, p0 = ⟨2, lsn, l⟩ := ⟨_, rfl⟩
  have HP0 := Lib.hid hp0
  have hpa : pgArr 2 lsn l = p0.arr := by rw [hp0]; rfl
  rw [hpa]
  have HL0 : Hid (p0.cells.length = 16) := by rw [hp0]; exact HL.out
  clear hp0 hpa
  go_wp2_with (first | (refine sx_alloc HS rfl 27 rfl _ zero_page ?_; clear HS; intro w bp HS) | (refine sx_store_all HS rfl 27 _ _ rfl rfl 0 _ _ _ rfl rfl (Pg.lst p0) rfl 34 sh27 (lst_len HL0.out) (by rw [lst_len HL0.out]; rfl) (pgLst_one _ _ _) ?_; clear HS; intro w HS))
  replace HS : Hid (St (some c) q w2 w [(bp, 27, p0.lst)]) := HS
  refine (next_any q c 16 _ HS.out.code (by omega)).mono ?_
  rintro e w ⟨slot, rfl, hslot, _, ho, hcd⟩
  replace HS := Lib.hid (HS.out.draws ho hcd)
  clear ho hcd
  have hs16 : slot < 16 := by have := hslot (by omega); omega
  clear hslot
  obtain ⟨⟨pb, pd⟩, hpc⟩ := list_get_of_lt l slot 16 HL.out (by omega)
  have HC : Hid (p0.lst[2 + slot * 2]? = some (.bool pb) ∧ p0.lst[2 + slot * 2 + 1]? = some (.string pd)) := by rw [HP0.out]; exact pgLst_get 2 lsn l slot pb pd hpc
  have hpok := HOK.out (pb, pd) (List.mem_of_getElem? hpc)
  have HPK := Lib.hid (okB_of hpok.1 hpok.2)
  have HPC := Lib.hid hpc
  clear hpok hpc
  go_wp2_with (first | (refine sx_alloc HS rfl 24 rfl _ zr24 ?_; clear HS; intro w b9 HS) | (refine sx_loads HS rfl 24 _ rfl 0 _ _ _ rfl (2 + slot * 2) rfl 2 sh24 [.bool pb, .string pd] rfl ⟨HC.out.1, HC.out.2, trivial⟩ ?_) | (refine sx_stores HS rfl 24 _ _ rfl rfl 0 _ _ _ rfl _ rfl 2 sh24 [_, _] rfl rfl rfl rfl ?_; clear HS; intro w HS))
  replace HS : Hid (St (some c) q w2 w [(b9, 24, [.bool pb, .string pd]), (bp, 27, p0.lst)]) := HS
  refine (next_any q c 8 _ HS.out.code (by omega)).mono ?_
  rintro e w ⟨r8, rfl, hr8, _, ho, hcd⟩
  replace HS := Lib.hid (HS.out.draws ho hcd)
  clear ho hcd
  have hr8' : r8 < 8 := by have := hr8 (by omega); omega
  clear hr8
  go_wp2_with fail
  have hinf : ∃ ie, Try.prog.info? 29 = some ie ∧ ie.zero = some (.agg [.int .i64 0, .int .i64 0, .bool false, .string ⟨#[]⟩, .bool false, .string ⟨#[]⟩].toArray) ∧ ie.size = 6 ∧ ie.bytes ≤ 1000000 := info_chg
  obtain ⟨ie, hie, hiz, his, hib⟩ := hinf
  have HIE := Lib.hid hie
  have HIZ := Lib.hid hiz
  have HIS := Lib.hid his
  have HIB := Lib.hid hib
  clear hie hiz his hib
  go_loopw [8, 10] (fun v i wr => ∃ (j k : Nat) (s : Nat → Bool × ByteArray) (lr : List (Nat × TypeId × List Value)), i = .int .i64 j ∧ k + j = 2 + r8 ∧ Hid (∀ i, cellOkB (s i).1 (s i).2 = true) ∧ Hid (s 0 = (pb, pd)) ∧ Hid (St (some c) q w2 wr (lr ++ [(b9, 24, [.bool (s k).1, .string (s k).2]), (bp, 27, p0.lst)])) ∧ Hid (RowEnt 29 6 lr v k (flat (rowC slot s k)))) (fun _ i _ => (intOf i).toNat)
  case atStart => exact ⟨2 + r8, 0, fun _ => (pb, pd), [], by go_num, by omega, fun _ => HPK.out, rfl, HS, RowEnt.nil⟩
  case round =>
    obtain ⟨j, k, s, lr, rfl, hjk, HK, H0, HS2, HR⟩ := hrel
    clear HS
    have HS := HS2
    clear HS2
    cases j with
    | succ j =>
      go_wp2_with fail
      refine hg_begin [(b9, 24, [.bool (s k).1, .string (s k).2])] HS (by kernel_rfl) ?_
      clear HS; intro w HS
      refine hg_reg 0 (some 47) rfl rfl (by kernel_rfl) (by kernel_rfl) (by kernel_rfl) (fun _ _ _ _ h => h) HS (by simp) _ rfl (fun _ => by rfl) ?_
      try simp only [Act.put, List.setIfInBounds_toArray, List.set_cons_zero, List.set_cons_succ]
      refine hg_loads 1 (some 48) rfl rfl (by kernel_rfl) (by kernel_rfl) (by kernel_rfl) (fun _ _ _ _ h => h) HS (by simp) rfl 24 _ rfl 0 _ _ _ rfl 0 rfl 2 sh24 [.bool (s k).1, .string (s k).2] rfl ⟨rfl, rfl, trivial⟩ ?_
      try simp only [Act.put, List.setIfInBounds_toArray, List.set_cons_zero, List.set_cons_succ]
      refine hg_reg 2 (some 49) rfl rfl (by kernel_rfl) (by kernel_rfl) (by kernel_rfl) (fun _ _ _ _ h => h) HS (by simp) _ rfl (fun _ => by rfl) ?_
      try simp only [Act.put, List.setIfInBounds_toArray, List.set_cons_zero, List.set_cons_succ]
      refine hk_x2 3 5 (by kernel_rfl) ?_ ?_
      · skip
        refine hg_call 3 (some 50) rfl rfl rfl HS (by simp) 24 _ _ rfl Try.func24 (by kernel_rfl) rfl _ (fun v => ∃ (b : Bool) (t : ByteArray), v = .agg #[.bool b, .string t] ∧ cellOkB b t = true) ((cell_any q c _ HS.out.code).mono (fun e w1 h => by obtain ⟨b, t, rfl, h1, h2, ho, hcd⟩ := h; exact ⟨_, rfl, ⟨b, t, rfl, okB_of h1 h2⟩, HS.out.draws ho hcd⟩)) rfl ?_
        clear HS; rintro _ w ⟨nb, ns, rfl, hnok⟩ HS
        try simp only [Act.put, List.setIfInBounds_toArray, List.set_cons_zero, List.set_cons_succ]
        refine hg_reg 4 (some 51) rfl rfl (by kernel_rfl) (by kernel_rfl) (by kernel_rfl) (fun _ _ _ _ h => h) HS (by simp) (.agg #[.int .i64 2, .int .i64 slot, .bool (s k).1, .string (s k).2, .bool nb, .string ns]) rfl (fun _ => by go_simp) ?_
        try simp only [Act.put, List.setIfInBounds_toArray, List.set_cons_zero, List.set_cons_succ]
        refine hk_x1 5 (by kernel_rfl) ?_
        refine hg_alloc 5 (some 11) rfl rfl rfl HS (by simp) 29 rfl _ zr29 ?_
        clear HS; intro w b11 HS
        try simp only [Act.put, List.setIfInBounds_toArray, List.set_cons_zero, List.set_cons_succ]
        refine hk_x1 6 (by kernel_rfl) ?_
        refine hg_stores 6 rfl rfl HS 29 _ _ rfl rfl 0 _ _ _ rfl 0 rfl [_, _, _, _, _, _] rfl 6 sh29 rfl rfl rfl (by simp) ?_
        clear HS; intro w HS
        try simp only [Act.put, List.setIfInBounds_toArray, List.set_cons_zero, List.set_cons_succ]
        refine hk_done (by kernel_rfl) ?_
        replace HS : Hid (St (some c) q w2 w ((b11, 29, Chg.lst (chgOf slot (s k) (nb, ns))) :: (lr ++ [(b9, 24, [.bool (s k).1, .string (s k).2]), (bp, 27, p0.lst)]))) := HS
        have HNK := Lib.hid hnok
        clear hnok
        go_wp2_with fail
        refine hg_begin [(b11, 29, Chg.lst (chgOf slot (s k) (nb, ns)))] HS (by kernel_rfl) ?_
        clear HS; intro w HS
        refine hg_reg 0 (some 52) rfl rfl (by kernel_rfl) (by kernel_rfl) (by kernel_rfl) (fun _ _ _ _ h => h) HS (by simp) _ rfl (fun _ => by rfl) ?_
        try simp only [Act.put, List.setIfInBounds_toArray, List.set_cons_zero, List.set_cons_succ]
        refine hg_loads 1 (some 53) rfl rfl (by kernel_rfl) (by kernel_rfl) (by kernel_rfl) (fun _ _ _ _ h => h) HS (by simp) rfl 29 _ rfl 0 _ _ _ rfl 0 rfl 6 sh29 [_, _, _, _, _, _] rfl ⟨rfl, rfl, rfl, rfl, rfl, rfl, trivial⟩ ?_
        try simp only [Act.put, List.setIfInBounds_toArray, List.set_cons_zero, List.set_cons_succ]
        refine hg_reg 4 (some 56) rfl rfl (by kernel_rfl) (by kernel_rfl) (by kernel_rfl) (fun _ _ _ _ h => h) HS (by simp) (.pointer (some ⟨b11, 4, none⟩)) rfl (fun _ => by go_simp) ?_
        try simp only [Act.put, List.setIfInBounds_toArray, List.set_cons_zero, List.set_cons_succ]
        refine hg_loads 5 (some 57) rfl rfl (by kernel_rfl) (by kernel_rfl) (by kernel_rfl) (fun _ _ _ _ h => h) HS (by simp) rfl 24 _ rfl 0 _ _ _ rfl 4 rfl 2 sh24 [_, _] rfl ⟨rfl, rfl, trivial⟩ ?_
        try simp only [Act.put, List.setIfInBounds_toArray, List.set_cons_zero, List.set_cons_succ]
        refine hk_x1 2 (by kernel_rfl) ?_
        refine hg_build 2 (some 54) rfl rfl rfl HS (by simp) 50 29 1 [(0, .tmp 53)] rfl [(0, .agg #[.int .i64 2, .int .i64 slot, .bool (s k).1, .string (s k).2, .bool nb, .string ns])] rfl (Chg.lst (chgOf slot (s k) (nb, ns))) (fun w => build_chg (chgOf slot (s k) (nb, ns)) w) ?_
        clear HS; intro w b54 HS
        try simp only [Act.put, List.setIfInBounds_toArray, List.set_cons_zero, List.set_cons_succ]
        refine hk_x1 3 (by kernel_rfl) ?_
        refine hg_append 3 (some 55) rfl rfl rfl (front := [(b54, 29, Chg.lst (chgOf slot (s k) (nb, ns))), (b11, 29, Chg.lst (chgOf slot (s k) (nb, ns)))]) (lr := lr) (ll := [(b9, 24, [.bool (s k).1, .string (s k).2]), (bp, 27, p0.lst)]) HS (fun _ => by simp) _ _ 50 rfl 29 ie _ 6 _ Try.underlying50 HIE.out HIZ.out HIS.out rfl rfl (by decide) _ k (flat (rowC slot s k)) rfl HR.out 0 b54 1 29 1 (Chg.lst (chgOf slot (s k) (nb, ns))) rfl rfl rfl rfl (by unfold maxLen; omega) (Nat.le_trans (Nat.mul_le_mul (show k + 1 ≤ 100 by omega) HIB.out) (by decide)) ?_
        clear HS HR; intro vv w lq HS HR
        try simp only [Act.put, List.setIfInBounds_toArray, List.set_cons_zero, List.set_cons_succ]
        refine hg_reg 6 (some 8) rfl rfl (by kernel_rfl) (by kernel_rfl) (by kernel_rfl) (fun _ _ _ _ h => h) HS (by simp) _ rfl (fun _ => by rfl) ?_
        try simp only [Act.put, List.setIfInBounds_toArray, List.set_cons_zero, List.set_cons_succ]
        obtain ⟨g, cp, junk, rfl, rfl, hpos⟩ := RowEnt.pos HR.out (by omega)
        refine hk_x1 7 (by kernel_rfl) ?_
        refine hg_stores 7 rfl rfl HS 24 _ _ rfl rfl 3 _ _ _ rfl 0 rfl [_, _] rfl 2 sh24 rfl rfl rfl (by simp) ?_
        clear HS; intro w HS
        try simp only [Act.put, List.setIfInBounds_toArray, List.set_cons_zero, List.set_cons_succ]
        refine hk_done (by kernel_rfl) ?_
        have hup : upd s k (nb, ns) (k + 1) = (nb, ns) := if_neg (by omega)
        have hrow := flat_upd slot s k (nb, ns)
        replace HS : Hid (St (some c) q w2 w ([(g, 29, flat (rowC slot s k) ++ Chg.lst (chgOf slot (s k) (nb, ns)) ++ junk)] ++ [(b9, 24, [.bool (upd s k (nb, ns) (k + 1)).1, .string (upd s k (nb, ns) (k + 1)).2]), (bp, 27, p0.lst)])) := by rw [hup]; exact HS.out.drop 2
        have HK2 : Hid (∀ i, cellOkB (upd s k (nb, ns) i).1 (upd s k (nb, ns) i).2 = true) := fun i => by unfold upd; split; exact HK.out i; exact HNK.out
        have H02 : Hid (upd s k (nb, ns) 0 = (pb, pd)) := by show upd s k (nb, ns) 0 = (pb, pd); simp only [upd, Nat.zero_le, if_true]; exact H0.out
        replace HR : Hid (RowEnt 29 6 [(g, 29, flat (rowC slot s k) ++ Chg.lst (chgOf slot (s k) (nb, ns)) ++ junk)] (.slice (some ⟨g, 0, none⟩) (k + 1) cp) (k + 1) (flat (rowC slot (upd s k (nb, ns)) (k + 1)))) := by rw [hrow]; exact HR
        clear hup hrow
        go_wp2_with fail
        go_roundw
        case rel => exact ⟨j, k + 1, upd s k (nb, ns), _, by go_num, by omega, HK2, H02, HS, HR⟩
        case measure => simp [intOf]
      · skip
        refine hg_alloc 5 (some 11) rfl rfl rfl HS (by simp) 29 rfl _ zr29 ?_
        clear HS; intro w b11 HS
        try simp only [Act.put, List.setIfInBounds_toArray, List.set_cons_zero, List.set_cons_succ]
        refine hk_x1 3 (by kernel_rfl) ?_
        refine hg_call 3 (some 50) rfl rfl rfl HS (by simp) 24 _ _ rfl Try.func24 (by kernel_rfl) rfl _ (fun v => ∃ (b : Bool) (t : ByteArray), v = .agg #[.bool b, .string t] ∧ cellOkB b t = true) ((cell_any q c _ HS.out.code).mono (fun e w1 h => by obtain ⟨b, t, rfl, h1, h2, ho, hcd⟩ := h; exact ⟨_, rfl, ⟨b, t, rfl, okB_of h1 h2⟩, HS.out.draws ho hcd⟩)) rfl ?_
        clear HS; rintro _ w ⟨nb, ns, rfl, hnok⟩ HS
        try simp only [Act.put, List.setIfInBounds_toArray, List.set_cons_zero, List.set_cons_succ]
        refine hg_reg 4 (some 51) rfl rfl (by kernel_rfl) (by kernel_rfl) (by kernel_rfl) (fun _ _ _ _ h => h) HS (by simp) (.agg #[.int .i64 2, .int .i64 slot, .bool (s k).1, .string (s k).2, .bool nb, .string ns]) rfl (fun _ => by go_simp) ?_
        try simp only [Act.put, List.setIfInBounds_toArray, List.set_cons_zero, List.set_cons_succ]
        refine hk_x1 6 (by kernel_rfl) ?_
        refine hg_stores 6 rfl rfl HS 29 _ _ rfl rfl 0 _ _ _ rfl 0 rfl [_, _, _, _, _, _] rfl 6 sh29 rfl rfl rfl (by simp) ?_
        clear HS; intro w HS
        try simp only [Act.put, List.setIfInBounds_toArray, List.set_cons_zero, List.set_cons_succ]
        refine hk_done (by kernel_rfl) ?_
        replace HS : Hid (St (some c) q w2 w ((b11, 29, Chg.lst (chgOf slot (s k) (nb, ns))) :: (lr ++ [(b9, 24, [.bool (s k).1, .string (s k).2]), (bp, 27, p0.lst)]))) := HS
        have HNK := Lib.hid hnok
        clear hnok
        go_wp2_with fail
        refine hg_begin [(b11, 29, Chg.lst (chgOf slot (s k) (nb, ns)))] HS (by kernel_rfl) ?_
        clear HS; intro w HS
        refine hg_reg 0 (some 52) rfl rfl (by kernel_rfl) (by kernel_rfl) (by kernel_rfl) (fun _ _ _ _ h => h) HS (by simp) _ rfl (fun _ => by rfl) ?_
        try simp only [Act.put, List.setIfInBounds_toArray, List.set_cons_zero, List.set_cons_succ]
        refine hg_loads 1 (some 53) rfl rfl (by kernel_rfl) (by kernel_rfl) (by kernel_rfl) (fun _ _ _ _ h => h) HS (by simp) rfl 29 _ rfl 0 _ _ _ rfl 0 rfl 6 sh29 [_, _, _, _, _, _] rfl ⟨rfl, rfl, rfl, rfl, rfl, rfl, trivial⟩ ?_
        try simp only [Act.put, List.setIfInBounds_toArray, List.set_cons_zero, List.set_cons_succ]
        refine hg_reg 4 (some 56) rfl rfl (by kernel_rfl) (by kernel_rfl) (by kernel_rfl) (fun _ _ _ _ h => h) HS (by simp) (.pointer (some ⟨b11, 4, none⟩)) rfl (fun _ => by go_simp) ?_
        try simp only [Act.put, List.setIfInBounds_toArray, List.set_cons_zero, List.set_cons_succ]
        refine hg_loads 5 (some 57) rfl rfl (by kernel_rfl) (by kernel_rfl) (by kernel_rfl) (fun _ _ _ _ h => h) HS (by simp) rfl 24 _ rfl 0 _ _ _ rfl 4 rfl 2 sh24 [_, _] rfl ⟨rfl, rfl, trivial⟩ ?_
        try simp only [Act.put, List.setIfInBounds_toArray, List.set_cons_zero, List.set_cons_succ]
        refine hk_x1 2 (by kernel_rfl) ?_
        refine hg_build 2 (some 54) rfl rfl rfl HS (by simp) 50 29 1 [(0, .tmp 53)] rfl [(0, .agg #[.int .i64 2, .int .i64 slot, .bool (s k).1, .string (s k).2, .bool nb, .string ns])] rfl (Chg.lst (chgOf slot (s k) (nb, ns))) (fun w => build_chg (chgOf slot (s k) (nb, ns)) w) ?_
        clear HS; intro w b54 HS
        try simp only [Act.put, List.setIfInBounds_toArray, List.set_cons_zero, List.set_cons_succ]
        refine hk_x1 3 (by kernel_rfl) ?_
        refine hg_append 3 (some 55) rfl rfl rfl (front := [(b54, 29, Chg.lst (chgOf slot (s k) (nb, ns))), (b11, 29, Chg.lst (chgOf slot (s k) (nb, ns)))]) (lr := lr) (ll := [(b9, 24, [.bool (s k).1, .string (s k).2]), (bp, 27, p0.lst)]) HS (fun _ => by simp) _ _ 50 rfl 29 ie _ 6 _ Try.underlying50 HIE.out HIZ.out HIS.out rfl rfl (by decide) _ k (flat (rowC slot s k)) rfl HR.out 0 b54 1 29 1 (Chg.lst (chgOf slot (s k) (nb, ns))) rfl rfl rfl rfl (by unfold maxLen; omega) (Nat.le_trans (Nat.mul_le_mul (show k + 1 ≤ 100 by omega) HIB.out) (by decide)) ?_
        clear HS HR; intro vv w lq HS HR
        try simp only [Act.put, List.setIfInBounds_toArray, List.set_cons_zero, List.set_cons_succ]
        refine hg_reg 6 (some 8) rfl rfl (by kernel_rfl) (by kernel_rfl) (by kernel_rfl) (fun _ _ _ _ h => h) HS (by simp) _ rfl (fun _ => by rfl) ?_
        try simp only [Act.put, List.setIfInBounds_toArray, List.set_cons_zero, List.set_cons_succ]
        obtain ⟨g, cp, junk, rfl, rfl, hpos⟩ := RowEnt.pos HR.out (by omega)
        refine hk_x1 7 (by kernel_rfl) ?_
        refine hg_stores 7 rfl rfl HS 24 _ _ rfl rfl 3 _ _ _ rfl 0 rfl [_, _] rfl 2 sh24 rfl rfl rfl (by simp) ?_
        clear HS; intro w HS
        try simp only [Act.put, List.setIfInBounds_toArray, List.set_cons_zero, List.set_cons_succ]
        refine hk_done (by kernel_rfl) ?_
        have hup : upd s k (nb, ns) (k + 1) = (nb, ns) := if_neg (by omega)
        have hrow := flat_upd slot s k (nb, ns)
        replace HS : Hid (St (some c) q w2 w ([(g, 29, flat (rowC slot s k) ++ Chg.lst (chgOf slot (s k) (nb, ns)) ++ junk)] ++ [(b9, 24, [.bool (upd s k (nb, ns) (k + 1)).1, .string (upd s k (nb, ns) (k + 1)).2]), (bp, 27, p0.lst)])) := by rw [hup]; exact HS.out.drop 2
        have HK2 : Hid (∀ i, cellOkB (upd s k (nb, ns) i).1 (upd s k (nb, ns) i).2 = true) := fun i => by unfold upd; split; exact HK.out i; exact HNK.out
        have H02 : Hid (upd s k (nb, ns) 0 = (pb, pd)) := by show upd s k (nb, ns) 0 = (pb, pd); simp only [upd, Nat.zero_le, if_true]; exact H0.out
        replace HR : Hid (RowEnt 29 6 [(g, 29, flat (rowC slot s k) ++ Chg.lst (chgOf slot (s k) (nb, ns)) ++ junk)] (.slice (some ⟨g, 0, none⟩) (k + 1) cp) (k + 1) (flat (rowC slot (upd s k (nb, ns)) (k + 1)))) := by rw [hrow]; exact HR
        clear hup hrow
        go_wp2_with fail
        go_roundw
        case rel => exact ⟨j, k + 1, upd s k (nb, ns), _, by go_num, by omega, HK2, H02, HS, HR⟩
        case measure => simp [intOf]
    | zero =>
      obtain ⟨g, cp, junk, rfl, rfl, hcp1, hcp2⟩ := RowEnt.pos HR.out (by omega)
      have HCP := Lib.hid hcp2
      clear hcp2 HR HIE HIZ HIS HIB
      obtain ⟨PG, hPG⟩ : ∃ PG : Nat → Pg, ∀ i, PG i = pgOf lsn l slot (s i) := ⟨_, fun _ => rfl⟩
      have e0 : p0 = PG 0 := by
        rw [hPG 0, HP0.out, H0.out]
        unfold pgOf
        obtain ⟨h1, h2⟩ := List.getElem?_eq_some_iff.1 HPC.out
        rw [← h2, List.set_getElem_self h1]
      have HLP : Hid (∀ i, (PG i).cells.length = 16) := fun i => by rw [hPG i]; show (l.set _ _).length = 16; rw [List.length_set]; exact HL.out
      have CA : Hid (∀ i j w, Calls Try.prog 22 #[.agg (PG i).arr, .agg (chgOf slot (s i) (s j)).arr] w fun e w' => e = .returned (.tuple #[.agg (PG j).arr, .int .i64 0]) ∧ Ext w w') := fun i j w => by
        have h := ch_apply (PG i) (chgOf slot (s i) (s j)) w (HLP.out i)
        rw [hPG i, apply_row HL.out hs16 HK.out i j, ← hPG i, ← hPG j] at h
        exact h
      clear HP0 HPC HC HPK HL0 HOK
      subst e0
      have HPG := Lib.hid hPG
      clear hPG
      replace HS : Hid (St (some c) q w2 wr [(g, 29, flat (rowC slot s k) ++ junk), (b9, 24, [.bool (s k).1, .string (s k).2]), (bp, 27, (PG 0).lst)]) := HS
      go_wp2_with (first | (refine sx_load_all HS rfl 27 _ rfl 2 _ _ _ rfl rfl 34 sh27 (lst_len (HLP.out 0)) ?_) | (refine sx_alloc HS rfl 27 rfl _ zero_page ?_; clear HS; intro w b12 HS) | (refine sx_store_all HS rfl 27 _ _ rfl rfl 0 _ _ _ rfl rfl (Pg.lst (PG 0)) rfl 34 sh27 (lst_len (HLP.out 0)) (by rw [lst_len (HLP.out 0)]; rfl) (pgLst_one _ _ _) ?_; clear HS; intro w HS))
      replace HS : Hid (St (some c) q w2 w [(b12, 27, (PG 0).lst), (g, 29, flat (rowC slot s k) ++ junk), (b9, 24, [.bool (s k).1, .string (s k).2]), (bp, 27, (PG 0).lst)]) := HS
      obtain ⟨wo, hwo⟩ : ∃ wo : World, wo = wr := ⟨_, rfl⟩
      subst hwo
      go_loopw [61] (fun i wr => ∃ m : Nat, m ≤ k ∧ i = .int .i64 m ∧ Hid (St (some c) q w2 wr [(b12, 27, (PG m).lst), (g, 29, flat (rowC slot s k) ++ junk), (b9, 24, [.bool (s k).1, .string (s k).2]), (bp, 27, (PG 0).lst)])) (fun i _ => k - (intOf i).toNat)
      case atStart => exact ⟨0, by omega, rfl, HS⟩
      case round =>
        obtain ⟨m, hm, rfl, HS2⟩ := hrel
        clear HS
        have HS := HS2
        clear HS2
        by_cases hlt : m < k
        · go_wp2_with (first | (refine sx_load_row (rowAt_of (HS.out.box (i := 1) rfl)) rfl 29 _ rfl sh29 m _ rfl (by omega) _ (rowC_get slot s k m hlt) ?_) | (refine sx_alloc HS rfl 29 rfl _ zr29 ?_; clear HS; intro w b14 HS) | (refine sx_stores HS rfl 29 _ _ rfl rfl 0 _ _ _ rfl _ rfl 6 sh29 [_, _, _, _, _, _] rfl rfl rfl rfl ?_; clear HS; intro w HS) | (refine sx_load_all HS rfl 27 _ rfl 1 _ _ _ rfl rfl 34 sh27 (lst_len (HLP.out m)) ?_) | (refine sx_loads HS rfl 29 _ rfl 0 _ _ _ rfl _ rfl 6 sh29 [_, _, _, _, _, _] rfl ⟨rfl, rfl, rfl, rfl, rfl, rfl, trivial⟩ ?_))
          refine (CA.out m (m + 1) _).mono ?_
          rintro e w ⟨rfl, hx⟩
          replace HS := Lib.hid (HS.out.ext hx)
          clear hx
          go_wp2_with (first | (refine sx_alloc HS rfl 27 rfl _ zero_page ?_; clear HS; intro w b15 HS) | (refine sx_store_all HS rfl 27 _ _ rfl rfl 0 _ _ _ rfl rfl (Pg.lst (PG (m + 1))) rfl 34 sh27 (lst_len (HLP.out (m + 1))) (by rw [lst_len (HLP.out (m + 1))]; rfl) (pgLst_one _ _ _) ?_; clear HS; intro w HS) | (refine sx_load_all HS rfl 27 _ rfl 0 _ _ _ rfl rfl 34 sh27 (lst_len (HLP.out (m + 1))) ?_) | (refine sx_store_all HS rfl 27 _ _ rfl rfl 2 _ _ _ rfl rfl (Pg.lst (PG (m + 1))) rfl 34 sh27 (lst_len (HLP.out (m + 1))) (by rw [lst_len (HLP.out (m + 1))]; exact lst_len (HLP.out m)) (pgLst_one _ _ _) ?_; clear HS; intro w HS))
          replace HS : Hid (St (some c) q w2 w [(b12, 27, (PG (m + 1)).lst), (g, 29, flat (rowC slot s k) ++ junk), (b9, 24, [.bool (s k).1, .string (s k).2]), (bp, 27, (PG 0).lst)]) := Lib.hid (HS.out.drop 2)
          go_roundw
          case rel => exact ⟨m + 1, by omega, by go_num, HS⟩
          case measure => simp [intOf]; omega
        · have hmk : m = k := by omega
          subst hmk
          have hm9 : m ≤ 9 := by omega
          have hm2 : 2 ≤ m := by omega
          obtain ⟨kk, hkk, hk1, hk2⟩ : ∃ kk : Nat, wrap64 (1 + (cut : Int) % ((m : Int) - 1)) = (kk : Int) ∧ 1 ≤ kk ∧ kk + 1 ≤ m := by
            have hmod := Nat.mod_lt cut (show 0 < m - 1 by omega)
            have e1 : ((m : Int) - 1) = ((m - 1 : Nat) : Int) := by omega
            refine ⟨1 + cut % (m - 1), ?_, by omega, by omega⟩
            rw [e1]
            have e2 : (1 + (cut : Int) % ((m - 1 : Nat) : Int)) = ((1 + cut % (m - 1) : Nat) : Int) := by simp
            rw [e2]
            unfold wrap64
            omega
          have HJ1 : Hid (∀ w, RowAt w g 0 (rowC slot s m) → Calls Try.prog 25 #[.slice (some ⟨g, 0, none⟩) kk cp] w fun e w' => e = .returned (.tuple #[.agg (chgOf slot (s 0) (s kk)).arr, .bool true]) ∧ Ext w w') := fun w hr => joined_part hs16 HK.out 0 ((rowC slot s m).take kk) (fun i hi => by rw [List.getElem?_take_of_lt hi, rowC_get slot s m i (by omega)]; simp) (by rw [List.length_take, rowC_length]; omega) (hr.take kk) hk1 (by omega) HCP.out (by omega)
          have HJ2 : Hid (∀ w, RowAt w g 0 (rowC slot s m) → Calls Try.prog 25 #[.slice (some ⟨g, kk * 6, none⟩) (m - kk) (cp - kk)] w fun e w' => e = .returned (.tuple #[.agg (chgOf slot (s kk) (s m)).arr, .bool true]) ∧ Ext w w') := fun w hr => joined_part hs16 HK.out kk ((rowC slot s m).drop kk) (fun i hi => by rw [List.getElem?_drop, rowC_get slot s m (kk + i) (by omega)]) (by rw [List.length_drop, rowC_length]) (by have h := hr.drop kk; rw [Nat.zero_add] at h; exact h) (by omega) (by omega) (by have := HCP.out; omega) (by omega)
          have HJ3 : Hid (∀ w, RowAt w g 0 (rowC slot s m) → Calls Try.prog 25 #[.slice (some ⟨g, 0, none⟩) m cp] w fun e w' => e = .returned (.tuple #[.agg (chgOf slot (s 0) (s m)).arr, .bool true]) ∧ Ext w w') := fun w hr => joined_part hs16 HK.out 0 (rowC slot s m) (fun i hi => by rw [rowC_get slot s m i hi]; simp) (rowC_length slot s m) hr (by omega) hcp1 HCP.out (by omega)
          have CJ : Hid (∀ w, Calls Try.prog 13 #[.agg (chgOf slot (s 0) (s kk)).arr, .agg (chgOf slot (s kk) (s m)).arr] w fun e w' => e = .returned (.tuple #[.agg (chgOf slot (s 0) (s m)).arr, .int .i64 0]) ∧ Ext w w') := fun w => by have h := ch_join (chgOf slot (s 0) (s kk)) (chgOf slot (s kk) (s m)) w; rw [join_row hs16 HK.out] at h; exact h
          have CV : Hid (∀ w, Calls Try.prog 16 #[.agg (chgOf slot (s 0) (s m)).arr] w fun e w' => e = .returned (.bool true) ∧ Ext w w') := fun w => by have h := rf_valid (chgOf slot (s 0) (s m)) w; rw [chgOf_ok hs16 HK.out] at h; exact h
          have hnc : ¬ cp = kk := by omega
          go_upto_region 23 with fail
          rw [hkk]
          clear hcut
          clear hkk
          go_wp2_with fail
          refine (HJ1.out _ (rowAt_of (HS.out.box (i := 1) rfl))).mono ?_
          rintro e w ⟨rfl, hx⟩
          replace HS := Lib.hid (HS.out.ext hx)
          clear hx
          go_wp2_with (first | (refine sx_alloc HS rfl 29 rfl _ zr29 ?_; clear HS; intro w b18 HS) | (refine sx_stores HS rfl 29 _ _ rfl rfl 0 _ _ _ rfl _ rfl 6 sh29 [_, _, _, _, _, _] rfl rfl rfl rfl ?_; clear HS; intro w HS))
          replace HS : Hid (St (some c) q w2 w [(b18, 29, (chgOf slot (s 0) (s kk)).lst), (b12, 27, (PG m).lst), (g, 29, flat (rowC slot s m) ++ junk), (b9, 24, [.bool (s m).1, .string (s m).2]), (bp, 27, (PG 0).lst)]) := HS
          refine (HJ2.out _ (rowAt_of (HS.out.box (i := 2) rfl))).mono ?_
          rintro e w ⟨rfl, hx⟩
          replace HS := Lib.hid (HS.out.ext hx)
          clear hx
          go_upto_region 25 with (first | (refine sx_alloc HS rfl 29 rfl _ zr29 ?_; clear HS; intro w b20 HS) | (refine sx_stores HS rfl 29 _ _ rfl rfl 0 _ _ _ rfl _ rfl 6 sh29 [_, _, _, _, _, _] rfl rfl rfl rfl ?_; clear HS; intro w HS))
          replace HS : Hid (St (some c) q w2 w [(b20, 29, (chgOf slot (s kk) (s m)).lst), (b18, 29, (chgOf slot (s 0) (s kk)).lst), (b12, 27, (PG m).lst), (g, 29, flat (rowC slot s m) ++ junk), (b9, 24, [.bool (s m).1, .string (s m).2]), (bp, 27, (PG 0).lst)]) := HS
          go_wp2_with (first | (refine sx_loads HS rfl 29 _ rfl 1 _ _ _ rfl _ rfl 6 sh29 [_, _, _, _, _, _] rfl ⟨rfl, rfl, rfl, rfl, rfl, rfl, trivial⟩ ?_) | (refine sx_loads HS rfl 29 _ rfl 0 _ _ _ rfl _ rfl 6 sh29 [_, _, _, _, _, _] rfl ⟨rfl, rfl, rfl, rfl, rfl, rfl, trivial⟩ ?_))
          refine (CJ.out _).mono ?_
          rintro e w ⟨rfl, hx⟩
          replace HS := Lib.hid (HS.out.ext hx)
          clear hx
          go_upto_region 26 with (first | (refine sx_alloc HS rfl 29 rfl _ zr29 ?_; clear HS; intro w b22 HS) | (refine sx_stores HS rfl 29 _ _ rfl rfl 0 _ _ _ rfl _ rfl 6 sh29 [_, _, _, _, _, _] rfl rfl rfl rfl ?_; clear HS; intro w HS))
          replace HS : Hid (St (some c) q w2 w [(b22, 29, (chgOf slot (s 0) (s m)).lst), (b20, 29, (chgOf slot (s kk) (s m)).lst), (b18, 29, (chgOf slot (s 0) (s kk)).lst), (b12, 27, (PG m).lst), (g, 29, flat (rowC slot s m) ++ junk), (b9, 24, [.bool (s m).1, .string (s m).2]), (bp, 27, (PG 0).lst)]) := HS
          go_wp2_with fail
          refine (HJ3.out _ (rowAt_of (HS.out.box (i := 4) rfl))).mono ?_
          rintro e w ⟨rfl, hx⟩
          replace HS := Lib.hid (HS.out.ext hx)
          clear hx
          go_upto_region 27 with (first | (refine sx_alloc HS rfl 29 rfl _ zr29 ?_; clear HS; intro w b24 HS) | (refine sx_stores HS rfl 29 _ _ rfl rfl 0 _ _ _ rfl _ rfl 6 sh29 [_, _, _, _, _, _] rfl rfl rfl rfl ?_; clear HS; intro w HS))
          replace HS : Hid (St (some c) q w2 w [(b24, 29, (chgOf slot (s 0) (s m)).lst), (b22, 29, (chgOf slot (s 0) (s m)).lst), (b20, 29, (chgOf slot (s kk) (s m)).lst), (b18, 29, (chgOf slot (s 0) (s kk)).lst), (b12, 27, (PG m).lst), (g, 29, flat (rowC slot s m) ++ junk), (b9, 24, [.bool (s m).1, .string (s m).2]), (bp, 27, (PG 0).lst)]) := HS
          go_wp2_with (first | (refine sx_load_all HS rfl 27 _ rfl 7 _ _ _ rfl rfl 34 sh27 (lst_len (HLP.out 0)) ?_) | (refine sx_loads HS rfl 29 _ rfl 1 _ _ _ rfl _ rfl 6 sh29 [_, _, _, _, _, _] rfl ⟨rfl, rfl, rfl, rfl, rfl, rfl, trivial⟩ ?_))
          refine (CA.out 0 m _).mono ?_
          rintro e w ⟨rfl, hx⟩
          replace HS := Lib.hid (HS.out.ext hx)
          clear hx
          go_upto_region 28 with (first | (refine sx_alloc HS rfl 27 rfl _ zero_page ?_; clear HS; intro w b26 HS) | (refine sx_store_all HS rfl 27 _ _ rfl rfl 0 _ _ _ rfl rfl (Pg.lst (PG m)) rfl 34 sh27 (lst_len (HLP.out m)) (by rw [lst_len (HLP.out m)]; rfl) (pgLst_one _ _ _) ?_; clear HS; intro w HS))
          replace HS : Hid (St (some c) q w2 w [(b26, 27, (PG m).lst), (b24, 29, (chgOf slot (s 0) (s m)).lst), (b22, 29, (chgOf slot (s 0) (s m)).lst), (b20, 29, (chgOf slot (s kk) (s m)).lst), (b18, 29, (chgOf slot (s 0) (s kk)).lst), (b12, 27, (PG m).lst), (g, 29, flat (rowC slot s m) ++ junk), (b9, 24, [.bool (s m).1, .string (s m).2]), (bp, 27, (PG 0).lst)]) := HS
          go_wp2_with (first | (refine sx_loads HS rfl 29 _ rfl 2 _ _ _ rfl _ rfl 6 sh29 [_, _, _, _, _, _] rfl ⟨rfl, rfl, rfl, rfl, rfl, rfl, trivial⟩ ?_) | (refine sx_loads HS rfl 29 _ rfl 1 _ _ _ rfl _ rfl 6 sh29 [_, _, _, _, _, _] rfl ⟨rfl, rfl, rfl, rfl, rfl, rfl, trivial⟩ ?_) | (refine sx_load_all HS rfl 27 _ rfl 0 _ _ _ rfl rfl 34 sh27 (lst_len (HLP.out m)) ?_) | (refine sx_load_all HS rfl 27 _ rfl 5 _ _ _ rfl rfl 34 sh27 (lst_len (HLP.out m)) ?_) | (refine sx_run rfl (.bool true) (run_binop rfl rfl rfl (guard_page ..) (eql_page (PG m) (HLP.out m) _)) ?_) | (refine sx_run rfl (.bool true) (run_binop rfl rfl rfl (guard_chg ..) (eql_chg (chgOf slot (s 0) (s m)) _)) ?_))
          refine (CV.out _).mono ?_
          rintro e w ⟨rfl, hx⟩
          replace HS := Lib.hid (HS.out.ext hx)
          clear hx
          go_wp2_with fail
          go_ret
          exact ⟨rfl, HX2.out.only HS.out.isOnly hc0⟩
end Go.Proofs.Ytlbhoepfcedkdaa
