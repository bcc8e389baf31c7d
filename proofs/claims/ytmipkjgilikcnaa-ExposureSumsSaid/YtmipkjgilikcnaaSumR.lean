/-
  The contracts of 'reasons' and of exposure.Sum.
-/
import Derived.Test.YtmipkjgilikcnaaSumF
import Derived.BigRegion
namespace Go.Proofs.Ytmipkjgilikcnaa
open Go.RowKit
theorem info_rsn : ∃ ie, Try.prog.info? 43 = some ie ∧ ie.zero = some (.agg [.int .i64 0, .int .i64 0].toArray) ∧ ie.size = 2 ∧ ie.bytes ≤ 1000000 := info_of _ _ _ zr43 (by kernel_rfl)
theorem build_rsn (r : Rsn) (w : World) : (Instr.buildSlice 29 1 ([(0, .agg #[.int .i64 r.1, .int .i64 r.2])] : List (Nat × Value)).toArray).run Try.prog w = .ok (.slice (some ⟨w.heap.size, 0, none⟩) 1 1) (w.alloc (.cells (rL r).toArray 43)) := by
  have := run_slice_rows (P := Try.prog) 29 43 1 2 (by omega) (by omega) (by omega) Try.underlying29 (by kernel_rfl) [rL r] rfl (by intro x hx; simp at hx; subst hx; rfl) w
  simpa [partsOf, rL] using this
def ReasonsPost (q : CodeRow) (c : Nat) (w : World) (e : Ending) (w' : World) : Prop :=
  ∃ (v : Value) (lr : List (Nat × TypeId × List Value)) (rs : List Rsn), e = .returned v ∧ St (some c) q w w' lr ∧ RowEnt 43 2 lr v (rs.map rL).length (rs.map rL).flatten ∧ rs.length ≤ 4
set_option maxHeartbeats 2000000 in
set_option maxRecDepth 100000 in
theorem reasons_any (q : CodeRow) (c : Nat) (w0 : World) (hcd : CodesAt q w0 c) : Calls Try.prog 7 #[.pointer (some ⟨c, 0, none⟩)] w0 (ReasonsPost q c w0) := by
  have HS : Hid (St (some c) q w0 w0 []) := St.startC hcd
  clear hcd
  obtain ⟨ie, hie, hiz, his, hib⟩ := info_rsn
  have HIE := Lib.hid hie
  have HIZ := Lib.hid hiz
  have HIS := Lib.hid his
  have HIB := Lib.hid hib
  clear hie hiz his hib
  go_enter Try.func7, Try.ntmps7
  go_wp2_with fail
  refine (next_any q c 5 _ HS.out.code (by omega)).mono ?_
  rintro e w ⟨r5, rfl, hr, _, ho, hcd⟩
  replace HS := Lib.hid (HS.out.draws ho hcd)
  have h5 : r5 < 5 := by have := hr (by omega); omega
  clear ho hcd hr
  go_wp2_with fail
  go_loopw [3, 4] (fun v k wr => ∃ (j : Nat) (lr : List (Nat × TypeId × List Value)) (rs : List Rsn), k = .int .i64 j ∧ rs.length + j ≤ 4 ∧ Hid (St (some c) q w0 wr (lr ++ [])) ∧ Hid (RowEnt 43 2 lr v (rs.map rL).length (rs.map rL).flatten)) (fun _ k _ => (intOf k).toNat)
  case atStart => exact ⟨r5, [], [], rfl, by simp; omega, HS, RowEnt.nil⟩
  case round =>
    obtain ⟨j, lr, rs, rfl, hj, HS2, HR⟩ := hrel
    clear HS
    have HS := HS2
    clear HS2
    cases j with
    | zero =>
      go_wp2_with fail
      go_ret
      exact ⟨_, lr, rs, rfl, by have := HS.out; rwa [List.append_nil] at this, HR.out, by omega⟩
    | succ j =>
      go_wp2_with fail
      refine (next_any q c 8 _ HS.out.code (by omega)).mono ?_
      rintro e w ⟨k8, rfl, hr, _, ho, hcd⟩
      replace HS := Lib.hid (HS.out.draws ho hcd)
      clear ho hcd hr
      go_wp2_with fail
      refine (next_any q c 6 _ HS.out.code (by omega)).mono ?_
      rintro e w ⟨k6, rfl, hr, _, ho, hcd⟩
      replace HS := Lib.hid (HS.out.draws ho hcd)
      clear ho hcd hr
      have hlen : (rs.map rL).length + 1 ≤ 100 := by rw [List.length_map]; omega
      go_wp2_with (first | (refine sx_build HS rfl 29 43 1 [(0, .tmp 16)] rfl [(0, .agg #[.int .i64 (k8 : Int), .int .i64 (k6 : Int)])] rfl (rL ((k8 : Int), (k6 : Int))) (fun w => build_rsn ((k8 : Int), (k6 : Int)) w) ?_; clear HS; intro w b17 HS) | (refine sx_append (front := [(b17, 43, rL ((k8 : Int), (k6 : Int)))]) (lr := lr) (ll := []) HS rfl _ _ 29 rfl 43 ie _ 2 _ Try.underlying29 HIE.out HIZ.out HIS.out rfl rfl (by decide) _ (rs.map rL).length (rs.map rL).flatten rfl HR.out _ rfl 1 (rL ((k8 : Int), (k6 : Int))) (SrcAt.box (HS.out.box (i := 0) rfl) rfl rfl) (by unfold maxLen; omega) (Nat.le_trans (Nat.mul_le_mul hlen HIB.out) (by decide)) ?_; clear HS HR; intro vv w lq HS HR))
      replace HS := Lib.hid (HS.out.drop 1)
      have HR2 : Hid (RowEnt 43 2 lq vv ((rs ++ [((k8 : Int), (k6 : Int))]).map rL).length ((rs ++ [((k8 : Int), (k6 : Int))]).map rL).flatten) := by
        have := HR.out
        rw [List.map_append, List.flatten_append, List.length_append]
        exact Lib.hid (by simpa using this)
      clear HR hlen
      go_roundw
      case rel => exact ⟨j, lq, rs ++ [((k8 : Int), (k6 : Int))], by go_num, by rw [List.length_append]; simp; omega, HS, HR2⟩
      case measure => simp [intOf]
theorem zero7 : (Try.prog.info? 27).bind (·.zero) = some (.agg (cntV []).toArray) := by kernel_rfl
theorem sum_run {w : World} {b : Nat} {xs : List Rsn} (hB : PBox w b 27 (cntV xs)) : (loadVar 27 ⟨b, 0, none⟩).run Try.prog w = .ok (.agg (cntV xs).toArray) w := run_load_agg hB sh27 (cntV_len xs) (by simpa using cellsAt_self [] (cntV xs))
set_option maxHeartbeats 4000000 in
set_option maxRecDepth 100000 in
theorem sum_any (w0 : World) (v : Value) (vals : List Value) (rss : List (List Rsn)) (h : SlAt w0 7 v (vals.map repL)) (hl : vals.length = rss.length) (hr : ∀ (i : Nat) (rs : List Rsn), rss[i]? = some rs → ∃ u, vals[i]? = some u ∧ SlAt w0 2 u (rs.map rL)) (hb : rss.flatten.length ≤ 1000000) :
    Calls Try.prog 8 #[v] w0 fun e w' => e = .returned (.agg (cntV rss.flatten).toArray) ∧ Ext w0 w' := by
  obtain ⟨ao, cap, rfl, hc1, hc2, hat⟩ := h
  have HAT := Lib.hid hat
  have HR := Lib.hid hr
  have HB := Lib.hid hb
  rw [List.length_map, hl] at hc1 ⊢
  obtain ⟨n, hn⟩ : ∃ n, n = rss.length := ⟨_, rfl⟩
  rw [← hn] at hc1 ⊢
  have hcap : cap ≤ 9223372036854775807 := by unfold maxLen at hc2; omega
  have HL : Hid (vals.length = n) := by rw [hn]; exact hl
  have HN := Lib.hid hn
  clear hat hr hb hl hc2 hn
  have HS : Hid (St none default w0 w0 []) := St.start w0
  have tok1 : True := trivial
  go_enter Try.func8, Try.ntmps8
  go_wp2_with (first | (have _t := tok1; refine sx_alloc HS rfl 27 rfl _ zero7 ?_; clear HS tok1; intro w b2 HS) | (refine sx_alloc HS rfl 27 rfl _ zero7 ?_; clear HS; intro w b3 HS))
  replace HS : Hid (St none default w0 w [(b3, 27, cntV []), (b2, 27, cntV [])]) := HS
  go_loopw [10] (fun s wr => ∃ i : Nat, i ≤ n ∧ s = .int .i64 i ∧ Hid (St none default w0 wr [(b3, 27, cntV (rss.take i).flatten), (b2, 27, cntV [])])) (fun s _ => n - (intOf s).toNat)
  case atStart => exact ⟨0, Nat.zero_le _, rfl, HS⟩
  case round =>
    obtain ⟨i, hi, rfl, HS2⟩ := hrel
    clear HS
    have HS := HS2
    clear HS2
    by_cases hlt : i < n
    · obtain ⟨rs, hrs⟩ := list_get_of_lt rss i n HN.out.symm hlt
      obtain ⟨u, hu, hsl⟩ := HR.out i rs hrs
      have hne : vals.map repL ≠ [] := fun e => by
        have h1 : vals = [] := by simpa using e
        rw [h1] at hu
        simp at hu
      obtain ⟨g, off, rfl, hcell⟩ := HAT.out hne
      have HC : Hid (∀ (j : Nat) (x : Value), (repL u)[j]? = some x → w0.cell? ⟨g, off + i * 7 + j, none⟩ = some x) := fun j x hj => hcell i (repL u) (by simp [hu]) j x hj
      have HCW : Hid (∀ w, Ext w0 w → ∀ (j : Nat) (x : Value), (repL u)[j]? = some x → w.cell? ⟨g, off + i * 7 + j, none⟩ = some x) := fun w k j x hj => by
        have := HC.out j x hj
        exact (Below.cell (p := ⟨g, off + i * 7 + j, none⟩) k (block_lt_of_cell (a := ⟨g, off + i * 7 + j, none⟩) this)).trans this
      obtain ⟨ao2, cap2, rfl, hm1, hm2, hat2⟩ := hsl
      obtain ⟨m, hm⟩ : ∃ m, m = (rs.map rL).length := ⟨_, rfl⟩
      rw [← hm] at hm1 hu HC HCW
      have hcap2 : cap2 ≤ 9223372036854775807 := by unfold maxLen at hm2; omega
      have HM : Hid (rs.length = m) := by rw [hm, List.length_map]; exact rfl
      have HAT2 := Lib.hid hat2
      have HRS := Lib.hid hrs
      have e1 : (rss.take i).flatten = (rss.take i).flatten ++ rs.take 0 := by simp
      rw [e1] at HS
      clear hrs hu hcell hne hm hm2 hat2 HC e1
      go_wp2_with (first | (refine sx_loadsC rfl 37 _ rfl g (off + i * 7) rfl 7 sh37 (repL (.slice ao2 m cap2)) rfl (HCW.out _ HS.out.isExt) ?_) | (refine sx_alloc HS rfl 37 rfl _ zr37 ?_; clear HS; intro w b5 HS) | (refine sx_store_all HS rfl 37 _ _ rfl rfl 0 _ _ _ rfl rfl (repL (.slice ao2 m cap2)) rfl 7 sh37 rfl rfl rfl ?_; clear HS; intro w HS) | (refine sx_load HS rfl 29 _ rfl 0 _ _ _ rfl 6 rfl _ sh29 (.slice ao2 m cap2) rfl ?_))
      replace HS : Hid (St none default w0 w [(b5, 37, repL (.slice ao2 m cap2)), (b3, 27, cntV ((rss.take i).flatten ++ rs.take 0)), (b2, 27, cntV [])]) := HS
      clear HCW
      obtain ⟨wo, hwo⟩ : ∃ wo : World, wo = wr := ⟨_, rfl⟩
      subst hwo
      go_loopw [17] (fun s wr => ∃ j : Nat, j ≤ m ∧ s = .int .i64 j ∧ Hid (St none default w0 wr [(b5, 37, repL (.slice ao2 m cap2)), (b3, 27, cntV ((rss.take i).flatten ++ rs.take j)), (b2, 27, cntV [])])) (fun s _ => m - (intOf s).toNat)
      case atStart => exact ⟨0, Nat.zero_le _, rfl, HS⟩
      case round =>
        obtain ⟨j, hj, rfl, HS2⟩ := hrel
        clear HS
        have HS := HS2
        clear HS2
        by_cases hlt2 : j < m
        · obtain ⟨r, hr⟩ := list_get_of_lt rs j m HM.out hlt2
          have hne : rs.map rL ≠ [] := fun e => by
            have h1 : rs = [] := by simpa using e
            rw [h1] at hr
            simp at hr
          obtain ⟨g2, off2, rfl, hcell⟩ := HAT2.out hne
          have HCW : Hid (∀ w, Ext w0 w → ∀ (jj : Nat) (x : Value), (rL r)[jj]? = some x → w.cell? ⟨g2, off2 + j * 2 + jj, none⟩ = some x) := fun w k jj x hj => by
            have := hcell j (rL r) (by simp [hr]) jj x hj
            exact (Below.cell (p := ⟨g2, off2 + j * 2 + jj, none⟩) k (block_lt_of_cell (a := ⟨g2, off2 + j * 2 + jj, none⟩) this)).trans this
          obtain ⟨xs, hxs⟩ : ∃ xs, xs = (rss.take i).flatten ++ rs.take j := ⟨_, rfl⟩
          have hx2 : (rss.take i).flatten ++ rs.take (j + 1) = xs ++ [r] := by rw [take_one hr, hxs, List.append_assoc]
          have hlen : xs.length ≤ 1000000 := by rw [hxs]; exact Nat.le_trans (flat_take_add HRS.out j) HB.out
          rw [← hxs] at HS
          have HX2 := Lib.hid hx2
          have hbump := cntV_bump xs r
          clear hr hne hcell hxs hx2
          obtain ⟨k, sub⟩ := r
          by_cases hneg : 0 ≤ k ∧ k < 7
          · obtain ⟨kk, rfl⟩ := Int.eq_ofNat_of_zero_le hneg.1
            have hk7 : kk < 7 := by omega
            have hko : kindOf ((kk : Int), sub) = kk := by unfold kindOf; rw [if_pos hneg]; simp
            rw [hko] at hbump
            have HBU := Lib.hid hbump
            have hcn := Nat.le_trans (cntN_le xs kk) hlen
            have HG : Hid ((cntV xs)[kk]? = some (.int .i64 (cntN xs kk : Int))) := cntV_get xs hk7
            have d1 : decide ((kk : Int) < 0) = false := by simp
            have d2 : decide (7 ≤ (kk : Int)) = false := by simp; omega
            have HLC : Hid ((cntV xs).length = 7) := cntV_len xs
            clear hbump hko hneg hlen
            go_wp2_with (first | (refine sx_loadsC rfl 43 _ rfl g2 (off2 + j * 2) rfl 2 sh43 (rL ((kk : Int), sub)) rfl (HCW.out _ HS.out.isExt) ?_) | (refine sx_alloc HS rfl 43 rfl _ zr43 ?_; clear HS; intro w b7 HS) | (refine sx_store_all HS rfl 43 _ _ rfl rfl 0 _ _ _ rfl rfl (rL ((kk : Int), sub)) rfl 2 sh43 rfl rfl rfl ?_; clear HS; intro w HS) | (refine sx_load HS rfl 3 _ rfl 0 _ _ _ rfl 0 rfl _ sh3 (.int .i64 (kk : Int)) rfl ?_) | (refine sx_load HS rfl 3 _ rfl 2 _ _ _ rfl kk rfl _ sh3 (.int .i64 (cntN xs kk : Int)) HG.out ?_) | (refine sx_store HS rfl 3 _ _ rfl rfl 2 _ _ _ rfl kk rfl sh3 (.int .i64 ((cntN xs kk : Int) + 1)) rfl rfl (by rw [HLC.out]; exact Nat.ble_eq_true_of_le (by omega)) ?_; clear HS; intro w HS))
            replace HS := Lib.hid (HS.out.drop 1)
            replace HS : Hid (St none default w0 w [(b5, 37, repL (.slice (some ⟨g2, off2, none⟩) m cap2)), (b3, 27, (cntV xs).set kk (.int .i64 ((cntN xs kk : Int) + 1))), (b2, 27, cntV [])]) := HS
            rw [HBU.out, ← HX2.out] at HS
            go_roundw
            case rel => exact ⟨j + 1, by omega, by go_num, HS⟩
            case measure => simp [intOf]; omega
          · have hko : kindOf (k, sub) = 0 := by unfold kindOf; rw [if_neg hneg]
            rw [hko] at hbump
            have HBU := Lib.hid hbump
            have hcn := Nat.le_trans (cntN_le xs 0) hlen
            have HG : Hid ((cntV xs)[0]? = some (.int .i64 (cntN xs 0 : Int))) := cntV_get xs (by omega)
            have HLC : Hid ((cntV xs).length = 7) := cntV_len xs
            clear hbump hko hlen
            by_cases hk0 : k < 0
            all_goals
              have hk7 : ¬ k < 0 → 7 ≤ k := fun h => by omega
              clear hneg
              first | (have d1 : decide (k < 0) = true := by simpa using hk0) | (have d1 : decide (k < 0) = false := by simpa using hk0)
              first | (have d2 : decide (7 ≤ k) = true := by simpa using hk7 hk0) | skip
              clear hk7
              go_wp2_with (first | (refine sx_loadsC rfl 43 _ rfl g2 (off2 + j * 2) rfl 2 sh43 (rL (k, sub)) rfl (HCW.out _ HS.out.isExt) ?_) | (refine sx_alloc HS rfl 43 rfl _ zr43 ?_; clear HS; intro w b7 HS) | (refine sx_store_all HS rfl 43 _ _ rfl rfl 0 _ _ _ rfl rfl (rL (k, sub)) rfl 2 sh43 rfl rfl rfl ?_; clear HS; intro w HS) | (refine sx_load HS rfl 3 _ rfl 0 _ _ _ rfl 0 rfl _ sh3 (.int .i64 k) rfl ?_) | (refine sx_load HS rfl 3 _ rfl 2 _ _ _ rfl 0 rfl _ sh3 (.int .i64 (cntN xs 0 : Int)) HG.out ?_) | (refine sx_store HS rfl 3 _ _ rfl rfl 2 _ _ _ rfl 0 rfl sh3 (.int .i64 ((cntN xs 0 : Int) + 1)) rfl rfl (by rw [HLC.out]; rfl) ?_; clear HS; intro w HS))
              replace HS := Lib.hid (HS.out.drop 1)
              replace HS : Hid (St none default w0 w [(b5, 37, repL (.slice (some ⟨g2, off2, none⟩) m cap2)), (b3, 27, (cntV xs).set 0 (.int .i64 ((cntN xs 0 : Int) + 1))), (b2, 27, cntV [])]) := HS
              rw [HBU.out, ← HX2.out] at HS
              go_roundw
              case rel => exact ⟨j + 1, by omega, by go_num, HS⟩
              case measure => simp [intOf]; omega
        · have hjm : j = m := by omega
          subst hjm
          have e2 : (rss.take i).flatten ++ rs.take j = (rss.take (i + 1)).flatten := by rw [take_flat HRS.out, List.take_of_length_le (l := rs) (by rw [HM.out]; exact Nat.le_refl _)]
          rw [e2] at HS
          clear e2
          replace HS := Lib.hid (HS.out.drop 1)
          go_wp2_with fail
          go_roundw
          case rel => exact ⟨i + 1, by omega, by go_num, HS⟩
          case measure => simp [intOf]; omega
    · have hin : i = n := by omega
      subst hin
      have e2 : (rss.take i).flatten = rss.flatten := by rw [List.take_of_length_le (by rw [← HN.out]; exact Nat.le_refl _)]
      rw [e2] at HS
      clear e2
      go_wp2_with (first | (refine sx_load_all HS rfl 27 _ rfl 0 _ _ _ rfl rfl 7 sh27 (cntV_len _) ?_) | (refine sx_store_all HS rfl 27 _ _ rfl rfl 1 _ _ _ rfl rfl (cntV rss.flatten) rfl 7 sh27 (cntV_len _) (by rw [cntV_len, cntV_len]) (cntV_one _) ?_; clear HS; intro w HS))
      exact bodyPost_ret (results_c Try.results8 rfl (sum_run (xs := rss.flatten) (HS.out.box (i := 1) rfl))) rfl ⟨rfl, HS.out.isExt⟩
end Go.Proofs.Ytmipkjgilikcnaa
