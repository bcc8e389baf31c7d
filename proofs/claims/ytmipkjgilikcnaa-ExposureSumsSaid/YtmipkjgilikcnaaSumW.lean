/-
  ExposureSums: the walk.
-/
import Derived.Test.YtmipkjgilikcnaaSumB
import Derived.Deep.DeepCutAuto
namespace Go.Proofs.Ytmipkjgilikcnaa
open Go.RowKit
set_option maxHeartbeats 8000000 in
set_option maxRecDepth 100000 in
theorem sums_walk (a : Option Addr) (len cap : Nat) (w0 : World) (hb : BytesIn w0 a len) (hlc : len ≤ cap) (hmax : cap ≤ maxLen) :
    Calls Try.prog 3 #[.slice a len cap] w0 fun e w' => e = .returned (.bool true) ∧ Ext w0 w' := by
  have HB := Lib.hid hb
  have HM := Lib.hid hmax
  clear hb hmax
  obtain ⟨ie, hie, hiz, his, hib⟩ := info_rep
  have HIE := Lib.hid hie
  have HIZ := Lib.hid hiz
  have HIS := Lib.hid his
  have HIB := Lib.hid hib
  clear hie hiz his hib
  go_enter Try.func3, Try.ntmps3
  go_wp2_with fail
  refine (awake_any _).mono ?_
  rintro e w1 ⟨rfl, hx1⟩
  have HX1 := Lib.hid hx1
  have HB1 : Hid (BytesIn w1 a len) := BytesIn.ext HB.out hx1
  clear hx1
  go_wp2_with fail
  refine (new_any a len cap 300 _ HB1.out hlc (by omega) (by omega) HM.out).mono ?_
  rintro e w2 ⟨c, q, rfl, hc, hx2, hcd⟩
  have hc0 : w0.heap.size ≤ c := by have := HX1.out.size; omega
  have HX := Lib.hid (HX1.out.trans hx2)
  have HS : Hid (St (some c) q w2 w2 []) := St.startC hcd
  clear hc hx2 hcd HX1 HB1 HB
  go_wp2_with (refine sx_alloc HS rfl 27 rfl _ zero7 ?_; clear HS; intro w b6 HS)
  replace HS : Hid (St (some c) q w2 w [(b6, 27, cntV [])]) := HS
  refine (next_any q c 8 _ HS.out.code (by omega)).mono ?_
  rintro e w ⟨r8, rfl, hr, _, ho, hcd⟩
  replace HS := Lib.hid (HS.out.draws ho hcd)
  have h8 : r8 < 8 := by have := hr (by omega); omega
  clear ho hcd hr
  go_wp2_with fail
  go_loopw [4, 5, 7] (fun s4 s5 s7 wr => ∃ (j : Nat) (rss tss : List (List Rsn)) (vals tvals : List Value) (lrl lrt RB : List (Nat × TypeId × List Value)), s7 = .int .i64 j ∧ rss.length + j ≤ 7 ∧ Hid (tss.Perm rss) ∧ Hid (∀ rs ∈ rss, rs.length ≤ 4) ∧ Hid (Link RB vals rss) ∧ Hid (Link RB tvals tss) ∧ Hid (∀ v ∈ tvals, v.oneCell' = true) ∧ Hid (St (some c) q w2 wr (lrt ++ (lrl ++ (RB ++ [(b6, 27, cntV rss.flatten)])))) ∧ Hid (RowEnt 37 7 lrl s4 vals.length (vals.map repL).flatten) ∧ Hid (RowEnt 37 7 lrt s5 tvals.length (tvals.map repL).flatten)) (fun _ _ s7 _ => (intOf s7).toNat)
  case atStart => exact ⟨r8, [], [], [], [], [], [], [], rfl, by simp; omega, List.Perm.refl _, (fun rs h => by simp at h), Link.nil _, Link.nil _, (fun v h => by simp at h), HS, RowEnt.nil, RowEnt.nil⟩
  case round =>
    obtain ⟨j, rss, tss, vals, tvals, lrl, lrt, RB, rfl, hj, HPM, H4, HLK, HTK, HONE, HS2, HRL, HRT⟩ := hrel
    clear HS
    have HS := HS2
    clear HS2
    obtain ⟨aol, cpl, rfl, hcl1, hcl2⟩ := row_form HRL.out
    obtain ⟨aot, cpt, rfl, hct1, hct2⟩ := row_form HRT.out
    have hcl3 : cpl ≤ 9223372036854775807 := by unfold maxLen at hcl2; omega
    have hct3 : cpt ≤ 9223372036854775807 := by unfold maxLen at hct2; omega
    clear hcl2 hct2
    obtain ⟨nl, hnl⟩ : ∃ nl, nl = vals.length := ⟨_, rfl⟩
    obtain ⟨n, hn⟩ : ∃ n, n = tvals.length := ⟨_, rfl⟩
    rw [← hnl] at HRL hcl1
    rw [← hn] at HRT hct1
    rw [← hnl, ← hn]
    have HVL : Hid (nl = rss.length) := by rw [hnl]; exact HLK.out.1
    have HTL : Hid (n = rss.length) := by rw [hn, HTK.out.1]; exact HPM.out.length_eq
    have HNL := Lib.hid hnl
    have HNT := Lib.hid hn
    clear hnl hn
    cases j with
    | zero =>
      have hb1 : rss.flatten.length ≤ 1000000 := by have := flat_len_le H4.out; omega
      have hb2 : tss.flatten.length ≤ 1000000 := by have h1 := flat_len_le (rss := tss) (fun rs h => H4.out rs (HPM.out.subset h)); have h2 := HPM.out.length_eq; omega
      have HB1 := Lib.hid hb1
      have HB2 := Lib.hid hb2
      clear hb1 hb2
      have HEQ : Hid (cntV tss.flatten = cntV rss.flatten) := cntV_perm HPM.out
      have hmt : ∀ e ∈ lrt, e ∈ (lrt ++ (lrl ++ (RB ++ [(b6, 27, cntV rss.flatten)]))) := fun e he => List.mem_append_left _ he
      have hml : ∀ e ∈ lrl, e ∈ (lrt ++ (lrl ++ (RB ++ [(b6, 27, cntV rss.flatten)]))) := fun e he => List.mem_append_right _ (List.mem_append_left _ he)
      have hmr : ∀ e ∈ RB, e ∈ (lrt ++ (lrl ++ (RB ++ [(b6, 27, cntV rss.flatten)]))) := fun e he => List.mem_append_right _ (List.mem_append_right _ (List.mem_append_left _ he))
      have HMT := Lib.hid hmt
      have HML := Lib.hid hml
      have HMR := Lib.hid hmr
      clear hmt hml hmr
      go_wp2_with fail
      refine hg_begin [(b6, 27, cntV rss.flatten)] HS (by kernel_rfl) ?_
      clear HS; intro w HS
      refine hg_reg 0 (some 71) rfl rfl (by kernel_rfl) (by kernel_rfl) (by kernel_rfl) (fun _ _ _ _ h => h) HS (((List.sublist_append_right RB _).trans (List.sublist_append_right lrl _)).trans (List.sublist_append_right lrt _)) ((.slice aol nl cpl)) rfl (fun _ => rfl) ?_
      try simp only [Act.put, List.setIfInBounds_toArray, List.set_cons_zero, List.set_cons_succ]
      refine hg_loads 2 (some 73) rfl rfl (by kernel_rfl) (by kernel_rfl) (by kernel_rfl) (fun _ _ _ _ h => h) HS (((List.sublist_append_right RB _).trans (List.sublist_append_right lrl _)).trans (List.sublist_append_right lrt _)) rfl 27 _ rfl 0 _ _ _ rfl 0 rfl 7 sh27 (cntV rss.flatten) (cntV_len _) (by simpa using cellsAt_self [] (cntV rss.flatten)) ?_
      try simp only [Act.put, List.setIfInBounds_toArray, List.set_cons_zero, List.set_cons_succ]
      refine hk_x1 1 (by kernel_rfl) ?_
      refine hg_call 1 (some 72) rfl rfl rfl HS (((List.sublist_append_right RB _).trans (List.sublist_append_right lrl _)).trans (List.sublist_append_right lrt _)) 8 _ _ rfl Try.func8 (by kernel_rfl) rfl _ (fun v => v = .agg (cntV rss.flatten).toArray) ((sum_any _ (.slice aol nl cpl) vals rss (rep_at HS.out HML.out HNL.out HRL.out) HLK.out.1 ((HLK.out.mono HMR.out).sum HS.out) HB1.out).mono (fun e w1 h => by obtain ⟨rfl, hx⟩ := h; exact ⟨_, rfl, rfl, HS.out.ext hx⟩)) rfl ?_
      clear HS; rintro _ w rfl HS
      try simp only [Act.put, List.setIfInBounds_toArray, List.set_cons_zero, List.set_cons_succ]
      refine hg_reg 3 (some 74) rfl rfl (by kernel_rfl) (by kernel_rfl) (by kernel_rfl) (fun _ _ _ _ h => h) HS (((List.sublist_append_right RB _).trans (List.sublist_append_right lrl _)).trans (List.sublist_append_right lrt _)) (.bool true) rfl (fun _ => run_binop rfl rfl rfl (guard7 ..) (eql7 rss.flatten _)) ?_
      try simp only [Act.put, List.setIfInBounds_toArray, List.set_cons_zero, List.set_cons_succ]
      refine hg_reg 4 (some 75) rfl rfl (by kernel_rfl) (by kernel_rfl) (by kernel_rfl) (fun _ _ _ _ h => h) HS (((List.sublist_append_right RB _).trans (List.sublist_append_right lrl _)).trans (List.sublist_append_right lrt _)) (.bool true) rfl (fun _ => rfl) ?_
      try simp only [Act.put, List.setIfInBounds_toArray, List.set_cons_zero, List.set_cons_succ]
      refine hg_reg 5 (some 76) rfl rfl (by kernel_rfl) (by kernel_rfl) (by kernel_rfl) (fun _ _ _ _ h => h) HS (((List.sublist_append_right RB _).trans (List.sublist_append_right lrl _)).trans (List.sublist_append_right lrt _)) ((.slice aot n cpt)) rfl (fun _ => rfl) ?_
      try simp only [Act.put, List.setIfInBounds_toArray, List.set_cons_zero, List.set_cons_succ]
      refine hg_loads 7 (some 78) rfl rfl (by kernel_rfl) (by kernel_rfl) (by kernel_rfl) (fun _ _ _ _ h => h) HS (((List.sublist_append_right RB _).trans (List.sublist_append_right lrl _)).trans (List.sublist_append_right lrt _)) rfl 27 _ rfl 0 _ _ _ rfl 0 rfl 7 sh27 (cntV rss.flatten) (cntV_len _) (by simpa using cellsAt_self [] (cntV rss.flatten)) ?_
      try simp only [Act.put, List.setIfInBounds_toArray, List.set_cons_zero, List.set_cons_succ]
      refine hk_x1 6 (by kernel_rfl) ?_
      refine hg_call 6 (some 77) rfl rfl rfl HS (((List.sublist_append_right RB _).trans (List.sublist_append_right lrl _)).trans (List.sublist_append_right lrt _)) 8 _ _ rfl Try.func8 (by kernel_rfl) rfl _ (fun v => v = .agg (cntV rss.flatten).toArray) ((sum_any _ (.slice aot n cpt) tvals tss (rep_at HS.out HMT.out HNT.out HRT.out) HTK.out.1 ((HTK.out.mono HMR.out).sum HS.out) HB2.out).mono (fun e w1 h => by obtain ⟨rfl, hx⟩ := h; exact ⟨_, rfl, by rw [HEQ.out], HS.out.ext hx⟩)) rfl ?_
      clear HS; rintro _ w rfl HS
      try simp only [Act.put, List.setIfInBounds_toArray, List.set_cons_zero, List.set_cons_succ]
      refine hg_reg 8 (some 79) rfl rfl (by kernel_rfl) (by kernel_rfl) (by kernel_rfl) (fun _ _ _ _ h => h) HS (((List.sublist_append_right RB _).trans (List.sublist_append_right lrl _)).trans (List.sublist_append_right lrt _)) (.bool true) rfl (fun _ => run_binop rfl rfl rfl (guard7 ..) (eql7 rss.flatten _)) ?_
      try simp only [Act.put, List.setIfInBounds_toArray, List.set_cons_zero, List.set_cons_succ]
      refine hg_reg 9 (some 80) rfl rfl (by kernel_rfl) (by kernel_rfl) (by kernel_rfl) (fun _ _ _ _ h => h) HS (((List.sublist_append_right RB _).trans (List.sublist_append_right lrl _)).trans (List.sublist_append_right lrt _)) (.bool true) rfl (fun _ => rfl) ?_
      try simp only [Act.put, List.setIfInBounds_toArray, List.set_cons_zero, List.set_cons_succ]
      refine hg_reg 10 (some 2) rfl rfl (by kernel_rfl) (by kernel_rfl) (by kernel_rfl) (fun _ _ _ _ h => h) HS (((List.sublist_append_right RB _).trans (List.sublist_append_right lrl _)).trans (List.sublist_append_right lrt _)) (.bool true) rfl (fun _ => rfl) ?_
      try simp only [Act.put, List.setIfInBounds_toArray, List.set_cons_zero, List.set_cons_succ]
      refine hk_done (by kernel_rfl) ?_
      go_wp2_with fail
      go_ret
      exact ⟨rfl, HX.out.only HS.out.isOnly hc0⟩
    | succ j =>
      go_wp2_with fail
      refine (reasons_any q c _ HS.out.code).mono ?_
      rintro e w ⟨vr, lrr, rs, rfl, hst, hre, hr4⟩
      replace HS := Lib.hid (HS.out.callC hst)
      have HRR := Lib.hid hre
      clear hst hre
      obtain ⟨aor, cpr, hvr, hcr1, hcr2⟩ := row_form HRR.out
      have hcr3 : cpr ≤ 9223372036854775807 := by unfold maxLen at hcr2; omega
      obtain ⟨m, hm⟩ : ∃ m, m = (rs.map rL).length := ⟨_, rfl⟩
      rw [← hm] at hvr hcr1
      have HMR : Hid (m = rs.length) := by rw [hm, List.length_map]; exact rfl
      have hm4 : m ≤ 4 := by rw [HMR.out]; exact hr4
      subst hvr
      clear hcr2 hm
      have hlen : nl + 1 ≤ 100 := by rw [HVL.out]; omega
      have hn7 : n ≤ 7 := by rw [HTL.out]; omega
      go_wp2_with (first | (refine wpList_buildTo rfl 37 _ rfl (some 25) rfl (repL (Value.slice aor m cpr)).toArray (built_rep ..) ?_) | (refine sx_alloc HS rfl 37 rfl _ zr37 ?_; clear HS; intro w b8 HS) | (refine sx_store_all HS rfl 37 _ _ rfl rfl 0 _ _ _ rfl rfl (repL (Value.slice aor m cpr)) rfl 7 sh37 rfl rfl rfl ?_; clear HS; intro w HS) | (refine sx_load_all HS rfl 37 _ rfl 0 _ _ (repL (Value.slice aor m cpr)) rfl rfl 7 sh37 rfl ?_) | (refine sx_build HS rfl 26 37 1 [(0, .tmp 27)] rfl [(0, .agg (repL (Value.slice aor m cpr)).toArray)] rfl (repL (Value.slice aor m cpr)) (fun w => build_rep _ w) ?_; clear HS; intro w b28 HS) | (at_builtin; have HS3 : Hid (St (some c) q w2 _ ((((b28, 37, repL (Value.slice aor m cpr)) :: (b8, 37, repL (Value.slice aor m cpr)) :: lrr) ++ lrt) ++ (lrl ++ (RB ++ [(b6, 27, cntV rss.flatten)])))) := Lib.hid (by rw [List.append_assoc]; exact HS.out); refine sx_append (front := ((b28, 37, repL (Value.slice aor m cpr)) :: (b8, 37, repL (Value.slice aor m cpr)) :: lrr) ++ lrt) (lr := lrl) (ll := (RB ++ [(b6, 27, cntV rss.flatten)])) HS3 rfl _ _ 26 rfl 37 ie _ 7 _ Try.underlying26 HIE.out HIZ.out HIS.out rfl rfl (by decide) _ nl (vals.map repL).flatten rfl HRL.out _ rfl 1 (repL (Value.slice aor m cpr)) (SrcAt.box (HS3.out.box (i := 0) rfl) rfl rfl) (by unfold maxLen; omega) (Nat.le_trans (Nat.mul_le_mul hlen HIB.out) (by decide)) ?_; clear HS HS3 HRL; intro vl2 w lrl2 HS HRL))
      replace HS : Hid (St (some c) q w2 w ((b8, 37, repL (Value.slice aor m cpr)) :: (lrr ++ (lrt ++ (lrl2 ++ (RB ++ [(b6, 27, cntV rss.flatten)])))))) := Lib.hid (by have h := HS.out; rw [List.append_assoc] at h; exact h.drop 1)
      have HRT2 := HRT
      clear HRT hlen
      refine (next_any q c ((n : Int) + 1) _ HS.out.code (by omega)).mono ?_
      rintro e w ⟨k, rfl, hr, _, ho, hcd⟩
      replace HS := Lib.hid (HS.out.draws ho hcd)
      have hkn : k ≤ n := by have := hr (by omega); omega
      clear ho hcd hr
      go_wp2_with fail
      obtain ⟨tv2, htv2⟩ : ∃ tv2, tv2 = ((tvals.take k ++ [(Value.slice aor m cpr)]) ++ tvals.drop k) := ⟨_, rfl⟩
      have HTV2 := Lib.hid htv2
      clear htv2
      go_cut [5] (fun s5 wx => ∃ lra : List (Nat × TypeId × List Value), Hid (St (some c) q w2 wx (lra ++ ((b8, 37, repL (Value.slice aor m cpr)) :: (lrr ++ (lrt ++ (lrl2 ++ (RB ++ [(b6, 27, cntV rss.flatten)]))))))) ∧ Hid (RowEnt 37 7 lra s5 tv2.length (tv2.map repL).flatten))
      case first =>
        have hkt : k ≤ tvals.length := by rw [← HNT.out]; exact hkn
        have hmt : ∀ e ∈ lrt, e ∈ ((b8, 37, repL (Value.slice aor m cpr)) :: (lrr ++ (lrt ++ (lrl2 ++ (RB ++ [(b6, 27, cntV rss.flatten)]))))) := fun e he => List.mem_cons_of_mem _ (List.mem_append_right _ (List.mem_append_left _ he))
        have HMT := Lib.hid hmt
        have HFL := Lib.hid (turn_flat hkt (Value.slice aor m cpr))
        have HLN := Lib.hid (turn_len hkt (Value.slice aor m cpr))
        have hkc : k ≤ cpt := by omega
        obtain ⟨sv1, hsv1⟩ : ∃ sv, sv = sliced aot 0 k cpt 7 := ⟨_, rfl⟩
        obtain ⟨sv2, hsv2⟩ : ∃ sv, sv = sliced aot k n cpt 7 := ⟨_, rfl⟩
        have HV1 := Lib.hid hsv1
        have HV2 := Lib.hid hsv2
        have HSRC : Hid (∀ w L, St (some c) q w2 w L → (∀ e ∈ lrt, e ∈ L) → SrcAt w 7 sv1 k ((tvals.map repL).flatten.take (k * 7)) ∧ SrcAt w 7 sv2 (n - k) ((tvals.map repL).flatten.drop (k * 7))) := fun w L h hm => by rw [hsv1, hsv2]; exact src_parts h hm HRT2.out (reps_one HONE.out) hkn
        clear hsv1 hsv2 hkt hmt
        refine hg_begin ((b8, 37, repL (Value.slice aor m cpr)) :: (lrr ++ (lrt ++ (lrl2 ++ (RB ++ [(b6, 27, cntV rss.flatten)]))))) HS (by kernel_rfl) ?_
        clear HS; intro w HS
        refine hg_reg 0 (some 35) rfl rfl (by kernel_rfl) (by kernel_rfl) (by kernel_rfl) (fun _ _ _ _ h => h) HS (by first | exact List.Sublist.refl _ | exact List.sublist_cons_self _ _ | exact List.sublist_append_right _ _ | exact (List.sublist_append_right _ _).trans (List.sublist_cons_self _ _)) (.slice aot n cpt) rfl (fun _ => rfl) ?_
        try simp only [Act.put, List.setIfInBounds_toArray, List.set_cons_zero, List.set_cons_succ]
        refine hg_reg 1 (some 36) rfl rfl (by kernel_rfl) (by kernel_rfl) (by kernel_rfl) (fun _ _ _ _ h => h) HS (by first | exact List.Sublist.refl _ | exact List.sublist_cons_self _ _ | exact List.sublist_append_right _ _ | exact (List.sublist_append_right _ _).trans (List.sublist_cons_self _ _)) (.int .i64 k) rfl (fun _ => rfl) ?_
        try simp only [Act.put, List.setIfInBounds_toArray, List.set_cons_zero, List.set_cons_succ]
        refine hg_reg 2 (some 37) rfl rfl (by kernel_rfl) (by kernel_rfl) (by kernel_rfl) (fun _ _ _ _ h => h) HS (by first | exact List.Sublist.refl _ | exact List.sublist_cons_self _ _ | exact List.sublist_append_right _ _ | exact (List.sublist_append_right _ _).trans (List.sublist_cons_self _ _)) (sv1) rfl (fun _ => run_sl_hi (n := n) rfl Try.underlying26 (by kernel_rfl) rfl rfl hkc HV1.out) ?_
        try simp only [Act.put, List.setIfInBounds_toArray, List.set_cons_zero, List.set_cons_succ]
        refine hg_loads 4 (some 39) rfl rfl (by kernel_rfl) (by kernel_rfl) (by kernel_rfl) (fun _ _ _ _ h => h) HS (by first | exact List.Sublist.refl _ | exact List.sublist_cons_self _ _ | exact List.sublist_append_right _ _ | exact (List.sublist_append_right _ _).trans (List.sublist_cons_self _ _)) rfl 37 _ rfl 0 _ _ _ rfl 0 rfl 7 sh37 (repL (Value.slice aor m cpr)) rfl (by simpa using cellsAt_self [] (repL (Value.slice aor m cpr))) ?_
        try simp only [Act.put, List.setIfInBounds_toArray, List.set_cons_zero, List.set_cons_succ]
        refine hg_reg 7 (some 42) rfl rfl (by kernel_rfl) (by kernel_rfl) (by kernel_rfl) (fun _ _ _ _ h => h) HS (by first | exact List.Sublist.refl _ | exact List.sublist_cons_self _ _ | exact List.sublist_append_right _ _ | exact (List.sublist_append_right _ _).trans (List.sublist_cons_self _ _)) (.slice aot n cpt) rfl (fun _ => rfl) ?_
        try simp only [Act.put, List.setIfInBounds_toArray, List.set_cons_zero, List.set_cons_succ]
        refine hg_reg 8 (some 43) rfl rfl (by kernel_rfl) (by kernel_rfl) (by kernel_rfl) (fun _ _ _ _ h => h) HS (by first | exact List.Sublist.refl _ | exact List.sublist_cons_self _ _ | exact List.sublist_append_right _ _ | exact (List.sublist_append_right _ _).trans (List.sublist_cons_self _ _)) (.int .i64 k) rfl (fun _ => rfl) ?_
        try simp only [Act.put, List.setIfInBounds_toArray, List.set_cons_zero, List.set_cons_succ]
        refine hg_reg 9 (some 44) rfl rfl (by kernel_rfl) (by kernel_rfl) (by kernel_rfl) (fun _ _ _ _ h => h) HS (by first | exact List.Sublist.refl _ | exact List.sublist_cons_self _ _ | exact List.sublist_append_right _ _ | exact (List.sublist_append_right _ _).trans (List.sublist_cons_self _ _)) (sv2) rfl (fun _ => run_sl_lo (n := n) rfl Try.underlying26 (by kernel_rfl) rfl rfl hkn HV2.out) ?_
        try simp only [Act.put, List.setIfInBounds_toArray, List.set_cons_zero, List.set_cons_succ]
        refine hk_x2 3 5 (by kernel_rfl) ?_ ?_
        · skip
          refine hg_appendS 3 (some 38) rfl rfl rfl (front := []) (lr := []) (ll := ((b8, 37, repL (Value.slice aor m cpr)) :: (lrr ++ (lrt ++ (lrl2 ++ (RB ++ [(b6, 27, cntV rss.flatten)])))))) HS (fun lx => ((List.sublist_append_right lx _).trans (List.sublist_append_right _ _))) _ _ 26 rfl 37 ie _ 7 _ Try.underlying26 HIE.out HIZ.out HIS.out rfl rfl (by decide) _ 0 [] rfl RowEnt.nil sv1 rfl k ((tvals.map repL).flatten.take (k * 7)) (HSRC.out _ _ HS.out (fun e he => HMT.out e he)).1 (by unfold maxLen; omega) (Nat.le_trans (Nat.mul_le_mul (show 0 + k ≤ 100 by omega) HIB.out) (by decide)) ?_
          clear HS; intro va w lra HS HRA
          try simp only [Act.put, List.setIfInBounds_toArray, List.set_cons_zero, List.set_cons_succ]
          refine hk_x1 5 (by kernel_rfl) ?_
          refine hg_build 5 (some 40) rfl rfl rfl HS (by first | exact List.Sublist.refl _ | exact List.sublist_cons_self _ _ | exact List.sublist_append_right _ _ | exact (List.sublist_append_right _ _).trans (List.sublist_cons_self _ _)) 26 37 1 [(0, .tmp 39)] rfl [(0, .agg (repL (Value.slice aor m cpr)).toArray)] rfl (repL (Value.slice aor m cpr)) (fun w => build_rep _ w) ?_
          clear HS; intro w b40 HS
          try simp only [Act.put, List.setIfInBounds_toArray, List.set_cons_zero, List.set_cons_succ]
          refine hk_x1 6 (by kernel_rfl) ?_
          refine hg_appendS 6 (some 41) rfl rfl rfl (front := [(b40, 37, repL (Value.slice aor m cpr))]) (lr := lra) (ll := ((b8, 37, repL (Value.slice aor m cpr)) :: (lrr ++ (lrt ++ (lrl2 ++ (RB ++ [(b6, 27, cntV rss.flatten)])))))) HS (fun lx => ((List.sublist_append_right lx _).trans (List.sublist_append_right _ _))) _ _ 26 rfl 37 ie _ 7 _ Try.underlying26 HIE.out HIZ.out HIS.out rfl rfl (by decide) va (0 + k) ([] ++ ((tvals.map repL).flatten.take (k * 7))) rfl HRA.out _ rfl 1 (repL (Value.slice aor m cpr)) (SrcAt.box (HS.out.box (i := 0) rfl) rfl rfl) (by unfold maxLen; omega) (Nat.le_trans (Nat.mul_le_mul (show 0 + k + 1 ≤ 100 by omega) HIB.out) (by decide)) ?_
          clear HS HRA; intro vb w lrb HS HRB
          try simp only [Act.put, List.setIfInBounds_toArray, List.set_cons_zero, List.set_cons_succ]
          refine hk_x1 10 (by kernel_rfl) ?_
          refine hg_appendS 10 (some 45) rfl rfl rfl (front := [(b40, 37, repL (Value.slice aor m cpr))]) (lr := lrb) (ll := ((b8, 37, repL (Value.slice aor m cpr)) :: (lrr ++ (lrt ++ (lrl2 ++ (RB ++ [(b6, 27, cntV rss.flatten)])))))) HS (fun lx => ((List.sublist_append_right lx _).trans (List.sublist_append_right _ _))) _ _ 26 rfl 37 ie _ 7 _ Try.underlying26 HIE.out HIZ.out HIS.out rfl rfl (by decide) vb (0 + k + 1) (([] ++ ((tvals.map repL).flatten.take (k * 7))) ++ repL (Value.slice aor m cpr)) rfl HRB.out sv2 rfl (n - k) ((tvals.map repL).flatten.drop (k * 7)) (HSRC.out _ _ HS.out (fun e he => List.mem_cons_of_mem _ (List.mem_append_right lrb (HMT.out e he)))).2 (by unfold maxLen; omega) (Nat.le_trans (Nat.mul_le_mul (show 0 + k + 1 + (n - k) ≤ 100 by omega) HIB.out) (by decide)) ?_
          clear HS HRB; intro vc w lrc HS HRC
          try simp only [Act.put, List.setIfInBounds_toArray, List.set_cons_zero, List.set_cons_succ]
          refine hg_reg 11 (some 5) rfl rfl (by kernel_rfl) (by kernel_rfl) (by kernel_rfl) (fun _ _ _ _ h => h) HS ((List.sublist_append_right lrc _).trans (List.sublist_cons_self _ _)) (vc) rfl (fun _ => rfl) ?_
          try simp only [Act.put, List.setIfInBounds_toArray, List.set_cons_zero, List.set_cons_succ]
          refine hk_done (by kernel_rfl) ?_
          have h := HRC.out
          rw [HFL.out, HNT.out, HLN.out, ← HTV2.out] at h
          have HRC2 := Lib.hid h
          have HS9 := Lib.hid (HS.out.drop 1)
          clear h HS
          go_wp2_with fail
          go_meet
          exact ⟨lrc, HS9, HRC2⟩
        · skip
          refine hg_build 5 (some 40) rfl rfl rfl HS (by first | exact List.Sublist.refl _ | exact List.sublist_cons_self _ _ | exact List.sublist_append_right _ _ | exact (List.sublist_append_right _ _).trans (List.sublist_cons_self _ _)) 26 37 1 [(0, .tmp 39)] rfl [(0, .agg (repL (Value.slice aor m cpr)).toArray)] rfl (repL (Value.slice aor m cpr)) (fun w => build_rep _ w) ?_
          clear HS; intro w b40 HS
          try simp only [Act.put, List.setIfInBounds_toArray, List.set_cons_zero, List.set_cons_succ]
          refine hk_x1 3 (by kernel_rfl) ?_
          refine hg_appendS 3 (some 38) rfl rfl rfl (front := [(b40, 37, repL (Value.slice aor m cpr))]) (lr := []) (ll := ((b8, 37, repL (Value.slice aor m cpr)) :: (lrr ++ (lrt ++ (lrl2 ++ (RB ++ [(b6, 27, cntV rss.flatten)])))))) HS (fun lx => ((List.sublist_append_right lx _).trans (List.sublist_append_right _ _))) _ _ 26 rfl 37 ie _ 7 _ Try.underlying26 HIE.out HIZ.out HIS.out rfl rfl (by decide) _ 0 [] rfl RowEnt.nil sv1 rfl k ((tvals.map repL).flatten.take (k * 7)) (HSRC.out _ _ HS.out (fun e he => List.mem_cons_of_mem _ (HMT.out e he))).1 (by unfold maxLen; omega) (Nat.le_trans (Nat.mul_le_mul (show 0 + k ≤ 100 by omega) HIB.out) (by decide)) ?_
          clear HS; intro va w lra HS HRA
          try simp only [Act.put, List.setIfInBounds_toArray, List.set_cons_zero, List.set_cons_succ]
          refine hk_x1 6 (by kernel_rfl) ?_
          refine hg_appendS 6 (some 41) rfl rfl rfl (front := [(b40, 37, repL (Value.slice aor m cpr))]) (lr := lra) (ll := ((b8, 37, repL (Value.slice aor m cpr)) :: (lrr ++ (lrt ++ (lrl2 ++ (RB ++ [(b6, 27, cntV rss.flatten)])))))) HS (fun lx => ((List.sublist_append_right lx _).trans (List.sublist_append_right _ _))) _ _ 26 rfl 37 ie _ 7 _ Try.underlying26 HIE.out HIZ.out HIS.out rfl rfl (by decide) va (0 + k) ([] ++ ((tvals.map repL).flatten.take (k * 7))) rfl HRA.out _ rfl 1 (repL (Value.slice aor m cpr)) (SrcAt.box (HS.out.box (i := 0) rfl) rfl rfl) (by unfold maxLen; omega) (Nat.le_trans (Nat.mul_le_mul (show 0 + k + 1 ≤ 100 by omega) HIB.out) (by decide)) ?_
          clear HS HRA; intro vb w lrb HS HRB
          try simp only [Act.put, List.setIfInBounds_toArray, List.set_cons_zero, List.set_cons_succ]
          refine hk_x1 10 (by kernel_rfl) ?_
          refine hg_appendS 10 (some 45) rfl rfl rfl (front := [(b40, 37, repL (Value.slice aor m cpr))]) (lr := lrb) (ll := ((b8, 37, repL (Value.slice aor m cpr)) :: (lrr ++ (lrt ++ (lrl2 ++ (RB ++ [(b6, 27, cntV rss.flatten)])))))) HS (fun lx => ((List.sublist_append_right lx _).trans (List.sublist_append_right _ _))) _ _ 26 rfl 37 ie _ 7 _ Try.underlying26 HIE.out HIZ.out HIS.out rfl rfl (by decide) vb (0 + k + 1) (([] ++ ((tvals.map repL).flatten.take (k * 7))) ++ repL (Value.slice aor m cpr)) rfl HRB.out sv2 rfl (n - k) ((tvals.map repL).flatten.drop (k * 7)) (HSRC.out _ _ HS.out (fun e he => List.mem_cons_of_mem _ (List.mem_append_right lrb (HMT.out e he)))).2 (by unfold maxLen; omega) (Nat.le_trans (Nat.mul_le_mul (show 0 + k + 1 + (n - k) ≤ 100 by omega) HIB.out) (by decide)) ?_
          clear HS HRB; intro vc w lrc HS HRC
          try simp only [Act.put, List.setIfInBounds_toArray, List.set_cons_zero, List.set_cons_succ]
          refine hg_reg 11 (some 5) rfl rfl (by kernel_rfl) (by kernel_rfl) (by kernel_rfl) (fun _ _ _ _ h => h) HS ((List.sublist_append_right lrc _).trans (List.sublist_cons_self _ _)) (vc) rfl (fun _ => rfl) ?_
          try simp only [Act.put, List.setIfInBounds_toArray, List.set_cons_zero, List.set_cons_succ]
          refine hk_done (by kernel_rfl) ?_
          have h := HRC.out
          rw [HFL.out, HNT.out, HLN.out, ← HTV2.out] at h
          have HRC2 := Lib.hid h
          have HS9 := Lib.hid (HS.out.drop 1)
          clear h HS
          go_wp2_with fail
          go_meet
          exact ⟨lrc, HS9, HRC2⟩
      case rest =>
        obtain ⟨lra, HS2, HRA⟩ := hcut
        clear HS HRT2
        have HS := HS2
        clear HS2
        have HRK : Hid (Link lrr [(Value.slice aor m cpr)] [rs]) := Link.one (fun e he => he) HRR.out
        have HRS1 : Hid ([rs].flatten = rs) := Lib.hid (by simp)
        go_wp2_with (first | (refine sx_load_all HS rfl 37 _ rfl lra.length b8 37 (repL (Value.slice aor m cpr)) (by simp) rfl 7 sh37 rfl ?_) | (refine sx_build HS rfl 26 37 1 [(0, .tmp 46)] rfl [(0, .agg (repL (Value.slice aor m cpr)).toArray)] rfl (repL (Value.slice aor m cpr)) (fun w => build_rep _ w) ?_; clear HS; intro w b47 HS))
        refine (sum_any _ _ [(Value.slice aor m cpr)] [rs] (one_slat (HS.out.box (i := 0) rfl)) rfl ((HRK.out.mono (fun e he => List.mem_cons_of_mem _ (List.mem_append_right _ (List.mem_cons_of_mem _ (List.mem_append_left _ he))))).sum HS.out) (by rw [HRS1.out]; omega)).mono ?_
        rintro e w ⟨he, hx⟩
        rw [HRS1.out] at he
        subst he
        replace HS := Lib.hid ((HS.out.ext hx).drop 1)
        clear hx
        go_wp2_with (first | (refine sx_alloc HS rfl 27 rfl _ zero7 ?_; clear HS; intro w b10 HS) | (refine sx_store_all HS rfl 27 _ _ rfl rfl 0 _ _ _ rfl rfl (cntV rs) rfl 7 sh27 (cntV_len _) (by rw [cntV_len]; rfl) (cntV_one _) ?_; clear HS; intro w HS))
        replace HS : Hid (St (some c) q w2 w ((b6, 27, mixV rss.flatten rs 0) :: (b10, 27, cntV rs) :: (lra ++ ((b8, 37, repL (Value.slice aor m cpr)) :: (lrr ++ (lrt ++ (lrl2 ++ RB))))))) := Lib.hid (by rw [mixV_zero]; exact HS.out.perm (bring_perm ..))
        obtain ⟨PR, hPR⟩ : ∃ PR, PR = rss.flatten := ⟨_, rfl⟩
        rw [← hPR] at HS
        have hpl : PR.length ≤ 1000 := by have h := flat_len_le H4.out; rw [hPR]; omega
        have HPR := Lib.hid hPR
        clear hPR
        obtain ⟨wo, hwo⟩ : ∃ wo : World, wo = wr := ⟨_, rfl⟩
        subst hwo
        have hrl : rs.length ≤ 4 := by rw [← HMR.out]; exact hm4
        go_loopw [11, 12] (fun s11 s12 wr => ∃ i : Nat, i ≤ 7 ∧ s12 = .int .i64 i ∧ s11 = .int .i64 (allN rs i : Int) ∧ Hid (St (some c) q w2 wr ((b6, 27, mixV PR rs i) :: (b10, 27, cntV rs) :: (lra ++ ((b8, 37, repL (Value.slice aor m cpr)) :: (lrr ++ (lrt ++ (lrl2 ++ RB)))))))) (fun _ s12 _ => 7 - (intOf s12).toNat)
        case atStart => exact ⟨0, Nat.zero_le _, rfl, rfl, HS⟩
        case round =>
          obtain ⟨i, hi, rfl, rfl, HS2⟩ := hrel
          clear HS
          have HS := HS2
          clear HS2
          by_cases hlt : i < 7
          · have h1 := cntN_le PR i
            have h2 := cntN_le rs i
            have h3 := allN_le rs i
            have h4 : i * rs.length ≤ 7 * 4 := Nat.mul_le_mul (by omega) hrl
            have hii : (i : Int) < 7 := by omega
            have HGP := Lib.hid (mixV_get PR rs hlt)
            have HGR := Lib.hid (cntV_get rs hlt)
            have HST := Lib.hid (mixV_set PR rs hlt)
            have HLM : Hid ((mixV PR rs i).length = 7) := mixV_len _ _ _
            go_wp2_with fail
            refine hg_begin [(b10, 27, cntV rs)] HS (by kernel_rfl) ?_
            clear HS; intro w HS
            refine hg_reg 0 (some 53) rfl rfl (by kernel_rfl) (by kernel_rfl) (by kernel_rfl) (fun _ _ _ _ h => h) HS ((List.Sublist.cons_cons _ (List.nil_sublist _)).trans (List.sublist_cons_self _ _)) (.int .i64 i) rfl (fun _ => rfl) ?_
            try simp only [Act.put, List.setIfInBounds_toArray, List.set_cons_zero, List.set_cons_succ]
            refine hg_reg 1 (some 54) rfl rfl (by kernel_rfl) (by kernel_rfl) (by kernel_rfl) (fun _ _ _ _ h => h) HS ((List.Sublist.cons_cons _ (List.nil_sublist _)).trans (List.sublist_cons_self _ _)) (.pointer (some ⟨b6, i, none⟩)) rfl (fun _ => by go_simp) ?_
            try simp only [Act.put, List.setIfInBounds_toArray, List.set_cons_zero, List.set_cons_succ]
            refine hg_reg 3 (some 56) rfl rfl (by kernel_rfl) (by kernel_rfl) (by kernel_rfl) (fun _ _ _ _ h => h) HS ((List.Sublist.cons_cons _ (List.nil_sublist _)).trans (List.sublist_cons_self _ _)) (.int .i64 i) rfl (fun _ => rfl) ?_
            try simp only [Act.put, List.setIfInBounds_toArray, List.set_cons_zero, List.set_cons_succ]
            refine hg_reg 4 (some 57) rfl rfl (by kernel_rfl) (by kernel_rfl) (by kernel_rfl) (fun _ _ _ _ h => h) HS ((List.Sublist.cons_cons _ (List.nil_sublist _)).trans (List.sublist_cons_self _ _)) (.pointer (some ⟨b10, i, none⟩)) rfl (fun _ => by go_simp) ?_
            try simp only [Act.put, List.setIfInBounds_toArray, List.set_cons_zero, List.set_cons_succ]
            refine hg_load 5 (some 58) rfl rfl (by kernel_rfl) (by kernel_rfl) (by kernel_rfl) (fun _ _ _ _ h => h) HS ((List.Sublist.cons_cons _ (List.nil_sublist _)).trans (List.sublist_cons_self _ _)) rfl 3 _ rfl 0 _ _ _ rfl i rfl _ sh3 (.int .i64 (cntN rs i : Int)) HGR.out ?_
            try simp only [Act.put, List.setIfInBounds_toArray, List.set_cons_zero, List.set_cons_succ]
            refine hk_x1 2 (by kernel_rfl) ?_
            refine hx_load 2 (some 55) rfl rfl rfl HS ((List.Sublist.cons_cons _ (List.nil_sublist _)).trans (List.sublist_cons_self _ _)) 3 _ rfl 0 _ _ _ rfl i rfl _ sh3 (.int .i64 (cntN PR i : Int)) HGP.out ?_
            try simp only [Act.put, List.setIfInBounds_toArray, List.set_cons_zero, List.set_cons_succ]
            refine hg_reg 6 (some 59) rfl rfl (by kernel_rfl) (by kernel_rfl) (by kernel_rfl) (fun _ _ _ _ h => h) HS ((List.Sublist.cons_cons _ (List.nil_sublist _)).trans (List.sublist_cons_self _ _)) (.int .i64 ((cntN PR i : Int) + (cntN rs i : Int))) rfl (fun _ => by go_simp; exact IntWalk.i64_in _ (by omega)) ?_
            try simp only [Act.put, List.setIfInBounds_toArray, List.set_cons_zero, List.set_cons_succ]
            refine hg_reg 7 (some 60) rfl rfl (by kernel_rfl) (by kernel_rfl) (by kernel_rfl) (fun _ _ _ _ h => h) HS ((List.Sublist.cons_cons _ (List.nil_sublist _)).trans (List.sublist_cons_self _ _)) (.pointer (some ⟨b6, i, none⟩)) rfl (fun _ => by go_simp) ?_
            try simp only [Act.put, List.setIfInBounds_toArray, List.set_cons_zero, List.set_cons_succ]
            refine hk_x1 8 (by kernel_rfl) ?_
            refine hg_store1 8 rfl rfl HS 3 _ _ rfl rfl 0 _ _ _ rfl i rfl (.int .i64 ((cntN PR i : Int) + (cntN rs i : Int))) rfl sh3 rfl (by rw [HLM.out]; exact Nat.ble_eq_true_of_le (by omega)) ((List.Sublist.cons_cons _ (List.nil_sublist _)).trans (List.sublist_cons_self _ _)) ?_
            clear HS; intro w HS
            try simp only [Act.put, List.setIfInBounds_toArray, List.set_cons_zero, List.set_cons_succ]
            refine hk_done (by kernel_rfl) ?_
            replace HS : Hid (St (some c) q w2 w ((b6, 27, (mixV PR rs i).set i (.int .i64 ((cntN PR i : Int) + (cntN rs i : Int)))) :: (b10, 27, cntV rs) :: (lra ++ ((b8, 37, repL (Value.slice aor m cpr)) :: (lrr ++ (lrt ++ (lrl2 ++ RB))))))) := HS
            rw [HST.out] at HS
            go_wp2_with (refine sx_load HS rfl 3 _ rfl 1 _ _ _ rfl i rfl _ sh3 (.int .i64 (cntN rs i : Int)) HGR.out ?_)
            go_roundw
            case rel => exact ⟨i + 1, by omega, by go_num, by rw [allN]; go_num, HS⟩
            case measure => simp [intOf]; omega
          · have hi7 : i = 7 := by omega
            subst hi7
            have hall : ((allN rs 7 : Nat) : Int) = (m : Int) := by rw [allN_end, HMR.out]
            have HALL := Lib.hid hall
            clear hall
            rw [HALL.out]
            replace HS : Hid (St (some c) q w2 wr ((b6, 27, cntV (PR ++ rs)) :: (b10, 27, cntV rs) :: (lra ++ ((b8, 37, repL (Value.slice aor m cpr)) :: (lrr ++ (lrt ++ (lrl2 ++ RB))))))) := Lib.hid (by have h := HS.out; rw [mixV_end] at h; exact h)
            have hnm : ((m : Int) != (m : Int)) = false := bne_self_eq_false _
            go_wp2_with (refine sx_load HS rfl 29 _ rfl (lra.length + 2) b8 37 (repL (Value.slice aor m cpr)) (by simp) 6 rfl _ sh29 (Value.slice aor m cpr) rfl ?_)
            have e1 : (rss ++ [rs]).flatten = PR ++ rs := by rw [HPR.out]; simp
            replace HS : Hid (St (some c) q w2 wr (lra ++ (lrl2 ++ ((lrr ++ RB) ++ [(b6, 27, cntV (rss ++ [rs]).flatten)])))) := Lib.hid (by rw [e1]; exact HS.out.give)
            have HLK2 : Hid (Link (lrr ++ RB) (vals ++ [(Value.slice aor m cpr)]) (rss ++ [rs])) := (HLK.out.mono (fun e he => List.mem_append_right _ he)).append (HRK.out.mono (fun e he => List.mem_append_left _ he))
            have HTK2 : Hid (Link (lrr ++ RB) tv2 ((tss.take k ++ [rs]) ++ tss.drop k)) := Lib.hid (by rw [HTV2.out]; exact (((HTK.out.take k).mono (fun e he => List.mem_append_right _ he)).append (HRK.out.mono (fun e he => List.mem_append_left _ he))).append ((HTK.out.drop k).mono (fun e he => List.mem_append_right _ he)))
            have HRL2 : Hid (RowEnt 37 7 lrl2 vl2 (vals ++ [(Value.slice aor m cpr)]).length ((vals ++ [(Value.slice aor m cpr)]).map repL).flatten) := Lib.hid (by have h := HRL.out; rw [HNL.out] at h; rw [List.map_append, List.flatten_append, List.length_append]; simpa using h)
            have HONE2 : Hid (∀ v ∈ tv2, v.oneCell' = true) := ones_turn HONE.out HTV2.out rfl
            have H42 : Hid (∀ x ∈ rss ++ [rs], x.length ≤ 4) := four_more H4.out hrl
            go_roundw
            case rel => exact ⟨j, rss ++ [rs], (tss.take k ++ [rs]) ++ tss.drop k, vals ++ [(Value.slice aor m cpr)], tv2, lrl2, lra, lrr ++ RB, by go_num, by rw [List.length_append]; simp; omega, turn_perm HPM.out k rs, H42.out, HLK2, HTK2, HONE2, HS, HRL2, HRA⟩
            case measure => simp [intOf]
end Go.Proofs.Ytmipkjgilikcnaa
