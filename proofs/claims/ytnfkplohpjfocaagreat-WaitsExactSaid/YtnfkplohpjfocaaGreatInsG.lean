/-
  The contract of slices.Insert on grants of the call's own, one new grant, wherever it goes.
-/
import Derived.Test.YtnfkplohpjfocaaGreatRowM
set_option linter.unusedVariables false
set_option linter.unusedSimpArgs false
namespace Go.Proofs.YtnfkplohpjfocaaGreat
open Go.RowKit
theorem run_ov {o : Oper} {a : Act} {w : World} {x y : Operand} {ts : Array TypeId} (ho : o.op = .call { callee := .value (.func 79), args := #[x, y], argTypes := ts }) (b gq of lb cb : Nat) (T2 : TypeId) (g : G) (cs : List Value) (hB : PBox w b 29 g.lst) (hQ : PBox w gq T2 cs) (hne : b ≠ gq) (hc : cs.length ≠ 0)
    (hx : a.eval x = .slice (some ⟨b, 0, none⟩) 1 1) (hy : a.eval y = .slice (some ⟨gq, of, none⟩) lb cb) : (execOp a.eval o).run Tryz.prog w = .ok (.value (.bool false)) w := by
  have h := run_overlaps_grants w b gq of lb cb T2 g cs hB hQ hne hc
  have hfv : a.eval (.func 79) = .func (.func 79) #[] #[] := rfl
  unfold execOp
  simp only [ho, resolve, Deferred.ofValue, invoke, hfv, Sem.run_bind, Sem.run_pure, Result.andThen_ok, Array.empty_append, Array.append_empty, List.map_toArray, List.map_cons, List.map_nil, hx, hy, h]
theorem own_ne {cc : Option Nat} {q : CodeRow} {w0 w : World} {front ll : List (Nat × TypeId × List Value)} {e f : Nat × TypeId × List Value} (h : St cc q w0 w (front ++ ([f] ++ ll))) (he : e ∈ front) : e.1 ≠ f.1 := by
  have hp := (Bx_iff.1 h.own).2
  rw [List.pairwise_append] at hp
  exact fun k => hp.2.2 e he f (by simp) k.symm
theorem sliced_is {g off k h cap s off' l c : Nat} (hk : k < cap) (ho : off' = off + k * s) (hl : l = h - k) (hc : c = cap - k) : Value.slice (some ⟨g, off', none⟩) l c = sliced (some ⟨g, off, none⟩) k h cap s := by
  rw [sliced_at hk, ho, hl, hc]
/-- What a grown block holds behind both copies. -/
theorem ins_grow {α : Type} (A X C M J : List α) (hM : M.length = X.length + C.length) :
    (((A ++ (M ++ J)).take A.length ++ X ++ (A ++ (M ++ J)).drop (A.length + X.length)).take (A.length + X.length) ++ C ++ ((A ++ (M ++ J)).take A.length ++ X ++ (A ++ (M ++ J)).drop (A.length + X.length)).drop (A.length + X.length + C.length)) = [] ++ (A ++ (X ++ C) ++ J) := by
  have e0 : (A ++ (M ++ J)).take A.length = A := by simp
  have e1 : (A ++ (M ++ J)).drop (A.length + X.length) = M.drop X.length ++ J := by rw [drop_past, List.drop_append_of_le_length (by omega)]
  rw [e0, e1]
  have e2 : (A ++ X ++ (M.drop X.length ++ J)).take (A.length + X.length) = A ++ X := by rw [← List.length_append, List.take_left]
  have e3 : (A ++ X ++ (M.drop X.length ++ J)).drop (A.length + X.length + C.length) = J := by
    rw [← List.length_append, drop_past]
    have : (M.drop X.length).length = C.length := by rw [List.length_drop]; omega
    rw [← this, List.drop_left]
  rw [e2, e3]
  simp
set_option maxHeartbeats 4000000 in
set_option maxRecDepth 100000 in
theorem gs_insert (q : CodeRow) (w0 w : World) (front lr ll : List (Nat × TypeId × List Value)) (v : Value) (gs : List G) (g : G) (b i : Nat) (hst : St none q w0 w (front ++ (lr ++ ll))) (hr : OwnRow 29 4 lr v gs.length (gL gs)) (hb : (b, 29, g.lst) ∈ front) (hi : i ≤ gs.length) (hlen : gs.length ≤ 1000000) :
    Calls Tryz.prog 57 #[v, .int .i64 (i : Int), .slice (some ⟨b, 0, none⟩) 1 1] w (InsPost q w0 front ll (gs.take i ++ g :: gs.drop i)) := by
  by_cases hie : i = gs.length
  · have h := gs_insert_end q w0 w front lr ll v gs g b hst hr hb hlen
    rw [hie, List.take_length, List.drop_length]
    exact h
  obtain ⟨ie, hie1, hiz, his, hib⟩ := info_grant
  have HIE := Lib.hid hie1
  have HIZ := Lib.hid hiz
  have HIS := Lib.hid his
  have HIB := Lib.hid hib
  clear hie1 hiz his hib
  obtain ⟨hxl, ⟨_, _, h0⟩ | ⟨gq, cap, pre, junk, rfl, rfl, hnc, hcm, hj⟩⟩ := hr
  · omega
  have HNE : Hid (b ≠ gq) := Lib.hid (own_ne (f := (gq, _, _)) hst hb)
  obtain ⟨n, hn⟩ : ∃ n, n = gs.length := ⟨_, rfl⟩
  obtain ⟨A, hA⟩ : ∃ A, A = gL (gs.take i) := ⟨_, rfl⟩
  obtain ⟨C, hC⟩ : ∃ C, C = gL (gs.drop i) := ⟨_, rfl⟩
  obtain ⟨ld, hld⟩ : ∃ ld, ld = n - i := ⟨_, rfl⟩
  have hAl : A.length = i * 4 := by rw [hA, gL_len, List.length_take]; congr 1; omega
  have hCl : C.length = ld * 4 := by rw [hC, gL_len, List.length_drop, hld, hn]
  have hcut : gL gs = A ++ C := by rw [hA, hC, ← gL_append, List.take_append_drop]
  have HC1 : Hid (C.all (·.oneCell') = true) := Lib.hid (by rw [hC]; exact gL_one' _)
  have HG1 : Hid (g.lst.all (·.oneCell') = true) := Lib.hid rfl
  rw [hcut] at hst
  have HFIN : Hid (gL (gs.take i ++ g :: gs.drop i) = A ++ (g.lst ++ C)) := Lib.hid (by rw [gL_append, gL_cons, hA, hC])
  have HFL : Hid ((gs.take i ++ g :: gs.drop i).length = n + 1) := Lib.hid (by rw [hn]; simp; omega)
  have HBB : Hid (∀ (w : World) (row : List Value), St none q w0 w (front ++ ([(gq, 29, row)] ++ ll)) → PBox w b 29 g.lst) := Lib.hid fun w row h => ((Bx_iff.1 h.own).1 (b, 29, g.lst) (by simp [hb])).2
  rw [← hn] at hj hnc hi hlen hie ⊢
  have hil : i < n := by omega
  have hl1 : i + ld ≤ n := by omega
  have hl2 : n ≤ i + ld := by omega
  have HS : Hid (St none q w0 w (front ++ ([(gq, 29, pre ++ (A ++ (C ++ junk)))] ++ ll))) := Lib.hid (by rw [List.append_assoc] at hst; exact hst)
  have HAL := Lib.hid hAl
  have HCL := Lib.hid hCl
  have HJ := Lib.hid hj
  have hcm2 : cap ≤ 9223372036854775807 := hcm
  obtain ⟨off, hoff⟩ : ∃ off, off = pre.length := ⟨_, rfl⟩
  have HOFF := Lib.hid hoff
  rw [← hoff]
  have hic : i < cap := by omega
  clear hcut hst hxl hn hA hC hAl hCl hj hoff hcm hld hie hb
  have HCC : Hid (∀ (w : World) (L : List (Nat × TypeId × List Value)), St none q w0 w (L ++ ([(gq, 29, pre ++ (A ++ (C ++ junk)))] ++ ll)) → ∀ (j : Nat) (u : Value), C[j]? = some u → w.cell? ((⟨gq, off + i * 4, none⟩ : Addr).add j) = some u) := Lib.hid fun w L h => by
    refine part_cells (pre := pre ++ A) (xs := C) (junk := junk) (ll := ll) (front := L) (E := 29) (g := gq) (by simpa using h) ?_
    have h1 := HOFF.out; have h2 := HAL.out
    simp only [List.length_append]; omega
  by_cases hroom : n + 1 ≤ cap
  · have hi1c : i + 1 < cap + 1 := by omega
    have hi2c : i + 1 < cap := by omega
    have HJK : Hid (4 ≤ junk.length) := Lib.hid (by rw [HJ.out]; omega)
    go_enter Tryz.func57, Tryz.ntmps57
    go_wp2_with (first | (refine sx_run rfl (.slice (some ⟨gq, off + i * 4, none⟩) ld (cap - i)) (run_sl_lo (ao := some ⟨gq, off, none⟩) (n := n) (cap := cap) (k := i) (s := 4) rfl Tryz.underlying23 (by kernel_rfl) rfl rfl (by omega) (sliced_is hic rfl (by omega) rfl)) ?_) | (refine sx_run rfl (.slice (some ⟨gq, off, none⟩) (n + 1) cap) (run_sl_hi (n := n) (s := 4) rfl Tryz.underlying23 (by kernel_rfl) rfl rfl (by omega) (sliced_hi4 _ _ _ 4).symm) ?_) | (refine sx_run rfl (.slice (some ⟨gq, off + (i + 1) * 4, none⟩) ld (cap - (i + 1))) (run_sl_lo (ao := some ⟨gq, off, none⟩) (n := n + 1) (cap := cap) (k := i + 1) (s := 4) rfl Tryz.underlying23 (by kernel_rfl) rfl rfl (by omega) (sliced_is hi2c rfl (by omega) rfl)) ?_) | (refine sx_run rfl (.bool false) (run_ov (x := .tmp 61) (y := .tmp 66) rfl b gq (off + (i + 1) * 4) ld (cap - (i + 1)) 29 g (pre ++ (A ++ (C ++ junk))) (HBB.out _ _ HS.out) ((Bx_iff.1 HS.out.own).1 (gq, 29, _) (by simp)).2 HNE.out (by have h1 := HJK.out; simp only [List.length_append]; omega) rfl rfl) ?_))
    refine hg_begin [] HS (by kernel_rfl) ?_
    clear HS; intro w HS
    refine hg_reg 0 (some 69) rfl rfl (by kernel_rfl) (by kernel_rfl) (by kernel_rfl) (fun _ _ _ _ h => h) HS (List.nil_sublist _) (.slice (some ⟨gq, off, none⟩) (n + 1) cap) rfl (fun _ => by rfl) ?_
    try simp only [Act.put, List.setIfInBounds_toArray, List.set_cons_zero, List.set_cons_succ]
    refine hg_reg 1 (some 70) rfl rfl (by kernel_rfl) (by kernel_rfl) (by kernel_rfl) (fun _ _ _ _ h => h) HS (List.nil_sublist _) (.int .i64 (i : Int)) rfl (fun _ => by rfl) ?_
    try simp only [Act.put, List.setIfInBounds_toArray, List.set_cons_zero, List.set_cons_succ]
    refine hg_reg 2 (some 71) rfl rfl (by kernel_rfl) (by kernel_rfl) (by kernel_rfl) (fun _ _ _ _ h => h) HS (List.nil_sublist _) (.int .i64 1) rfl (fun _ => by rfl) ?_
    try simp only [Act.put, List.setIfInBounds_toArray, List.set_cons_zero, List.set_cons_succ]
    refine hg_reg 3 (some 72) rfl rfl (by kernel_rfl) (by kernel_rfl) (by kernel_rfl) (fun _ _ _ _ h => h) HS (List.nil_sublist _) (.int .i64 ((i + 1 : Nat) : Int)) rfl (fun _ => by go_simp; exact IntWalk.i64_in _ (by omega)) ?_
    try simp only [Act.put, List.setIfInBounds_toArray, List.set_cons_zero, List.set_cons_succ]
    refine hg_reg 4 (some 73) rfl rfl (by kernel_rfl) (by kernel_rfl) (by kernel_rfl) (fun _ _ _ _ h => h) HS (List.nil_sublist _) (.slice (some ⟨gq, off + (i + 1) * 4, none⟩) ld (cap - (i + 1))) rfl (fun _ => by exact run_sl_lo (ao := some ⟨gq, off, none⟩) (n := n + 1) (cap := cap) (k := i + 1) (s := 4) rfl Tryz.underlying23 (by kernel_rfl) rfl rfl (by omega) (sliced_is hi2c rfl (by omega) rfl)) ?_
    try simp only [Act.put, List.setIfInBounds_toArray, List.set_cons_zero, List.set_cons_succ]
    refine hg_reg 5 (some 74) rfl rfl (by kernel_rfl) (by kernel_rfl) (by kernel_rfl) (fun _ _ _ _ h => h) HS (List.nil_sublist _) (.slice (some ⟨gq, off, none⟩) (n + 1) cap) rfl (fun _ => by rfl) ?_
    try simp only [Act.put, List.setIfInBounds_toArray, List.set_cons_zero, List.set_cons_succ]
    refine hg_reg 6 (some 75) rfl rfl (by kernel_rfl) (by kernel_rfl) (by kernel_rfl) (fun _ _ _ _ h => h) HS (List.nil_sublist _) (.int .i64 (i : Int)) rfl (fun _ => by rfl) ?_
    try simp only [Act.put, List.setIfInBounds_toArray, List.set_cons_zero, List.set_cons_succ]
    refine hg_reg 7 (some 76) rfl rfl (by kernel_rfl) (by kernel_rfl) (by kernel_rfl) (fun _ _ _ _ h => h) HS (List.nil_sublist _) (.slice (some ⟨gq, off + i * 4, none⟩) (ld + 1) (cap - i)) rfl (fun _ => by exact run_sl_lo (ao := some ⟨gq, off, none⟩) (n := n + 1) (cap := cap) (k := i) (s := 4) rfl Tryz.underlying23 (by kernel_rfl) rfl rfl (by omega) (sliced_is hic rfl (by omega) rfl)) ?_
    try simp only [Act.put, List.setIfInBounds_toArray, List.set_cons_zero, List.set_cons_succ]
    refine hk_x1 8 (by kernel_rfl) ?_
    refine hg_copy (front := front) (ll := ll) 8 (some 77) rfl rfl rfl HS _ _ 23 23 rfl 4 Tryz.underlying23 (by kernel_rfl) (off + (i + 1) * 4) ld (cap - (i + 1)) rfl ⟨gq, off + i * 4, none⟩ (ld + 1) (cap - i) rfl ld (by show ld = min (ld + 1) ld; omega) C HCL.out (HCC.out _ front HS.out) (by have h1 := HAL.out; have h3 := HCL.out; have h4 := HJK.out; have h5 := HOFF.out; simp only [List.length_append, h1, h3]; omega) (fun u hu => (List.all_eq_true.1 HC1.out) u hu) (List.nil_sublist _) ?_
    clear HS; intro w HS
    try simp only [Act.put, List.setIfInBounds_toArray, List.set_cons_zero, List.set_cons_succ]
    refine hk_done (by kernel_rfl) ?_
    go_wp2_with (first | (refine sx_run rfl (.slice (some ⟨gq, off + i * 4, none⟩) (ld + 1) (cap - i)) (run_sl_lo (ao := some ⟨gq, off, none⟩) (n := n + 1) (cap := cap) (k := i) (s := 4) rfl Tryz.underlying23 (by kernel_rfl) rfl rfl (by omega) (sliced_is hic rfl (by omega) rfl)) ?_) | (refine sx_copy HS (by rfl) (.tmp 80) (.tmp 81) 23 23 rfl 4 Tryz.underlying23 (by kernel_rfl) (off + i * 4) (ld + 1) (cap - i) rfl ⟨b, 0, none⟩ 1 1 rfl 1 (by show 1 = min 1 (ld + 1); omega) g.lst rfl (fun j u hj => by rw [addr_add, Nat.zero_add]; exact (HBB.out _ _ HS.out).cell hj) (by have h1 := HAL.out; have h3 := HCL.out; have h4 := HJK.out; have h5 := HOFF.out; have h6 : g.lst.length = 4 := rfl; simp only [List.length_append, List.length_take, List.length_drop, h1, h3, h6]; omega) (fun u hu => (List.all_eq_true.1 HG1.out) u hu) ?_; clear HS; intro w HS))
    go_ret
    have h := HS.out
    have hX : g.lst.length = 4 := rfl
    have hPA : (pre ++ A).length = off + i * 4 := by rw [List.length_append, HAL.out, HOFF.out]
    have e1 : pre ++ (A ++ (C ++ junk)) = (pre ++ A) ++ (C ++ junk) := by rw [List.append_assoc]
    rw [e1, show off + (i + 1) * 4 = (pre ++ A).length + g.lst.length by rw [hPA, hX]; omega, show off + i * 4 = (pre ++ A).length from hPA.symm, ins_room (pre ++ A) C junk g.lst (by rw [hX]; exact HJK.out)] at h
    refine ⟨_, _, rfl, h, ?_⟩
    rw [HFL.out, HFIN.out]
    refine ⟨?_, .inr ⟨gq, cap, pre, junk.drop 4, ?_, (by rw [← HOFF.out]; rfl), hroom, hcm2, ?_⟩⟩
    · simp only [List.length_append, HAL.out, hX, HCL.out]; omega
    · rw [hX]; simp
    · rw [List.length_drop, HJ.out]; omega
  · have hgr : cap < n + 1 := by omega
    go_enter Tryz.func57, Tryz.ntmps57
    go_wp2_with (first | (refine sx_run rfl (.slice (some ⟨gq, off + i * 4, none⟩) ld (cap - i)) (run_sl_lo (ao := some ⟨gq, off, none⟩) (n := n) (cap := cap) (k := i) (s := 4) rfl Tryz.underlying23 (by kernel_rfl) rfl rfl (by omega) (sliced_is hic rfl (by omega) rfl)) ?_) | (refine sx_run rfl (.slice (some ⟨gq, off, none⟩) i cap) (run_sl_hi (n := n) (s := 4) rfl Tryz.underlying23 (by kernel_rfl) rfl rfl (by omega) (sliced_hi4 _ _ _ 4).symm) ?_) | (at_builtin; (refine sx_appendZ HS (by rfl) _ _ 23 3 rfl 29 ie _ 4 Tryz.underlying23 Tryz.underlying3 HIE.out HIZ.out HIS.out (by omega) rfl ⟨gq, off, none⟩ i cap (ld + 1) rfl (congrArg (Value.int .i64) (show ((n : Int) + 1 - i) = ((ld + 1 : Nat) : Int) by omega)) A HAL.out (part_cells HS.out HOFF.out) (by omega) (by omega) (by unfold maxLen; omega) (Nat.le_trans (Nat.mul_le_mul (show i + (ld + 1) ≤ 1000001 by omega) HIB.out) (by decide)) ?_); clear HS; intro w b9 cap2 mid jk HS hmid hc2 hc3 hjk; have HMID := Lib.hid hmid; have HJK := Lib.hid hjk; have HC3 := Lib.hid hc3; rw [show i + (ld + 1) = n + 1 by omega] at hc2 ⊢; clear hmid hjk hc3; have hic2 : i < cap2 := by omega) | (refine sx_run rfl (.slice (some ⟨b9, i * 4, none⟩) (ld + 1) (cap2 - i)) (run_sl_lo (ao := some ⟨b9, 0, none⟩) (n := n + 1) (cap := cap2) (k := i) (s := 4) rfl Tryz.underlying23 (by kernel_rfl) rfl rfl (by omega) (sliced_is hic2 (by omega) (by omega) rfl)) ?_) | (refine sx_copy (front := []) (ll := front ++ ([(gq, 29, pre ++ (A ++ (C ++ junk)))] ++ ll)) HS (by rfl) (.tmp 43) (.tmp 44) 23 23 rfl 4 Tryz.underlying23 (by kernel_rfl) (i * 4) (ld + 1) (cap2 - i) rfl ⟨b, 0, none⟩ 1 1 rfl 1 (by show 1 = min 1 (ld + 1); omega) g.lst rfl (fun j u hj => by rw [addr_add, Nat.zero_add]; exact (HBB.out _ _ (HS.out.drop 1)).cell hj) (by have h1 := HAL.out; have h2 := HMID.out; simp only [List.length_append, h1, h2]; show i * 4 + 4 ≤ _; omega) (fun u hu => (List.all_eq_true.1 HG1.out) u hu) ?_; clear HS; intro w HS))
    refine hg_begin [] HS (by kernel_rfl) ?_
    clear HS; intro w HS
    refine hg_reg 0 (some 46) rfl rfl (by kernel_rfl) (by kernel_rfl) (by kernel_rfl) (fun _ _ _ _ h => h) HS (List.nil_sublist _) (.slice (some ⟨b9, 0, none⟩) (n + 1) cap2) rfl (fun _ => by rfl) ?_
    try simp only [Act.put, List.setIfInBounds_toArray, List.set_cons_zero, List.set_cons_succ]
    refine hg_reg 1 (some 47) rfl rfl (by kernel_rfl) (by kernel_rfl) (by kernel_rfl) (fun _ _ _ _ h => h) HS (List.nil_sublist _) (.int .i64 (i : Int)) rfl (fun _ => by rfl) ?_
    try simp only [Act.put, List.setIfInBounds_toArray, List.set_cons_zero, List.set_cons_succ]
    refine hg_reg 2 (some 48) rfl rfl (by kernel_rfl) (by kernel_rfl) (by kernel_rfl) (fun _ _ _ _ h => h) HS (List.nil_sublist _) (.int .i64 1) rfl (fun _ => by rfl) ?_
    try simp only [Act.put, List.setIfInBounds_toArray, List.set_cons_zero, List.set_cons_succ]
    refine hg_reg 3 (some 49) rfl rfl (by kernel_rfl) (by kernel_rfl) (by kernel_rfl) (fun _ _ _ _ h => h) HS (List.nil_sublist _) (.int .i64 ((i + 1 : Nat) : Int)) rfl (fun _ => by go_simp; exact IntWalk.i64_in _ (by omega)) ?_
    try simp only [Act.put, List.setIfInBounds_toArray, List.set_cons_zero, List.set_cons_succ]
    refine hg_reg 4 (some 50) rfl rfl (by kernel_rfl) (by kernel_rfl) (by kernel_rfl) (fun _ _ _ _ h => h) HS (List.nil_sublist _) (.slice (some ⟨b9, (i + 1) * 4, none⟩) ld (cap2 - (i + 1))) rfl (fun _ => by exact run_sl_lo (ao := some ⟨b9, 0, none⟩) (n := n + 1) (cap := cap2) (k := i + 1) (s := 4) rfl Tryz.underlying23 (by kernel_rfl) rfl rfl (by omega) (sliced_is (by omega) (by omega) (by omega) rfl)) ?_
    try simp only [Act.put, List.setIfInBounds_toArray, List.set_cons_zero, List.set_cons_succ]
    refine hg_reg 5 (some 51) rfl rfl (by kernel_rfl) (by kernel_rfl) (by kernel_rfl) (fun _ _ _ _ h => h) HS (List.nil_sublist _) (.slice (some ⟨gq, off, none⟩) n cap) rfl (fun _ => by rfl) ?_
    try simp only [Act.put, List.setIfInBounds_toArray, List.set_cons_zero, List.set_cons_succ]
    refine hg_reg 6 (some 52) rfl rfl (by kernel_rfl) (by kernel_rfl) (by kernel_rfl) (fun _ _ _ _ h => h) HS (List.nil_sublist _) (.int .i64 (i : Int)) rfl (fun _ => by rfl) ?_
    try simp only [Act.put, List.setIfInBounds_toArray, List.set_cons_zero, List.set_cons_succ]
    refine hg_reg 7 (some 53) rfl rfl (by kernel_rfl) (by kernel_rfl) (by kernel_rfl) (fun _ _ _ _ h => h) HS (List.nil_sublist _) (.slice (some ⟨gq, off + i * 4, none⟩) ld (cap - i)) rfl (fun _ => by exact run_sl_lo (ao := some ⟨gq, off, none⟩) (n := n) (cap := cap) (k := i) (s := 4) rfl Tryz.underlying23 (by kernel_rfl) rfl rfl (by omega) (sliced_is hic rfl (by omega) rfl)) ?_
    try simp only [Act.put, List.setIfInBounds_toArray, List.set_cons_zero, List.set_cons_succ]
    refine hk_x1 8 (by kernel_rfl) ?_
    refine hg_copy (front := []) (ll := front ++ ([(gq, 29, pre ++ (A ++ (C ++ junk)))] ++ ll)) 8 (some 54) rfl rfl rfl HS _ _ 23 23 rfl 4 Tryz.underlying23 (by kernel_rfl) ((i + 1) * 4) ld (cap2 - (i + 1)) rfl ⟨gq, off + i * 4, none⟩ ld (cap - i) rfl ld (by show ld = min ld ld; omega) C HCL.out (HCC.out _ ((b9, _, _) :: front) HS.out) (by have h1 := HAL.out; have h2 := HMID.out; have h3 := HCL.out; have h4 : g.lst.length = 4 := rfl; simp only [List.length_append, List.length_take, List.length_drop, h1, h2, h3, h4]; omega) (fun u hu => (List.all_eq_true.1 HC1.out) u hu) (List.nil_sublist _) ?_
    clear HS; intro w HS
    try simp only [Act.put, List.setIfInBounds_toArray, List.set_cons_zero, List.set_cons_succ]
    refine hk_done (by kernel_rfl) ?_
    go_wp2_with fail
    go_ret
    have h := HS.out
    have hX : g.lst.length = 4 := rfl
    rw [show (i + 1) * 4 = A.length + g.lst.length by rw [HAL.out, hX]; omega, show i * 4 = A.length from HAL.out.symm, ins_grow A g.lst C mid jk (by rw [HMID.out, hX, HCL.out]; omega)] at h
    refine ⟨_, [(b9, 29, [] ++ (A ++ (g.lst ++ C) ++ jk))], rfl, ?_, ?_⟩
    · refine St.perm (h.sub (l := (b9, 29, [] ++ (A ++ (g.lst ++ C) ++ jk)) :: (front ++ ll)) ?_) List.perm_middle
      exact List.Sublist.cons_cons _ (List.Sublist.append_left (List.sublist_append_right _ ll) front)
    · rw [HFL.out, HFIN.out]
      refine ⟨?_, .inr ⟨b9, cap2, [], jk, rfl, rfl, hc2, HC3.out, ?_⟩⟩
      · simp only [List.length_append, HAL.out, hX, HCL.out]; omega
      · rw [HJK.out]; congr 1; omega
end Go.Proofs.YtnfkplohpjfocaaGreat
