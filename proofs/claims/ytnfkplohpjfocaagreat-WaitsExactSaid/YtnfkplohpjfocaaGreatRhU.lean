/-
  Rows of pairs; the contract of the reference's Edges.
-/
import Derived.Test.YtnfkplohpjfocaaGreatRhV
import Derived.Test.YtnfkplohpjfocaaGreatShelf
set_option linter.unusedVariables false
set_option linter.unusedSimpArgs false
namespace Go.Proofs.YtnfkplohpjfocaaGreat
open Go.RowKit
def pLst (x : Int × Int) : List Value := [.int .i64 x.1, .int .i64 x.2]
def pFl (ps : List (Int × Int)) : List Value := (ps.map pLst).flatten
theorem pFl_append (a b : List (Int × Int)) : pFl (a ++ b) = pFl a ++ pFl b := by simp [pFl]
theorem pFl_one (x : Int × Int) : pFl [x] = pLst x := by simp [pFl]
theorem pl2 (ps : List (Int × Int)) : ∀ r ∈ ps.map pLst, r.length = 2 := fun r hr => by obtain ⟨v, _, rfl⟩ := List.mem_map.1 hr; rfl
/-- A slice that reads as these pairs. -/
def PsAt (w : World) (v : Value) (ps : List (Int × Int)) : Prop := SlAt w 2 v (ps.map pLst)
theorem PsAt.own {cc : Option Nat} {q : CodeRow} {w0 w : World} {L lr : List (Nat × TypeId × List Value)} {E : TypeId} {v : Value} {ps : List (Int × Int)} (h : St cc q w0 w L) (hm : ∀ e ∈ lr, e ∈ L) (hr : OwnRow E 2 lr v ps.length (pFl ps)) : PsAt w v ps :=
  OwnRow.at h hm (pl2 ps) (by rw [List.length_map]; exact hr)
def PsNew (ps : List (Int × Int)) (w0 : World) (v : Value) (w' : World) : Prop := ∃ lr, St none default w0 w' lr ∧ OwnRow 37 2 lr v ps.length (pFl ps)
theorem info_pair : ∃ ie, Tryz.prog.info? 37 = some ie ∧ ie.zero = some (.agg #[.int .i64 0, .int .i64 0]) ∧ ie.size = 2 ∧ ie.bytes ≤ 1000000 := by
  cases hie : Tryz.prog.info? 37 with
  | none => have h := zr37; rw [hie] at h; cases h
  | some ie =>
    have h1 := zr37
    have h2 : (Tryz.prog.info? 37).map (fun i => (i.size, Nat.ble i.bytes 1000000)) = some (2, true) := by kernel_rfl
    rw [hie] at h1 h2
    simp at h2
    exact ⟨ie, rfl, h1, h2.1, h2.2⟩
theorem build_pair (a b : Int) (w : World) : (Instr.buildSlice 35 1 ([(0, .agg #[.int .i64 a, .int .i64 b])] : List (Nat × Value)).toArray).run Tryz.prog w = .ok (.slice (some ⟨w.heap.size, 0, none⟩) 1 1) (w.alloc (.cells [.int .i64 a, .int .i64 b].toArray 37)) := by
  obtain ⟨ie, hie, hz, hs, _⟩ := info_pair
  refine run_buildSlice w 35 37 1 _ _ ie _ Tryz.underlying35 hie hz (by rw [hs]; decide) (by rw [hs]; decide) ?_
  rw [hs]
  have hr : Array.range (1 * 2) = #[0, 1] := by decide
  rw [hr]
  simp [Instr.fill, Value.cells]
/-- What a row of numbers of the call's own holds, wherever its blocks are as said. -/
theorem IsRow.form {E : TypeId} {w0 w : World} {l M : List (Nat × TypeId × List Value)} {v : Value} {ns : List Int} (h : OwnRow E 1 l v ns.length (ns.map iV)) (k : St none default w0 w M) (hm : ∀ e ∈ l, e ∈ M) : ∃ ao cap, v = .slice ao ns.length cap ∧ ns.length ≤ cap ∧ cap ≤ 9223372036854775807 ∧
    (0 < ns.length → ∃ g off, ao = some ⟨g, off, none⟩ ∧ ∀ (i : Nat) (x : Int), ns[i]? = some x → ∀ (w' : World) (M' : List (Nat × TypeId × List Value)), St none default w0 w' M' → (∀ e ∈ l, e ∈ M') → w'.cell? ⟨g, off + i, none⟩ = some (.int .i64 x)) := by
  obtain ⟨ao, cap, rfl, c1, c2, hat⟩ := (IsAt.own k hm h).get
  refine ⟨ao, cap, rfl, c1, c2, fun hn => ?_⟩
  obtain ⟨g, off, rfl, _⟩ := hat hn
  refine ⟨g, off, rfl, fun i x hx w' M' k' hm' => ?_⟩
  obtain ⟨ao2, cap2, e2, _, _, hat2⟩ := (IsAt.own k' hm' h).get
  obtain ⟨g2, o2, e3, hc⟩ := hat2 hn
  subst e3
  cases e2
  exact hc i x hx w' (Ext.refl _)
/-- The pairs so far. -/
def eAcc (nx : Int → List Int) (wl : List Int) (i : Nat) : List (Int × Int) := pairsF nx (wl.take i)
def eAcc2 (nx : Int → List Int) (wl : List Int) (i : Nat) (a : Int) (j : Nat) : List (Int × Int) := pairsF nx (wl.take i) ++ (rowP nx a).take j
theorem eAcc_zero (nx : Int → List Int) (wl : List Int) : eAcc nx wl 0 = [] := by simp [eAcc, pairsF]
theorem eAcc_end {nx : Int → List Int} {wl : List Int} {i : Nat} (h : wl.length ≤ i) : eAcc nx wl i = pairsF nx wl := by unfold eAcc; rw [List.take_of_length_le h]
theorem eAcc2_zero (nx : Int → List Int) (wl : List Int) (i : Nat) (a : Int) : eAcc2 nx wl i a 0 = eAcc nx wl i := by simp [eAcc, eAcc2]
theorem eAcc2_step {nx : Int → List Int} {wl : List Int} {i j : Nat} {a b : Int} (hb : (nx a)[j]? = some b) : eAcc2 nx wl i a (j + 1) = eAcc2 nx wl i a j ++ [(a, b)] := by
  have h : (rowP nx a)[j]? = some (a, b) := by unfold rowP; rw [List.getElem?_map, hb]; rfl
  unfold eAcc2
  rw [take_nx h, ← List.append_assoc]
theorem eAcc2_end {nx : Int → List Int} {wl : List Int} {i j : Nat} {a : Int} (ha : wl[i]? = some a) (hj : (nx a).length ≤ j) : eAcc2 nx wl i a j = eAcc nx wl (i + 1) := by
  have h : (rowP nx a).take j = rowP nx a := List.take_of_length_le (by unfold rowP; rw [List.length_map]; exact hj)
  unfold eAcc2 eAcc
  rw [take_nx ha, h]
  simp [pairsF]
theorem eAcc_len {nx : Int → List Int} (h : ∀ a, (nx a).length ≤ 1024) (wl : List Int) : ∀ i, (eAcc nx wl i).length ≤ i * 1024
  | 0 => by rw [eAcc_zero]; simp
  | i + 1 => by
    have ih := eAcc_len h wl i
    cases ha : wl[i]? with
    | none =>
      have e : eAcc nx wl (i + 1) = eAcc nx wl i := by
        have hl := List.getElem?_eq_none_iff.1 ha
        unfold eAcc
        rw [List.take_of_length_le hl, List.take_of_length_le (by omega)]
      rw [e, Nat.succ_mul]
      exact Nat.le_trans ih (Nat.le_add_right _ _)
    | some a =>
      have e : eAcc nx wl (i + 1) = eAcc nx wl i ++ rowP nx a := by unfold eAcc; rw [take_nx ha]; simp [pairsF]
      have hr : (rowP nx a).length ≤ 1024 := by unfold rowP; rw [List.length_map]; exact h a
      rw [e, List.length_append, Nat.succ_mul]
      exact Nat.add_le_add ih hr
theorem eAcc2_len {nx : Int → List Int} (h : ∀ a, (nx a).length ≤ 1024) (wl : List Int) (i : Nat) (a : Int) (j : Nat) : (eAcc2 nx wl i a j).length ≤ i * 1024 + 1024 := by
  have h1 := eAcc_len h wl i
  have h2 : ((rowP nx a).take j).length ≤ 1024 := by
    have h3 : (rowP nx a).length ≤ 1024 := by unfold rowP; rw [List.length_map]; exact h a
    rw [List.length_take]
    omega
  unfold eAcc2
  unfold eAcc at h1
  rw [List.length_append]
  omega
theorem forF_len (hs ws : List G) (a : Int) : (forF hs ws a).length ≤ 1024 := by
  unfold forF
  split
  · rename_i h
    have h1 := blockF_len hs ws a
    have h2 := validT_len h
    omega
  · simp
theorem waiters_le2 (hs ws : List G) : (waitersF hs ws).length ≤ 1024 := by
  unfold waitersF
  split
  · rename_i h
    have h1 := wAcc_len ws
    have h2 := validT_len h
    show (wAcc ws).length ≤ 1024
    omega
  · simp
set_option maxHeartbeats 8000000 in
set_option maxRecDepth 100000 in
theorem rf_edges (w0 : World) (vh vw : Value) (hs ws : List G) (h1 : GsAt w0 vh hs) (h2 : GsAt w0 vw ws) (hb1 : hs.length ≤ 40000) (hb2 : ws.length ≤ 40000) : Calls Tryz.prog 8 #[.agg #[vh, vw]] w0 (fun e w' => ∃ v', e = .returned v' ∧ Ext w0 w' ∧ PsAt w' v' (edgesR hs ws)) := by
  have HGh := Lib.hid h1
  have HBh := Lib.hid hb1
  obtain ⟨aoh, cph, rfl, hch1, hch2, hath⟩ := h1.get
  obtain ⟨nh, hnh⟩ : ∃ n, n = hs.length := ⟨_, rfl⟩
  rw [← hnh] at HGh hch1 hath hb1 ⊢
  have HNh := Lib.hid hnh
  have HATh := Lib.hid hath
  clear hnh hath h1
  have HGw := Lib.hid h2
  have HBw := Lib.hid hb2
  obtain ⟨aow, cpw, rfl, hcw1, hcw2, hatw⟩ := h2.get
  obtain ⟨nw, hnw⟩ : ∃ n, n = ws.length := ⟨_, rfl⟩
  rw [← hnw] at HGw hcw1 hatw hb2 ⊢
  have HNw := Lib.hid hnw
  have HATw := Lib.hid hatw
  clear hnw hatw h2
  have HS : Hid (St none default w0 w0 []) := St.start w0
  go_enter Tryz.func8, Tryz.ntmps8
  go_wp2_with (first | (refine sx_box HS rfl 25 (.tmp 0) rfl [.slice aoh nh cph, .slice aow nw cpw] rfl ?_; clear HS; intro w b1 HS) | (refine sx_loads HS (by rfl) 25 _ rfl 0 _ _ _ rfl 0 rfl 2 sh25 [.slice aoh nh cph, .slice aow nw cpw] rfl ⟨rfl, rfl, trivial⟩ ?_))
  replace HS : Hid (St none default w0 w [(b1, 25, [.slice aoh nh cph, .slice aow nw cpw])]) := HS
  refine (rf_waiters _ _ _ hs ws (HGh.out.ext HS.out.isExt) (HGw.out.ext HS.out.isExt) (by have := HBh.out; omega) (by have := HBw.out; omega)).mono ?_
  rintro e w9 ⟨v9, rfl, hnew⟩
  obtain ⟨hx9, he9⟩ := hnew.is
  replace HS := Lib.hid (HS.out.ext he9)
  clear hnew he9
  have HE01 := Lib.hid HS.out.isExt
  have HB1 : Hid (PBox w9 b1 25 [.slice aoh nh cph, .slice aow nw cpw]) := Lib.hid (HS.out.box (i := 0) rfl)
  replace HGh := Lib.hid (HGh.out.ext HE01.out)
  replace HGw := Lib.hid (HGw.out.ext HE01.out)
  obtain ⟨wl, hwl⟩ : ∃ l, l = waitersF hs ws := ⟨_, rfl⟩
  rw [← hwl] at hx9
  have HWL := Lib.hid hwl
  have hw2 : wl.length ≤ 1024 := by rw [hwl]; exact waiters_le2 hs ws
  clear hwl
  obtain ⟨ao9, cp9, rfl, hk1, hk2, hat9⟩ := hx9.get
  obtain ⟨n9, hn9⟩ : ∃ n, n = wl.length := ⟨_, rfl⟩
  rw [← hn9] at hk1 hat9 hw2 ⊢
  have HN9 := Lib.hid hn9
  have HAT9 := Lib.hid hat9
  clear hn9 hat9 hx9
  obtain ⟨w1, hw1⟩ : ∃ w1 : World, w1 = w9 := ⟨_, rfl⟩
  rw [← hw1] at HE01 HB1 HGh HGw HAT9
  replace HS : Hid (St none default w1 w9 []) := Lib.hid (by rw [hw1]; exact St.start w9)
  clear hw1
  obtain ⟨ie, hie, hiz, his, hib⟩ := info_pair
  have HIE := Lib.hid hie
  have HIZ := Lib.hid hiz
  have HIS := Lib.hid his
  have HIB := Lib.hid hib
  clear hie hiz his hib
  have HFL := Lib.hid (forF_len hs ws)
  go_wp2_with fail
  go_loopw [3, 11] (fun s3 s11 wr => ∃ (i : Nat) (lr : List (Nat × TypeId × List Value)), i ≤ n9 ∧ s11 = .int .i64 i ∧ Hid (OwnRow 37 2 lr s3 (eAcc (forF hs ws) wl i).length (pFl (eAcc (forF hs ws) wl i))) ∧ Hid (St none default w1 wr lr)) (fun _ s11 _ => n9 - (intOf s11).toNat)
  case atStart => exact ⟨0, [], Nat.zero_le _, rfl, Lib.hid (by rw [eAcc_zero]; exact OwnRow.nil), HS⟩
  case round =>
    clear HS
    obtain ⟨i, lr, hi, rfl, HR, HS⟩ := hrel
    by_cases hlt : i < n9
    · skip
      obtain ⟨a, ha⟩ := list_get_of_lt wl i n9 HN9.out.symm hlt
      obtain ⟨gq, off, rfl, hcell⟩ := HAT9.out (by omega)
      have HA := Lib.hid ha
      have HC := Lib.hid (hcell i a ha)
      clear hcell ha
      go_wp2_with (first | (refine sx_load1 (by rfl) 3 _ rfl gq (off + i) rfl _ sh3 (.int .i64 a) (HC.out _ HS.out.isExt) ?_) | (refine sx_loadsC (by rfl) 25 (.tmp 1) rfl b1 0 rfl 2 sh25 [.slice aoh nh cph, .slice aow nw cpw] rfl (fun j2 u2 hj2 => by rw [Nat.zero_add]; exact (HS.out.isExt.pbox HB1.out).cell hj2) ?_))
      refine (rf_forF _ _ _ hs ws (HGh.out.ext HS.out.isExt) (HGw.out.ext HS.out.isExt) HBh.out HBw.out a).mono ?_
      rintro e w7 ⟨v7, rfl, l7, hst, hr7⟩
      replace HS : Hid (St none default w1 w7 (lr ++ l7)) := Lib.hid ((HS.out.call hst).perm List.perm_append_comm)
      obtain ⟨ao7, cp7, rfl, hf1, hf2, hat7⟩ := IsRow.form hr7 HS.out (fun e he => List.mem_append_right _ he)
      obtain ⟨nn, hnn⟩ : ∃ n, n = (forF hs ws a).length := ⟨_, rfl⟩
      have hnl : nn ≤ 1024 := by rw [hnn]; exact HFL.out a
      rw [← hnn] at hf1 hat7 ⊢
      have HNN := Lib.hid hnn
      have HAT7 := Lib.hid hat7
      clear hnn hat7 hr7 hst
      go_wp2_with fail
      go_loopw [3, 19] (fun s3 s19 wx => ∃ (j : Nat) (lr : List (Nat × TypeId × List Value)), j ≤ nn ∧ s19 = .int .i64 j ∧ Hid (OwnRow 37 2 lr s3 (eAcc2 (forF hs ws) wl i a j).length (pFl (eAcc2 (forF hs ws) wl i a j))) ∧ Hid (St none default w1 wx (lr ++ l7))) (fun _ s19 _ => nn - (intOf s19).toNat)
      case atStart => exact ⟨0, lr, Nat.zero_le _, rfl, Lib.hid (by rw [eAcc2_zero]; exact HR.out), HS⟩
      case round =>
        clear HS HR lr
        obtain ⟨j, lr, hj, rfl, HR, HS⟩ := hrel
        obtain ⟨ao2, cp2, rfl, hd1, hd2⟩ := HR.out.form
        have hd3 : cp2 ≤ 9223372036854775807 := hd2
        obtain ⟨k, hk⟩ : ∃ k, k = (eAcc2 (forF hs ws) wl i a j).length := ⟨_, rfl⟩
        have hkl : k ≤ 1100000 := by have h1 := eAcc2_len HFL.out wl i a j; rw [← hk] at h1; omega
        rw [← hk] at HR hd1 ⊢
        have HK := Lib.hid hk
        clear hk hd2
        by_cases hlt2 : j < nn
        · skip
          obtain ⟨b, hb⟩ := list_get_of_lt (forF hs ws a) j nn HNN.out.symm hlt2
          obtain ⟨g7, o7, rfl, hcell7⟩ := HAT7.out (by omega)
          have HB := Lib.hid hb
          have HC7 := Lib.hid (hcell7 j b hb)
          clear hcell7 hb
          go_wp2_with (first | (refine sx_load1 (by rfl) 3 _ rfl g7 (o7 + j) rfl _ sh3 (.int .i64 b) (HC7.out _ _ HS.out (fun e he => List.mem_append_right _ he)) ?_) | (refine sx_build HS (by rfl) 35 37 1 [(0, .tmp 26)] rfl [(0, .agg #[.int .i64 a, .int .i64 b])] rfl [.int .i64 a, .int .i64 b] (fun w => build_pair a b w) ?_; clear HS; intro w bn HS) | (at_builtin; refine sx_appendO (front := [(bn, 37, [Value.int .i64 a, Value.int .i64 b])]) (lr := lr) (ll := l7) HS (by rfl) (.tmp 23) (.tmp 27) 35 rfl 37 ie _ 2 _ Tryz.underlying35 HIE.out HIZ.out HIS.out rfl rfl _ k (pFl (eAcc2 (forF hs ws) wl i a j)) rfl HR.out _ rfl 1 [Value.int .i64 a, Value.int .i64 b] (SrcAt.box (HS.out.box (i := 0) rfl) rfl rfl) (by unfold maxLen; omega) (Nat.le_trans (Nat.mul_le_mul (show k + 1 ≤ 1200001 by omega) HIB.out) (by decide)) ?_; clear HS; intro vv w lq HS HR2))
          have HR9 : Hid (OwnRow 37 2 lq vv (eAcc2 (forF hs ws) wl i a (j + 1)).length (pFl (eAcc2 (forF hs ws) wl i a (j + 1)))) := Lib.hid (by rw [eAcc2_step HB.out, pFl_append, pFl_one, List.length_append, ← HK.out]; exact HR2.out)
          replace HS : Hid (St none default w1 _ (lq ++ l7)) := Lib.hid (HS.out.drop 1)
          go_roundw
          case rel => exact ⟨j + 1, lq, by omega, by go_num, HR9, HS⟩
          case measure => simp [intOf]; omega
        · skip
          have hjn : j = nn := by omega
          subst hjn
          have HR9 : Hid (OwnRow 37 2 lr (.slice ao2 k cp2) (eAcc (forF hs ws) wl (i + 1)).length (pFl (eAcc (forF hs ws) wl (i + 1)))) := Lib.hid (by rw [← eAcc2_end HA.out (by rw [← HNN.out]; exact Nat.le_refl _), ← HK.out]; exact HR.out)
          go_wp2_with fail
          go_roundw
          case rel => exact ⟨i + 1, lr, by omega, by go_num, HR9, Lib.hid (HS.out.sub (List.sublist_append_left _ _))⟩
          case measure => simp [intOf]; omega
    · skip
      have hin : i = n9 := by omega
      subst hin
      have HE : Hid (eAcc (forF hs ws) wl i = edgesR hs ws) := Lib.hid (by rw [eAcc_end (by rw [← HN9.out]; exact Nat.le_refl _), HWL.out]; rfl)
      go_wp2_with fail
      go_ret
      exact ⟨_, rfl, HE01.out.trans HS.out.isExt, by have h := PsAt.own HS.out (fun e he => he) HR.out; rw [HE.out] at h; exact h⟩
end Go.Proofs.YtnfkplohpjfocaaGreat

namespace Go.Proofs.YtnfkplohpjfocaaGreat
open Go.RowKit
def cmpP (x y : Int × Int) : Int := if cmpI x.1 y.1 ≠ 0 then cmpI x.1 y.1 else cmpI x.2 y.2
theorem cmpP_lt {x y : Int × Int} : cmpP x y < 0 ↔ pL x y := by
  unfold cmpP cmpI pL
  by_cases h1 : x.1 < y.1
  · simp [h1]
  · by_cases h2 : y.1 < x.1
    · simp [h1, h2]; omega
    · by_cases h3 : x.2 < y.2
      · simp [h1, h2, h3]; omega
      · by_cases h4 : y.2 < x.2
        · simp [h1, h2, h3, h4]
        · simp [h1, h2, h3, h4]
theorem ltP_iff {x y : Int × Int} : ltOf cmpP x y = true ↔ pL x y := by
  unfold ltOf
  rw [decide_eq_true_eq]
  exact cmpP_lt
theorem ltP_no {x y : Int × Int} : ltOf cmpP x y = false ↔ ¬ pL x y := by
  rw [← ltP_iff]
  simp
theorem cmpP_swo : Go.Sort.SWO (ltOf cmpP) where
  irrefl x := ltP_no.2 (pL_irr x)
  trans x y z h k := by
    rw [ltP_iff] at *
    unfold pL at *
    omega
  ntrans x y z h k := by
    rw [ltP_no] at *
    unfold pL at *
    omega
set_option maxHeartbeats 1000000 in
theorem sl_compare (b1 b2 : Nat) (x y : Int × Int) (w : World) (h1 : w.cell? ⟨b1, 0, none⟩ = some (.int .i64 x.1)) (h2 : w.cell? ⟨b1, 1, none⟩ = some (.int .i64 x.2)) (h3 : w.cell? ⟨b2, 0, none⟩ = some (.int .i64 y.1)) (h4 : w.cell? ⟨b2, 1, none⟩ = some (.int .i64 y.2)) :
    Calls Tryz.prog 25 #[.slice (some ⟨b1, 0, none⟩) 2 2, .slice (some ⟨b2, 0, none⟩) 2 2] w fun e w' => e = .returned (.int .i64 (cmpP x y)) ∧ w = w' := by
  obtain ⟨x1, x2⟩ := x
  obtain ⟨y1, y2⟩ := y
  have hcp : cmpP (x1, x2) (y1, y2) = if cmpI x1 y1 ≠ 0 then cmpI x1 y1 else cmpI x2 y2 := rfl
  dsimp only at h1 h2 h3 h4
  have k1 := fun w => compare_any x1 y1 w
  have k2 := fun w => compare_any x2 y2 w
  obtain ⟨c1, e1⟩ : ∃ c, c = cmpI x1 y1 := ⟨_, rfl⟩
  obtain ⟨c2, e2⟩ : ∃ c, c = cmpI x2 y2 := ⟨_, rfl⟩
  rw [← e1, ← e2] at hcp
  simp only [← e1] at k1
  simp only [← e2] at k2
  have K1 := Lib.hid k1
  have K2 := Lib.hid k2
  have HCP := Lib.hid hcp
  clear e1 e2 k1 k2 hcp
  go_enter Tryz.func25, Tryz.ntmps25
  go_wp2
  go_loop [11] (fun s => s = .int .i64 0 ∨ (s = .int .i64 1 ∧ c1 = 0) ∨ (s = .int .i64 2 ∧ c1 = 0 ∧ c2 = 0)) (fun s => 2 - (intOf s).toNat)
  case atStart => exact .inl rfl
  case round =>
    rcases hrel with rfl | ⟨rfl, hc⟩ | ⟨rfl, hc, hd⟩
    · by_cases hc : c1 = 0
      · subst hc
        go_wp2_with (go_at_call 53; refine (K1.out _).mono ?_; rintro e w' ⟨rfl, rfl⟩)
        go_round
        case rel => exact .inr (.inl ⟨by go_num, by first | trivial | rfl⟩)
        case measure => simp [intOf]
      · have d : (c1 != 0) = true := by simp [hc]
        have HC0 := Lib.hid hc
        clear hc
        go_wp2_with (go_at_call 53; refine (K1.out _).mono ?_; rintro e w' ⟨rfl, rfl⟩)
        go_ret
        exact ⟨ret_int (by rw [HCP.out, if_pos HC0.out]), rfl⟩
    · subst hc
      by_cases hd : c2 = 0
      · subst hd
        go_wp2_with (go_at_call 53; refine (K2.out _).mono ?_; rintro e w' ⟨rfl, rfl⟩)
        go_round
        case rel => exact .inr (.inr ⟨by go_num, by first | trivial | rfl, by first | trivial | rfl⟩)
        case measure => simp [intOf]
      · have d : (c2 != 0) = true := by simp [hd]
        clear hd
        go_wp2_with (go_at_call 53; refine (K2.out _).mono ?_; rintro e w' ⟨rfl, rfl⟩)
        go_ret
        exact ⟨ret_int (by rw [HCP.out]; simp), rfl⟩
    · subst hc hd
      go_wp2
      go_ret
      exact ⟨ret_int (by rw [HCP.out]; simp), rfl⟩
set_option maxHeartbeats 1000000 in
set_option maxRecDepth 100000 in
theorem edges_cmp (x y : Int × Int) (w : World) : Calls Tryz.prog 24 #[.agg (pLst x).toArray, .agg (pLst y).toArray] w fun e w' => e = .returned (.int .i64 (cmpP x y)) ∧ ∃ q os', w' = Go.Sort.grow (w.drewN q) os' := by
  obtain ⟨A, hA⟩ : ∃ A : Obj, A = .cells #[Value.int .i64 x.1, .int .i64 x.2] 37 := ⟨_, rfl⟩
  obtain ⟨B, hB⟩ : ∃ B : Obj, B = .cells #[Value.int .i64 y.1, .int .i64 y.2] 37 := ⟨_, rfl⟩
  have hb1 : Box (w.alloc A) w.heap.size 37 #[Value.int .i64 x.1, .int .i64 x.2] := by rw [hA]; exact Box.alloc _ _ _
  have hb2 : Box ((w.alloc A).alloc B) (w.heap.size + 1) 37 #[Value.int .i64 y.1, .int .i64 y.2] := by
    have h := Box.alloc (w.alloc A) 37 #[Value.int .i64 y.1, .int .i64 y.2]
    rw [← hB] at h
    simpa using h
  have hb3 : Box ((w.alloc A).alloc B) w.heap.size 37 #[Value.int .i64 x.1, .int .i64 x.2] := hb1.ext ((Ext.refl _).alloc B)
  have hc : ∀ n, Calls Tryz.prog 25 #[.slice (some ⟨w.heap.size, 0, none⟩) 2 2, .slice (some ⟨w.heap.size + 1, 0, none⟩) 2 2] (((w.alloc A).alloc B).drewN n) fun e w' => e = .returned (.int .i64 (cmpP x y)) ∧ ∃ m, w' = ((w.alloc A).alloc B).drewN m := fun n => by
    refine (sl_compare w.heap.size (w.heap.size + 1) x y (((w.alloc A).alloc B).drewN n) ?_ ?_ ?_ ?_).mono ?_
    · exact (hb3.cell 0).trans (by simp)
    · exact (hb3.cell 1).trans (by simp)
    · exact (hb2.cell 0).trans (by simp)
    · exact (hb2.cell 1).trans (by simp)
    · rintro e w' ⟨h1, h2⟩
      exact ⟨h1, n, h2.symm⟩
  have hfin : ∀ n, ∃ q os', ((w.alloc A).alloc B).drewN n = Go.Sort.grow (w.drewN q) os' := fun n => ⟨n, #[A, B], by
    have e : (w.heap.push A).push B = w.heap ++ #[A, B] := by apply Array.ext'; simp
    have e2 : ((w.alloc A).alloc B).drewN n = { w.drewN n with heap := (w.heap.push A).push B } := rfl
    rw [e2, e]
    rfl⟩
  have HC := Lib.hid hc
  have HFIN := Lib.hid hfin
  rw [hA, hB] at HC HFIN
  clear hb1 hb2 hb3 hc hA hB hfin A B
  unfold pLst
  go_enter Tryz.func24, Tryz.ntmps24
  go_wp2
  go_quiet (exact HC.out _)
  go_wp2
  go_ret
  exact ⟨rfl, HFIN.out _⟩
/-- Nothing is to be sorted. -/
theorem ins_none (ao : Option Addr) (fv : Value) (w : World) : Calls Tryz.prog 66 #[.slice ao 0 0, .int .i64 0, .int .i64 0, fv] w fun e w' => e = .returned (.tuple #[]) ∧ w = w' := by
  go_enter Tryz.func66, Tryz.ntmps66
  go_wp2
  go_loop [8] (fun s => s = .int .i64 1) (fun _ => 0)
  case atStart => go_num
  case round =>
    subst hrel
    go_wp2
    first | (refine bodyPost_ret (results_none rfl _ _ _) rfl ?_) | (refine bodyPost_end (results_none rfl _ _ _) rfl ?_) | go_end0
    exact ⟨rfl, rfl⟩
theorem pdq_none (ao : Option Addr) (fv : Value) (n : Int) (w : World) : Calls Tryz.prog 51 #[.slice ao 0 0, .int .i64 0, .int .i64 0, .int .i64 n, fv] w fun e w' => e = .returned (.tuple #[]) ∧ w = w' := by
  go_enter Tryz.func51, Tryz.ntmps51
  go_wp2
  go_loop [1, 2] (fun a b => a = .int .i64 0 ∧ b = .int .i64 0) (fun _ _ => 0)
  case atStart => exact ⟨rfl, rfl⟩
  case round =>
    obtain ⟨rfl, rfl⟩ := hrel
    go_wp2_with (go_at_call 66; refine (ins_none _ _ _).mono ?_; rintro e w' ⟨rfl, rfl⟩)
    first | (refine bodyPost_ret (results_none rfl _ _ _) rfl ?_) | (refine bodyPost_end (results_none rfl _ _ _) rfl ?_) | go_end0
    exact ⟨rfl, rfl⟩
theorem sf_none (ao : Option Addr) (fv : Value) (w : World) : Calls Tryz.prog 23 #[.slice ao 0 0, fv] w fun e w' => e = .returned (.tuple #[]) ∧ w = w' := by
  go_enter Tryz.func23, Tryz.ntmps23
  go_wp2_with (first | (go_at_call 52; refine (Tryz.bits_Len _ _ (by decide) (by decide)).mono ?_; rintro e w' ⟨rfl, rfl⟩) | (go_at_call 51; refine (pdq_none _ _ _ _).mono ?_; rintro e w' ⟨rfl, rfl⟩))
  first | (refine bodyPost_ret (results_none rfl _ _ _) rfl ?_) | (refine bodyPost_end (results_none rfl _ _ _) rfl ?_) | go_end0
  exact ⟨rfl, rfl⟩
end Go.Proofs.YtnfkplohpjfocaaGreat

namespace Go.Proofs.YtnfkplohpjfocaaGreat
open Go.RowKit
theorem flat_pairs (ps : List (Int × Int)) : Go.Sort.flatK pLst 2 ps.toArray = (pFl ps).toArray := by
  have hl : (pFl ps).length = ps.length * 2 := by
    unfold pFl
    induction ps with
    | nil => rfl
    | cons p ps ih => simp only [List.map_cons, List.flatten_cons, List.length_append, ih, List.length_cons]; show 2 + _ = _; omega
  refine Go.Sort.ext_get! (by simp [hl]) fun t ht => ?_
  have ht' : t < ps.length * 2 := by simpa using ht
  have hi : t / 2 < ps.length := by omega
  rw [Go.Sort.get_flatK _ _ _ t (by simpa using ht')]
  have hj : t % 2 < (pLst ps[t / 2]).length := by show t % 2 < 2; omega
  have h := flatten_at (pl2 ps) (k := t / 2) (r := pLst ps[t / 2]) (by rw [List.getElem?_map, List.getElem?_eq_getElem hi]; rfl) (t % 2) _ (List.getElem?_eq_getElem hj)
  rw [show t / 2 * 2 + t % 2 = t by omega] at h
  have e1 : ps.toArray[t / 2]! = ps[t / 2] := by simp [hi]
  have e2 : (pFl ps).toArray[t]! = (pLst ps[t / 2])[t % 2] := by
    have h2 : (pFl ps)[t]? = some (pLst ps[t / 2])[t % 2] := h
    simp [h2]
  rw [e1, e2]
  simp [hj]
section
variable {w : World} {g : Nat} {T : TypeId} {pre junk xs ys : List Value}
theorem holds_id (hB : PBox w g T (pre ++ (xs ++ junk))) : Go.Sort.Holds id w g pre.length xs.toArray := by
  intro j hj
  simp only [List.size_toArray] at hj
  refine ⟨hB.cell ?_, hB.free _⟩
  rw [List.getElem?_append_right (by omega), Nat.add_sub_cancel_left, List.getElem?_append_left (by simpa using hj)]
  simp [hj]
theorem put_id (hB : PBox w g T (pre ++ (xs ++ junk))) (hl : ys.length = xs.length) : PBox (Go.Sort.putRow id w g pre.length ys.toArray) g T (pre ++ (ys ++ junk)) ∧ Only g w (Go.Sort.putRow id w g pre.length ys.toArray) := by
  constructor
  · unfold PBox at *
    unfold Go.Sort.putRow Go.Sort.mapBlock
    simp only [Array.getElem?_modify, hB, if_true, Option.map_some, Go.Sort.onCells]
    congr 2
    apply Array.ext_getElem?
    intro k
    unfold Go.Sort.putCells
    simp only [Array.getElem?_mapIdx, List.getElem?_toArray, List.size_toArray]
    by_cases h1 : k < pre.length
    · have h2 : ¬ (pre.length ≤ k ∧ k < pre.length + ys.length) := by omega
      simp [List.getElem?_append_left h1, h2]
    · by_cases h3 : k < pre.length + ys.length
      · have h2 : pre.length ≤ k ∧ k < pre.length + ys.length := by omega
        rw [List.getElem?_append_right (by omega), List.getElem?_append_right (l₁ := pre) (by omega), List.getElem?_append_left (by omega), List.getElem?_append_left (l₁ := ys) (by omega)]
        have h4 : k - pre.length < xs.length := by omega
        have h5 : k - pre.length < ys.length := by omega
        simp [h2, h4, h5]
      · have h2 : ¬ (pre.length ≤ k ∧ k < pre.length + ys.length) := by omega
        rw [List.getElem?_append_right (by omega), List.getElem?_append_right (l₁ := pre) (by omega), List.getElem?_append_right (by omega), List.getElem?_append_right (l₁ := ys) (by omega)]
        rw [hl] at h2
        simp [h2, hl]
  · refine ⟨rfl, rfl, rfl, by simp, fun i hi hne => ?_⟩
    unfold Go.Sort.putRow Go.Sort.mapBlock
    have : ¬ (g = i) := fun e => hne (by rw [e])
    simp [Array.getElem?_modify, this]
end
theorem pFl_len (ps : List (Int × Int)) : (pFl ps).length = ps.length * 2 := by
  unfold pFl
  induction ps with
  | nil => rfl
  | cons p ps ih => simp only [List.map_cons, List.flatten_cons, List.length_append, ih, List.length_cons]; show 2 + _ = _; omega
theorem sort_pairs {w0 w : World} {lr rest : List (Nat × TypeId × List Value)} {v : Value} {ps : List (Int × Int)} (HS : St none default w0 w (lr ++ rest)) (hr : OwnRow 37 2 lr v ps.length (pFl ps)) (hlen : ps.length < 4611686018427387904) :
    Calls Tryz.prog 23 #[v, .func (.func 24) #[] #[]] w (fun e w' => e = .returned (.tuple #[]) ∧ ∃ (ps' : List (Int × Int)) (lr' : List (Nat × TypeId × List Value)), ps'.Perm ps ∧ (ps'.Pairwise fun x y => ¬ pL y x) ∧ St none default w0 w' (lr' ++ rest) ∧ OwnRow 37 2 lr' v ps'.length (pFl ps')) := by
  rcases hr.2 with ⟨hlr, ⟨ao, rfl⟩, hn0⟩ | ⟨g, cap, pre, junk, rfl, rfl, hnc, hcm, hj⟩
  · have hps : ps = [] := List.eq_nil_of_length_eq_zero hn0
    subst hps
    refine (sf_none ao _ w).mono fun e w' h => ?_
    obtain ⟨rfl, rfl⟩ := h
    exact ⟨rfl, [], lr, .nil, .nil, HS, hr⟩
  · have hB : PBox w g 37 (pre ++ (pFl ps ++ junk)) := ((Bx_iff.1 HS.own).1 (g, 37, pre ++ (pFl ps ++ junk)) (by simp)).2
    have eg : ∀ (args : Array Value) (w : World), (callFunc 24 args).run Tryz.prog w = .ok (.enter 24 args) w := fun args w => by
      have h1 : (Tryz.f24.name == "runtime.NumGoroutine") = false := by kernel_rfl
      have h2 : Tryz.f24.name ≠ "runtime.NumGoroutine" := by simpa using h1
      obtain ⟨c, hc⟩ : ∃ c, Tryz.f24.body = some c := ⟨_, rfl⟩
      simp [callFunc, Tryz.func24, h2, hc]
    have hcmp : CmpLays Tryz.prog 24 #[] pLst 2 cmpP g pre.length ps.toArray.size w := fun m os dk _ x y => by
      have h := edges_cmp x y (sortWorldK pLst 2 w g pre.length m dk os)
      simpa using h
    have hH : Go.Sort.HoldsK pLst 2 w g pre.length ps.toArray := by
      unfold Go.Sort.HoldsK
      rw [flat_pairs]
      exact holds_id hB
    have hs := Tryz.slices_SortFunc (α := Int × Int) 2 (fun w => (shape_agg sh37 w).1) (fun w => (shape_agg sh37 w).2) pLst (fun _ => rfl) (fun x v hv => by simp [pLst] at hv; rcases hv with rfl | rfl <;> rfl) cmpP cmpP_swo 24 #[] g pre.length cap ps.toArray w eg hcmp hH hB.lt (by simpa using hlen)
    rw [List.size_toArray] at hs
    refine hs.mono fun e w' h => ?_
    obtain ⟨rfl, d', n, os, hp, hso, rfl⟩ := h
    obtain ⟨hp1, _, hp3⟩ := hp
    obtain ⟨ps', rfl⟩ : ∃ l : List (Int × Int), d' = l.toArray := ⟨d'.toList, by simp⟩
    have hpl : ps'.length = ps.length := by simpa using hp1
    have hperm : ps'.Perm ps := by
      have h := hp3
      simp at h
      rw [List.take_of_length_le (by omega)] at h
      exact h
    have hB1 : PBox (Go.Sort.ahead w n) g 37 (pre ++ (pFl ps ++ junk)) := (ahead_ext n).pbox hB
    have hp := put_id (ys := pFl ps') hB1 (by rw [pFl_len, pFl_len, hpl])
    have h1 := (HS.ext (ahead_ext n)).chg (front := []) hp.2 hp.1
    have h2 := h1.ext (grow_ext os)
    have e1 : sortWorldK pLst 2 w g pre.length n ps'.toArray os = Go.Sort.grow (Go.Sort.putRow id (Go.Sort.ahead w n) g pre.length (pFl ps').toArray) os := by
      unfold sortWorldK Go.Sort.putRowK
      rw [flat_pairs]
    rw [e1]
    refine ⟨rfl, ps', [(g, 37, pre ++ (pFl ps' ++ junk))], hperm, ?_, h2, by rw [pFl_len], .inr ⟨g, cap, pre, junk, rfl, by rw [hpl], by omega, hcm, by rw [hpl]; exact hj⟩⟩
    rw [List.pairwise_iff_getElem]
    intro i j hi hj' hij
    have h := hso i j (Nat.zero_le _) hij (by omega)
    rw [ltP_no] at h
    simpa [hi, hj'] using h
end Go.Proofs.YtnfkplohpjfocaaGreat

namespace Go.Proofs.YtnfkplohpjfocaaGreat
open Go.RowKit
set_option maxHeartbeats 8000000 in
set_option maxRecDepth 100000 in
theorem wt_edges (w0 : World) (vh vw : Value) (hs ws : List G) (h1 : GsAt w0 vh hs) (h2 : GsAt w0 vw ws) (hb1 : hs.length ≤ 40000) (hb2 : ws.length ≤ 40000) : Calls Tryz.prog 7 #[.agg #[vh, vw]] w0 (fun e w' => ∃ v', e = .returned v' ∧ Ext w0 w' ∧ PsAt w' v' (edgesR hs ws)) := by
  have HGh := Lib.hid h1
  have HBh := Lib.hid hb1
  obtain ⟨aoh, cph, rfl, hch1, hch2, hath⟩ := h1.get
  obtain ⟨nh, hnh⟩ : ∃ n, n = hs.length := ⟨_, rfl⟩
  rw [← hnh] at HGh hch1 hath hb1 ⊢
  have HNh := Lib.hid hnh
  have HATh := Lib.hid hath
  clear hnh hath h1
  have HGw := Lib.hid h2
  have HBw := Lib.hid hb2
  obtain ⟨aow, cpw, rfl, hcw1, hcw2, hatw⟩ := h2.get
  obtain ⟨nw, hnw⟩ : ∃ n, n = ws.length := ⟨_, rfl⟩
  rw [← hnw] at HGw hcw1 hatw hb2 ⊢
  have HNw := Lib.hid hnw
  have HATw := Lib.hid hatw
  clear hnw hatw h2
  have HS : Hid (St none default w0 w0 []) := St.start w0
  go_enter Tryz.func7, Tryz.ntmps7
  go_wp2_with (first | (refine sx_box HS rfl 25 (.tmp 0) rfl [.slice aoh nh cph, .slice aow nw cpw] rfl ?_; clear HS; intro w b1 HS) | (refine sx_loads HS (by rfl) 25 _ rfl 0 _ _ _ rfl 0 rfl 2 sh25 [.slice aoh nh cph, .slice aow nw cpw] rfl ⟨rfl, rfl, trivial⟩ ?_))
  replace HS : Hid (St none default w0 w [(b1, 25, [.slice aoh nh cph, .slice aow nw cpw])]) := HS
  refine (lk_valid _ _ _ hs ws (HGh.out.ext HS.out.isExt) (HGw.out.ext HS.out.isExt) (by have := HBh.out; omega) (by have := HBw.out; omega)).mono ?_
  rintro e w9 ⟨he, hx⟩
  replace HS := Lib.hid (HS.out.ext hx)
  clear hx
  cases hval : validT hs ws with
  | false =>
    rw [hval] at he
    subst he
    have HE : Hid (edgesR hs ws = []) := Lib.hid (edges_bad hval)
    clear hval
    go_wp2_with fail
    go_ret
    exact ⟨_, rfl, HS.out.isExt, by rw [HE.out]; exact PsAt.own (lr := []) (E := 37) HS.out (fun e he => by cases he) OwnRow.nil⟩
  | true =>
    rw [hval] at he
    subst he
    have HV := Lib.hid hval
    clear hval
    have HE01 := Lib.hid HS.out.isExt
    have HB1 : Hid (PBox w9 b1 25 [.slice aoh nh cph, .slice aow nw cpw]) := Lib.hid (HS.out.box (i := 0) rfl)
    replace HGh := Lib.hid (HGh.out.ext HE01.out)
    replace HGw := Lib.hid (HGw.out.ext HE01.out)
    have HFL : Hid (∀ a, (blockF hs ws a).length ≤ 1024) := Lib.hid (fun a => Nat.le_trans (blockF_len hs ws a) (validT_len HV.out))
    have hw2 : nw ≤ 1024 := by have := validT_len HV.out; rw [HNw.out]; omega
    obtain ⟨wl, hwl⟩ : ∃ l, l = ws.map G.tx := ⟨_, rfl⟩
    have HWL := Lib.hid hwl
    have HWN : Hid (wl.length = nw) := Lib.hid (by rw [hwl, List.length_map, HNw.out])
    clear hwl
    replace HATw : Hid (0 < nw → ∃ gq off, aow = some ⟨gq, off, none⟩ ∧ ∀ (i : Nat) (x : G), ws[i]? = some x → ∀ w, Ext w9 w → ∀ (j : Nat) (u : Value), x.lst[j]? = some u → w.cell? ⟨gq, off + i * 4 + j, none⟩ = some u) := Lib.hid (fun hn => by obtain ⟨gq, off, e, hc⟩ := HATw.out hn; exact ⟨gq, off, e, fun i x hx w9 h9 => hc i x hx w9 (HE01.out.trans h9)⟩)
    obtain ⟨w1, hw1⟩ : ∃ w1 : World, w1 = w9 := ⟨_, rfl⟩
    rw [← hw1] at HE01 HB1 HGh HGw HATw
    replace HS : Hid (St none default w1 w9 []) := Lib.hid (by rw [hw1]; exact St.start w9)
    clear hw1
    obtain ⟨ie, hie, hiz, his, hib⟩ := info_pair
    have HIE := Lib.hid hie
    have HIZ := Lib.hid hiz
    have HIS := Lib.hid his
    have HIB := Lib.hid hib
    clear hie hiz his hib
    go_wp2_with (first | (refine sx_load1 (by rfl) 23 _ rfl b1 (1) rfl _ sh23 (.slice aow nw cpw) ((HS.out.isExt.pbox HB1.out).cell rfl) ?_))
    go_loopw [3, 14] (fun s3 s14 wr => ∃ (i : Nat) (lr : List (Nat × TypeId × List Value)), i ≤ nw ∧ s14 = .int .i64 i ∧ Hid (OwnRow 37 2 lr s3 (eAcc (blockF hs ws) wl i).length (pFl (eAcc (blockF hs ws) wl i))) ∧ Hid (St none default w1 wr lr)) (fun _ s14 _ => nw - (intOf s14).toNat)
    case atStart => exact ⟨0, [], Nat.zero_le _, rfl, Lib.hid (by rw [eAcc_zero]; exact OwnRow.nil), HS⟩
    case round =>
      clear HS
      obtain ⟨i, lr, hi, rfl, HR, HS⟩ := hrel
      by_cases hlt : i < nw
      · skip
        obtain ⟨x, hx⟩ := list_get_of_lt ws i nw HNw.out.symm hlt
        obtain ⟨gq, off, rfl, hcell⟩ := HATw.out (by omega)
        have HX := Lib.hid hx
        have HA : Hid (wl[i]? = some x.tx) := Lib.hid (by rw [HWL.out, List.getElem?_map, hx]; rfl)
        have HC := Lib.hid (hcell i x hx)
        clear hcell hx
        go_wp2_with (first | (refine sx_loadsC (by rfl) 29 _ rfl gq (off + i * 4) rfl 4 sh29 (x.lst) rfl (HC.out _ HS.out.isExt) ?_) | (refine sx_alloc HS rfl 29 rfl _ zr29 ?_; clear HS; intro w b5 HS) | (refine sx_store_all HS (by rfl) 29 _ _ rfl rfl 0 _ _ _ rfl rfl x.lst rfl 4 sh29 rfl rfl rfl ?_; clear HS; intro w HS) | (refine sx_loadsC (by rfl) 25 (.tmp 1) rfl b1 0 rfl 2 sh25 [.slice aoh nh cph, .slice (some ⟨gq, off, none⟩) nw cpw] rfl (fun j2 u2 hj2 => by rw [Nat.zero_add]; exact (HS.out.isExt.pbox HB1.out).cell hj2) ?_) | (refine sx_load HS (by rfl) 3 _ rfl 0 _ _ _ rfl 0 rfl _ sh3 (.int .i64 x.tx) rfl ?_))
        refine (wt_blockers _ _ _ hs ws x.tx (HGh.out.ext HS.out.isExt) (HGw.out.ext HS.out.isExt) (by have := HBh.out; omega) (by have := HBw.out; omega)).mono ?_
        rintro e w7 ⟨v7, l7, rfl, hst, hr7⟩
        replace HS : Hid (St none default w1 w7 (lr ++ ((b5, 29, x.lst) :: l7))) := Lib.hid ((HS.out.call hst).perm (by have h := ((List.perm_append_comm (l₁ := lr ++ [(b5, 29, x.lst)]) (l₂ := l7)).trans (List.Perm.append_left l7 (List.perm_append_singleton (b5, 29, x.lst) lr))); rw [List.append_assoc] at h; exact h))
        obtain ⟨ao7, cp7, rfl, hf1, hf2, hat7⟩ := IsRow.form hr7 HS.out (fun e he => List.mem_append_right _ (List.mem_cons_of_mem _ he))
        obtain ⟨nn, hnn⟩ : ∃ n, n = (blockF hs ws x.tx).length := ⟨_, rfl⟩
        have hnl : nn ≤ 1024 := by rw [hnn]; exact HFL.out x.tx
        rw [← hnn] at hf1 hat7 ⊢
        have HNN := Lib.hid hnn
        have HAT7 := Lib.hid hat7
        clear hnn hat7 hr7 hst
        go_wp2_with fail
        go_loopw [3, 23] (fun s3 s23 wx => ∃ (j : Nat) (lr : List (Nat × TypeId × List Value)), j ≤ nn ∧ s23 = .int .i64 j ∧ Hid (OwnRow 37 2 lr s3 (eAcc2 (blockF hs ws) wl i x.tx j).length (pFl (eAcc2 (blockF hs ws) wl i x.tx j))) ∧ Hid (St none default w1 wx (lr ++ ((b5, 29, x.lst) :: l7)))) (fun _ s23 _ => nn - (intOf s23).toNat)
        case atStart => exact ⟨0, lr, Nat.zero_le _, rfl, Lib.hid (by rw [eAcc2_zero]; exact HR.out), HS⟩
        case round =>
          clear HS HR lr
          obtain ⟨j, lr, hj, rfl, HR, HS⟩ := hrel
          obtain ⟨ao2, cp2, rfl, hd1, hd2⟩ := HR.out.form
          have hd3 : cp2 ≤ 9223372036854775807 := hd2
          obtain ⟨k, hk⟩ : ∃ k, k = (eAcc2 (blockF hs ws) wl i x.tx j).length := ⟨_, rfl⟩
          have hkl : k ≤ 1100000 := by have h1 := eAcc2_len HFL.out wl i x.tx j; rw [← hk] at h1; omega
          rw [← hk] at HR hd1 ⊢
          have HK := Lib.hid hk
          clear hk hd2
          by_cases hlt2 : j < nn
          · skip
            obtain ⟨b, hb⟩ := list_get_of_lt (blockF hs ws x.tx) j nn HNN.out.symm hlt2
            obtain ⟨g7, o7, rfl, hcell7⟩ := HAT7.out (by omega)
            have HB := Lib.hid hb
            have HC7 := Lib.hid (hcell7 j b hb)
            clear hcell7 hb
            go_wp2_with (first | (refine sx_load1 (by rfl) 3 (.tmp 25) rfl g7 (o7 + j) rfl _ sh3 (.int .i64 b) (HC7.out _ _ HS.out (fun e he => List.mem_append_right _ (List.mem_cons_of_mem _ he))) ?_) | (refine sx_load1 (by rfl) 3 (.tmp 28) rfl b5 0 rfl _ sh3 (.int .i64 x.tx) ((HS.out.box (i := lr.length) (show _ = some (b5, 29, x.lst) by simp)).cell rfl) ?_) | (refine sx_build HS (by rfl) 35 37 1 [(0, .tmp 31)] rfl [(0, .agg #[.int .i64 x.tx, .int .i64 b])] rfl [.int .i64 x.tx, .int .i64 b] (fun w => build_pair x.tx b w) ?_; clear HS; intro w bn HS) | (at_builtin; refine sx_appendO (front := [(bn, 37, [Value.int .i64 x.tx, Value.int .i64 b])]) (lr := lr) (ll := ((b5, 29, x.lst) :: l7)) HS (by rfl) (.tmp 27) (.tmp 32) 35 rfl 37 ie _ 2 _ Tryz.underlying35 HIE.out HIZ.out HIS.out rfl rfl _ k (pFl (eAcc2 (blockF hs ws) wl i x.tx j)) rfl HR.out _ rfl 1 [Value.int .i64 x.tx, Value.int .i64 b] (SrcAt.box (HS.out.box (i := 0) rfl) rfl rfl) (by unfold maxLen; omega) (Nat.le_trans (Nat.mul_le_mul (show k + 1 ≤ 1200001 by omega) HIB.out) (by decide)) ?_; clear HS; intro vv w lq HS HR2))
            have HR9 : Hid (OwnRow 37 2 lq vv (eAcc2 (blockF hs ws) wl i x.tx (j + 1)).length (pFl (eAcc2 (blockF hs ws) wl i x.tx (j + 1)))) := Lib.hid (by rw [eAcc2_step HB.out, pFl_append, pFl_one, List.length_append, ← HK.out]; exact HR2.out)
            replace HS : Hid (St none default w1 _ (lq ++ ((b5, 29, x.lst) :: l7))) := Lib.hid (HS.out.drop 1)
            go_roundw
            case rel => exact ⟨j + 1, lq, by omega, by go_num, HR9, HS⟩
            case measure => simp [intOf]; omega
          · skip
            have hjn : j = nn := by omega
            subst hjn
            have HR9 : Hid (OwnRow 37 2 lr (.slice ao2 k cp2) (eAcc (blockF hs ws) wl (i + 1)).length (pFl (eAcc (blockF hs ws) wl (i + 1)))) := Lib.hid (by rw [← eAcc2_end HA.out (by rw [← HNN.out]; exact Nat.le_refl _), ← HK.out]; exact HR.out)
            go_wp2_with fail
            go_roundw
            case rel => exact ⟨i + 1, lr, by omega, by go_num, HR9, Lib.hid (HS.out.sub (List.sublist_append_left _ _))⟩
            case measure => simp [intOf]; omega
      · skip
        have hin : i = nw := by omega
        subst hin
        have HE : Hid (eAcc (blockF hs ws) wl i = pairsF (blockF hs ws) (ws.map G.tx)) := Lib.hid (by rw [eAcc_end (by rw [HWN.out]; exact Nat.le_refl _), HWL.out])
        have HLL : Hid ((eAcc (blockF hs ws) wl i).length < 4611686018427387904) := Lib.hid (by have h1 := eAcc_len HFL.out wl i; omega)
        obtain ⟨ps, hps⟩ : ∃ ps, ps = eAcc (blockF hs ws) wl i := ⟨_, rfl⟩
        rw [← hps] at HR HE HLL
        clear hps
        replace HS : Hid (St none default w1 wr (lr ++ [])) := Lib.hid (by rw [List.append_nil]; exact HS.out)
        obtain ⟨ao2, cp2, rfl, hd1, hd2⟩ := HR.out.form
        clear hd1 hd2
        go_wp2_with fail
        refine (sort_pairs HS.out HR.out HLL.out).mono ?_
        rintro e w8 ⟨rfl, ps2, lr2, hp, hso, hst, hr⟩
        have HS2 := Lib.hid hst
        have HR2 := Lib.hid hr
        have HE2 : Hid (ps2 = edgesR hs ws) := Lib.hid (edges_same HV.out (by rw [← HE.out]; exact hp) hso)
        clear hst hr hp hso HS HR
        go_wp2_with fail
        go_ret
        exact ⟨_, rfl, HE01.out.trans HS2.out.isExt, by rw [← HE2.out]; exact PsAt.own HS2.out (fun e he => List.mem_append_left _ he) HR2.out⟩
end Go.Proofs.YtnfkplohpjfocaaGreat
