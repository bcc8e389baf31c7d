/-
  WaitsArise: the walk.
-/
import Derived.Test.YtnfkplohpjfocaaLawE
import Derived.Deep.CutBlock
set_option linter.unusedVariables false
set_option linter.unusedSimpArgs false
namespace Go.Proofs.Ytnfkplohpjfocaa
open Go.RowKit
theorem u5_of {i : Nat} (h1 : 1 ≤ i) (h2 : i ≤ 5) : (i : Int) ∈ U5 := by
  have : i = 1 ∨ i = 2 ∨ i = 3 ∨ i = 4 ∨ i = 5 := by omega
  unfold U5
  rcases this with rfl | rfl | rfl | rfl | rfl <;> decide
theorem perm_front {α : Type} (F L1 L2 R : List α) : (F ++ (L1 ++ (L2 ++ R))).Perm ((L1 ++ L2) ++ (F ++ R)) := by
  rw [← List.append_assoc L1 L2 R, ← List.append_assoc F, ← List.append_assoc (L1 ++ L2)]
  exact List.perm_append_comm.append_right R
theorem perm_front1 {α : Type} (F L R : List α) : (F ++ (L ++ R)).Perm (L ++ (F ++ R)) := by
  rw [← List.append_assoc F, ← List.append_assoc L]
  exact List.perm_append_comm.append_right R
theorem sub_own {α : Type} (A B l1 l2 R : List α) : (l1 ++ (l2 ++ [])).Sublist (A ++ (B ++ (l1 ++ (l2 ++ R)))) :=
  ((List.Sublist.append (List.Sublist.refl l1) (List.Sublist.append (List.Sublist.refl l2) (List.nil_sublist R))).trans (List.sublist_append_right B _)).trans (List.sublist_append_right A _)
theorem nil_of_len {l : List Int} (h : l.length = 0) : l = [] := List.eq_nil_of_length_eq_zero h
theorem good_len {hs ws : List G} (h : Good hs ws) : hs.length ≤ 20 ∧ ws.length ≤ 5 := len_ok h.tv h.sm
theorem chain_end {nx : Int → List Int} {x : Int} (h : chainF nx 0 x = true) : nx x = [] := by unfold chainF at h; exact List.isEmpty_iff.1 h
theorem chain_next {nx : Int → List Int} {k : Nat} {x : Int} (h : chainF nx (k + 1) x = true) (hn : nx x ≠ []) : chainF nx k (lastI (nx x)) = true := by
  unfold chainF at h
  rw [Bool.or_eq_true] at h
  rcases h with h | h
  · exact absurd (List.isEmpty_iff.1 h) hn
  · exact h
theorem last_get {l : List Int} {m : Nat} (h : l.length = m + 1) : l[m]? = some (lastI l) := by
  unfold lastI
  rw [List.getLast?_eq_getElem?, h, Nat.add_sub_cancel]
  rw [List.getElem?_eq_getElem (by omega)]
  rfl
set_option maxHeartbeats 16000000 in
set_option maxRecDepth 100000 in
theorem arise_walk (a : Option Addr) (len cap : Nat) (w0 : World) (hb : BytesIn w0 a len) (hlc : len ≤ cap) (hmax : cap ≤ maxLen) :
    Calls Try.prog 4 #[.slice a len cap] w0 fun e w' => e = .returned (.bool true) ∧ Ext w0 w' := by
  have HB := Lib.hid hb
  have HM := Lib.hid hmax
  clear hb hmax
  have HS : Hid (St none default w0 w0 []) := St.start w0
  go_enter Try.func4, Try.ntmps4
  go_wp2_with fail
  refine (awake_any _).mono ?_
  rintro e w1 ⟨rfl, hx1⟩
  replace HS := Lib.hid (HS.out.ext hx1)
  clear hx1
  go_wp2_with fail
  refine (new_own a len cap w0 w1 [] HS.out hlc HM.out).mono ?_
  rintro e w2 ⟨c, n, rfl, hn1, hn2, hst⟩
  clear HS
  have HS := Lib.hid hst
  clear hst
  have HBN : Hid (BytesIn w0 a n) := Lib.hid (fun h0 => by
    obtain ⟨blk, off, ha, hi⟩ := HB.out (by omega)
    exact ⟨blk, off, ha, fun i hil => hi i (by omega)⟩)
  clear HB
  go_wp2_with (refine sx_alloc HS (by rfl) 25 rfl _ zr25 ?_; clear HS; intro w b4 HS)
  replace HS : Hid (St none default w0 w ((b4, 25, [.slice none 0 0, .slice none 0 0]) :: (c, 54, codL a n cap 0) :: ([] ++ ([] ++ [])))) := HS
  try simp only [Act.put, List.setIfInBounds_toArray, List.set_cons_zero, List.set_cons_succ]
  go_loopg [] n (fun k wr => ∃ (pos : Nat) (hs ws : List G) (vh vw : Value) (lh lw : List (Nat × TypeId × List Value)), k + pos = n ∧ Hid (Good hs ws) ∧ Hid (OwnRow 29 4 lh vh hs.length (gL hs)) ∧ Hid (OwnRow 29 4 lw vw ws.length (gL ws)) ∧ Hid (St none default w0 wr ((b4, 25, [vh, vw]) :: (c, 54, codL a n cap pos) :: (lh ++ (lw ++ [])))))
  case atStart => exact ⟨0, [], [], _, _, [], [], by omega, Good.empty, OwnRow.nil, OwnRow.nil, HS⟩
  case round =>
    clear HS
    obtain ⟨ko, hko⟩ : ∃ k, k = gk := ⟨gk, rfl⟩
    subst hko
    obtain ⟨pos, hs, ws, vh, vw, lh, lw, hkp, HG, HRH, HRW, HS⟩ := hrel
    have hpn : pos ≤ n := by omega
    have HKP : Hid (ko + pos = n) := Lib.hid hkp
    clear hkp
    go_wp2_with fail
    refine (left_own (front := [(b4, 25, [vh, vw])]) (ll := lh ++ (lw ++ [])) HS.out hpn (by omega)).mono ?_
    rintro e w ⟨rfl, hx⟩
    replace HS := Lib.hid (HS.out.ext hx)
    clear hx
    by_cases hlt : pos < n
    · skip
      go_wp2_with fail
      refine (grant_own (front := [(b4, 25, [vh, vw])]) (ll := lh ++ (lw ++ [])) HS.out HBN.out hpn (by omega)).mono ?_
      rintro e w ⟨g, p1, rfl, hg, hp1, hp2, hp3, hst⟩
      clear HS
      have HS := Lib.hid hst
      have HSM := Lib.hid hg
      have hp4 : pos < p1 := hp3 hlt
      clear hst hg hp3
      go_wp2_with (first | (refine sx_alloc HS (by rfl) 29 rfl _ zr29 ?_; clear HS; intro w b5 HS) | (refine sx_store_all HS (by rfl) 29 (.tmp 5) (.tmp 23) rfl rfl 0 _ _ _ rfl rfl g.lst rfl 4 sh29 rfl rfl rfl ?_; clear HS; intro w HS))
      replace HS : Hid (St none default w0 w ((b5, 29, g.lst) :: (b4, 25, [vh, vw]) :: (c, 54, codL a n cap p1) :: (lh ++ (lw ++ [])))) := HS
      refine (next_own (front := [(b5, 29, g.lst), (b4, 25, [vh, vw])]) (ll := lh ++ (lw ++ [])) 7 HS.out HBN.out hp1 (by omega) (by omega) (by omega)).mono ?_
      rintro e w ⟨r, p2, rfl, hr, hq1, hq2, _, hst⟩
      clear HS
      have HS := Lib.hid hst
      clear hst
      have hp5 : pos < p2 := by omega
      go_upto_block 2 with fail
      go_cut [6, 7, 8, 9, 10, 26, 27, 28, 29, 30, 31, 32, 33, 34, 35, 36, 37, 38, 39, 40, 41, 42, 43, 44, 45, 46, 47, 48, 49, 50, 51, 52, 53, 54, 55, 56, 57, 58, 59, 60, 61, 62, 63, 64, 65, 66, 67, 68, 69, 70, 71, 72, 73, 74, 75, 76, 77, 78, 79] (fun _ _ _ _ _ _ _ _ _ _ _ _ _ _ _ _ _ _ _ _ _ _ _ _ _ _ _ _ _ _ _ _ _ _ _ _ _ _ _ _ _ _ _ _ _ _ _ _ _ _ _ _ _ _ _ _ _ _ _  wx => ∃ (hs ws : List G) (vh vw : Value) (lh lw : List (Nat × TypeId × List Value)), Hid (Good hs ws) ∧ Hid (OwnRow 29 4 lh vh hs.length (gL hs)) ∧ Hid (OwnRow 29 4 lw vw ws.length (gL ws)) ∧ Hid (St none default w0 wx ((b4, 25, [vh, vw]) :: (c, 54, codL a n cap p2) :: (lh ++ (lw ++ [])))))
      case first =>
        have HBL : Hid (hs.length ≤ 400000 ∧ ws.length ≤ 400000) := Lib.hid (by have := good_len HG.out; omega)
        by_cases h4 : r = 4
        · subst h4
          go_wp2_with (first | (refine sx_loads HS (by rfl) 25 (.tmp 4) rfl 1 _ _ _ rfl 0 rfl 2 sh25 [vh, vw] rfl ⟨rfl, rfl, trivial⟩ ?_) | (refine sx_load HS (by rfl) 3 (.tmp 63) rfl 0 _ _ _ rfl 0 rfl _ sh3 (.int .i64 g.tx) rfl ?_))
          have HG2 : Hid (Good ((cancelF g.tx) hs ws).1 ((cancelF g.tx) hs ws).2) := Lib.hid (without_good HG.out _ _)
          refine (lk_cancel w vh vw hs ws g.tx (GsAt.own (lr := lh) HS.out (fun e he => by simp [he]) HRH.out) (GsAt.own (lr := lw) HS.out (fun e he => by simp [he]) HRW.out) HBL.out.1 HBL.out.2).mono ?_
          rintro e w3 (⟨rfl, hR, hx⟩ | ⟨v1, v2, l1, l2, rfl, hst, hr1, hr2⟩)
          · replace HS := Lib.hid (HS.out.ext hx)
            rw [hR] at HG2
            clear hx hR
            go_wp2_with (refine sx_store_all HS (by rfl) 25 (.tmp 4) (.tmp 65) rfl rfl 1 _ _ _ rfl rfl [vh, vw] rfl 2 sh25 rfl rfl (by simp [HRH.out.one, HRW.out.one]) ?_; clear HS; intro w HS)
            go_meet
            exact ⟨_, _, vh, vw, lh, lw, HG2, HRH, HRW, Lib.hid (HS.out.drop 1)⟩
          · replace HS : Hid (St none default w0 w3 ((b5, 29, g.lst) :: (b4, 25, [vh, vw]) :: (c, 54, codL a n cap p2) :: (l1 ++ (l2 ++ (lh ++ (lw ++ [])))))) := Lib.hid ((HS.out.call hst).perm (perm_front [(b5, 29, g.lst), (b4, 25, [vh, vw]), (c, 54, codL a n cap p2)] l1 l2 (lh ++ (lw ++ []))))
            have HR1 := Lib.hid hr1
            have HR2 := Lib.hid hr2
            clear hst hr1 hr2
            go_wp2_with (refine sx_store_all HS (by rfl) 25 (.tmp 4) (.tmp 65) rfl rfl 1 _ _ _ rfl rfl [v1, v2] rfl 2 sh25 rfl rfl (by simp [HR1.out.one, HR2.out.one]) ?_; clear HS; intro w HS)
            go_meet
            exact ⟨_, _, v1, v2, l1, l2, HG2, HR1, HR2, Lib.hid ((HS.out.drop 1).sub (by simp))⟩
        by_cases h5 : r = 5
        · subst h5
          go_wp2_with (first | (refine sx_loads HS (by rfl) 25 (.tmp 4) rfl 1 _ _ _ rfl 0 rfl 2 sh25 [vh, vw] rfl ⟨rfl, rfl, trivial⟩ ?_) | (refine sx_load HS (by rfl) 3 (.tmp 69) rfl 0 _ _ _ rfl 0 rfl _ sh3 (.int .i64 g.tx) rfl ?_) | (refine sx_loads HS (by rfl) 27 (.tmp 71) rfl 0 _ _ _ rfl 1 rfl 2 sh27 [.int .i64 g.page, .int .i64 g.slot] rfl ⟨rfl, rfl, trivial⟩ ?_))
          have HG2 : Hid (Good ((dropF g) hs ws).1 ((dropF g) hs ws).2) := Lib.hid (without_good HG.out _ _)
          refine (lk_drop w vh vw hs ws g (GsAt.own (lr := lh) HS.out (fun e he => by simp [he]) HRH.out) (GsAt.own (lr := lw) HS.out (fun e he => by simp [he]) HRW.out) HBL.out.1 HBL.out.2).mono ?_
          rintro e w3 (⟨rfl, hR, hx⟩ | ⟨v1, v2, l1, l2, rfl, hst, hr1, hr2⟩)
          · replace HS := Lib.hid (HS.out.ext hx)
            rw [hR] at HG2
            clear hx hR
            go_wp2_with (refine sx_store_all HS (by rfl) 25 (.tmp 4) (.tmp 73) rfl rfl 1 _ _ _ rfl rfl [vh, vw] rfl 2 sh25 rfl rfl (by simp [HRH.out.one, HRW.out.one]) ?_; clear HS; intro w HS)
            go_meet
            exact ⟨_, _, vh, vw, lh, lw, HG2, HRH, HRW, Lib.hid (HS.out.drop 1)⟩
          · replace HS : Hid (St none default w0 w3 ((b5, 29, g.lst) :: (b4, 25, [vh, vw]) :: (c, 54, codL a n cap p2) :: (l1 ++ (l2 ++ (lh ++ (lw ++ [])))))) := Lib.hid ((HS.out.call hst).perm (perm_front [(b5, 29, g.lst), (b4, 25, [vh, vw]), (c, 54, codL a n cap p2)] l1 l2 (lh ++ (lw ++ []))))
            have HR1 := Lib.hid hr1
            have HR2 := Lib.hid hr2
            clear hst hr1 hr2
            go_wp2_with (refine sx_store_all HS (by rfl) 25 (.tmp 4) (.tmp 73) rfl rfl 1 _ _ _ rfl rfl [v1, v2] rfl 2 sh25 rfl rfl (by simp [HR1.out.one, HR2.out.one]) ?_; clear HS; intro w HS)
            go_meet
            exact ⟨_, _, v1, v2, l1, l2, HG2, HR1, HR2, Lib.hid ((HS.out.drop 1).sub (by simp))⟩
        by_cases h6 : r = 6
        · subst h6
          go_wp2_with (first | (refine sx_loads HS (by rfl) 25 (.tmp 4) rfl 1 _ _ _ rfl 0 rfl 2 sh25 [vh, vw] rfl ⟨rfl, rfl, trivial⟩ ?_) | (refine sx_load HS (by rfl) 3 (.tmp 77) rfl 0 _ _ _ rfl 0 rfl _ sh3 (.int .i64 g.tx) rfl ?_))
          have HG2 : Hid (Good ((releaseF g.tx) hs ws).1 ((releaseF g.tx) hs ws).2) := Lib.hid (without_good HG.out _ _)
          refine (lk_release w vh vw hs ws g.tx (GsAt.own (lr := lh) HS.out (fun e he => by simp [he]) HRH.out) (GsAt.own (lr := lw) HS.out (fun e he => by simp [he]) HRW.out) HBL.out.1 HBL.out.2).mono ?_
          rintro e w3 (⟨rfl, hR, hx⟩ | ⟨v1, v2, l1, l2, rfl, hst, hr1, hr2⟩)
          · replace HS := Lib.hid (HS.out.ext hx)
            rw [hR] at HG2
            clear hx hR
            go_wp2_with (refine sx_store_all HS (by rfl) 25 (.tmp 4) (.tmp 79) rfl rfl 1 _ _ _ rfl rfl [vh, vw] rfl 2 sh25 rfl rfl (by simp [HRH.out.one, HRW.out.one]) ?_; clear HS; intro w HS)
            go_meet
            exact ⟨_, _, vh, vw, lh, lw, HG2, HRH, HRW, Lib.hid (HS.out.drop 1)⟩
          · replace HS : Hid (St none default w0 w3 ((b5, 29, g.lst) :: (b4, 25, [vh, vw]) :: (c, 54, codL a n cap p2) :: (l1 ++ (l2 ++ (lh ++ (lw ++ [])))))) := Lib.hid ((HS.out.call hst).perm (perm_front [(b5, 29, g.lst), (b4, 25, [vh, vw]), (c, 54, codL a n cap p2)] l1 l2 (lh ++ (lw ++ []))))
            have HR1 := Lib.hid hr1
            have HR2 := Lib.hid hr2
            clear hst hr1 hr2
            go_wp2_with (refine sx_store_all HS (by rfl) 25 (.tmp 4) (.tmp 79) rfl rfl 1 _ _ _ rfl rfl [v1, v2] rfl 2 sh25 rfl rfl (by simp [HR1.out.one, HR2.out.one]) ?_; clear HS; intro w HS)
            go_meet
            exact ⟨_, _, v1, v2, l1, l2, HG2, HR1, HR2, Lib.hid ((HS.out.drop 1).sub (by simp))⟩
        have d4 : ((r : Int) == 4) = false := by simp; omega
        have d5 : ((r : Int) == 5) = false := by simp; omega
        have d6 : ((r : Int) == 6) = false := by simp; omega
        go_wp2_with (first | (refine sx_loads HS (by rfl) 25 (.tmp 4) rfl 1 _ _ _ rfl 0 rfl 2 sh25 [vh, vw] rfl ⟨rfl, rfl, trivial⟩ ?_) | (refine sx_load_all HS (by rfl) 29 (.tmp 5) rfl 0 _ _ _ rfl rfl 4 sh29 rfl ?_))
        refine (lk_request w vh vw hs ws g (GsAt.own (lr := lh) HS.out (fun e he => by simp [he]) HRH.out) (GsAt.own (lr := lw) HS.out (fun e he => by simp [he]) HRW.out) HBL.out.1 HBL.out.2).mono ?_
        rintro e w3 (⟨hF, hE, he, hx⟩ | ⟨b, hF, hE, he, hx⟩ | ⟨R, b, v1, v2, l1, l2, hF, hE, he, hst, hr1, hr2⟩)
        · obtain ⟨E, hEE⟩ : ∃ E, E = reqE hs ws g := ⟨_, rfl⟩
          rw [← hEE] at hE he
          subst he
          replace HS := Lib.hid (HS.out.ext hx)
          clear hx hEE hF
          go_wp2_with (first | (refine sx_alloc HS (by rfl) 25 rfl _ zr25 ?_; clear HS; intro w b6 HS) | (refine sx_store_all HS (by rfl) 25 (.tmp 6) (.tmp 30) rfl rfl 0 _ _ _ rfl rfl [.slice none 0 0, .slice none 0 0] rfl 2 sh25 rfl rfl rfl ?_; clear HS; intro w HS))
          go_roundg (n - p2)
          case measure => have := HKP.out; omega
          case rel => exact ⟨p2, hs, ws, vh, vw, lh, lw, by omega, HG, HRH, HRW, Lib.hid (HS.out.drop 2)⟩
        · subst he
          replace HS := Lib.hid (HS.out.ext hx)
          clear hx
          have HRQ := Lib.hid (req_ok HG.out HSM.out hF)
          have HF := Lib.hid hF
          clear hF hE
          have HUL : Hid ((hs).length ≤ 20 ∧ (ws).length ≤ 5) := Lib.hid (len_ok HRQ.out.tv HRQ.out.sm)
          go_wp2_with (first | (refine sx_alloc HS (by rfl) 25 rfl _ zr25 ?_; clear HS; intro w b6 HS) | (refine sx_store_all HS (by rfl) 25 (.tmp 6) (.tmp 30) rfl rfl 0 _ _ _ rfl rfl [vh, vw] rfl 2 sh25 rfl rfl (by simp [HRH.out.one, HRW.out.one]) ?_; clear HS; intro w HS) | (refine sx_loads HS (by rfl) 25 (.tmp 4) rfl 2 _ _ _ rfl 0 rfl 2 sh25 [vh, vw] rfl ⟨rfl, rfl, trivial⟩ ?_) | (refine sx_load_all HS (by rfl) 29 (.tmp 5) rfl 1 _ _ _ rfl rfl 4 sh29 rfl ?_))
          replace HS : Hid (St none default w0 w ((b6, 25, [vh, vw]) :: (b5, 29, g.lst) :: (b4, 25, [vh, vw]) :: (c, 54, codL a n cap p2) :: (lh ++ (lw ++ [])))) := HS
          refine (wt_would w vh vw hs ws g (GsAt.own (lr := lh) HS.out (fun e he => by simp [he]) HRH.out) (GsAt.own (lr := lw) HS.out (fun e he => by simp [he]) HRW.out) HBL.out.1 HBL.out.2).mono ?_
          rintro e w4 (⟨hF2, _⟩ | ⟨u2, v2', b2, vl, hF2, _, rfl, lr, hst2, hrl⟩)
          · rw [HF.out] at hF2
            cases hF2
          rw [HF.out] at hF2
          cases hF2
          replace HS : Hid (St none default w0 w4 ((b6, 25, [vh, vw]) :: (b5, 29, g.lst) :: (b4, 25, [vh, vw]) :: (c, 54, codL a n cap p2) :: (lr ++ (lh ++ (lw ++ []))))) := Lib.hid ((HS.out.call hst2).perm (perm_front1 [(b6, 25, [vh, vw]), (b5, 29, g.lst), (b4, 25, [vh, vw]), (c, 54, codL a n cap p2)] lr (lh ++ (lw ++ []))))
          have HRL := Lib.hid hrl
          clear hst2 hrl
          obtain ⟨al, cl, rfl, hcl1, hcl2⟩ := HRL.out.form
          have hcl3 : cl ≤ 9223372036854775807 := hcl2
          obtain ⟨nl, hnl⟩ : ∃ m, m = (cycF (hs) (ws) g.tx).length := ⟨_, rfl⟩
          rw [← hnl] at HRL hcl1 ⊢
          have HNL := Lib.hid hnl
          clear hnl hcl2
          go_wp2_with (first | (refine sx_loads HS (by rfl) 25 (.tmp 6) rfl 0 _ _ _ rfl 0 rfl 2 sh25 [vh, vw] rfl ⟨rfl, rfl, trivial⟩ ?_) | (refine sx_load HS (by rfl) 3 (.tmp 46) rfl 1 _ _ _ rfl 0 rfl _ sh3 (.int .i64 g.tx) rfl ?_))
          refine (wt_cycle _ vh vw (hs) (ws) g.tx (GsAt.own (lr := lh) HS.out (fun e he => by simp [he]) HRH.out) (GsAt.own (lr := lw) HS.out (fun e he => by simp [he]) HRW.out) (by have := HUL.out; omega) (by have := HUL.out; omega)).mono ?_
          rintro e w5 ⟨vl2, lr2, rfl, hst2, hrl2⟩
          replace HS : Hid (St none default w0 w5 ((b6, 25, [vh, vw]) :: (b5, 29, g.lst) :: (b4, 25, [vh, vw]) :: (c, 54, codL a n cap p2) :: (lr2 ++ (lr ++ (lh ++ (lw ++ [])))))) := Lib.hid ((HS.out.call hst2).perm (perm_front1 [(b6, 25, [vh, vw]), (b5, 29, g.lst), (b4, 25, [vh, vw]), (c, 54, codL a n cap p2)] lr2 (lr ++ (lh ++ (lw ++ [])))))
          have HRL2 := Lib.hid hrl2
          clear hst2 hrl2
          go_wp2_with fail
          refine (rf_ints _ _ vl2 (cycF (hs) (ws) g.tx) (cycF (hs) (ws) g.tx) (IsAt.own (lr := lr) HS.out (fun e he => by simp [he]) (by rw [← HNL.out]; exact HRL.out)) (IsAt.own (lr := lr2) HS.out (fun e he => by simp [he]) HRL2.out)).mono ?_
          rintro e w6 ⟨he, hx⟩
          rw [decide_eq_true rfl] at he
          subst he
          replace HS := Lib.hid (HS.out.ext hx)
          clear hx
          by_cases hz : nl = 0
          · have HG2 : Hid (Good (hs) (ws)) := Lib.hid (HRQ.out.good HG.out (nil_of_len (by rw [← HNL.out]; exact hz)))
            subst hz
            go_wp2_with (first | (refine sx_loads HS (by rfl) 25 (.tmp 6) rfl 0 _ _ _ rfl 0 rfl 2 sh25 [vh, vw] rfl ⟨rfl, rfl, trivial⟩ ?_) | (refine sx_store_all HS (by rfl) 25 (.tmp 4) (.tmp 52) rfl rfl 2 _ _ _ rfl rfl [vh, vw] rfl 2 sh25 rfl rfl (by simp [HRH.out.one, HRW.out.one]) ?_; clear HS; intro w HS))
            go_meet
            exact ⟨_, _, vh, vw, lh, lw, HG2, HRH, HRW, Lib.hid ((HS.out.drop 2).sub (by simp))⟩
          · have HG2 := Lib.hid (HRQ.out.cancel HG.out)
            have hz2 : 0 < nl := by omega
            go_wp2_with (first | (refine sx_loads HS (by rfl) 25 (.tmp 6) rfl 0 _ _ _ rfl 0 rfl 2 sh25 [vh, vw] rfl ⟨rfl, rfl, trivial⟩ ?_) | (refine sx_store_all HS (by rfl) 25 (.tmp 4) (.tmp 52) rfl rfl 2 _ _ _ rfl rfl [vh, vw] rfl 2 sh25 rfl rfl (by simp [HRH.out.one, HRW.out.one]) ?_; clear HS; intro w HS) | (refine sx_loads HS (by rfl) 25 (.tmp 4) rfl 2 _ _ _ rfl 0 rfl 2 sh25 [vh, vw] rfl ⟨rfl, rfl, trivial⟩ ?_) | (refine sx_load HS (by rfl) 3 (.tmp 57) rfl 1 _ _ _ rfl 0 rfl _ sh3 (.int .i64 g.tx) rfl ?_))
            replace HS : Hid (St none default w0 w ((b6, 25, [vh, vw]) :: (b5, 29, g.lst) :: (b4, 25, [vh, vw]) :: (c, 54, codL a n cap p2) :: (lr2 ++ (lr ++ (lh ++ (lw ++ [])))))) := HS
            refine (lk_cancel w vh vw (hs) (ws) g.tx (GsAt.own (lr := lh) HS.out (fun e he => by simp [he]) HRH.out) (GsAt.own (lr := lw) HS.out (fun e he => by simp [he]) HRW.out) (by have := HUL.out; omega) (by have := HUL.out; omega)).mono ?_
            rintro e w3 (⟨rfl, hR, hx⟩ | ⟨v1, v2, l1, l2, rfl, hst, hr1, hr2⟩)
            · replace HS := Lib.hid (HS.out.ext hx)
              rw [hR] at HG2
              clear hx hR
              go_wp2_with (refine sx_store_all HS (by rfl) 25 (.tmp 4) (.tmp 59) rfl rfl 2 _ _ _ rfl rfl [vh, vw] rfl 2 sh25 rfl rfl (by simp [HRH.out.one, HRW.out.one]) ?_; clear HS; intro w HS)
              go_meet
              exact ⟨_, _, vh, vw, lh, lw, HG2, HRH, HRW, Lib.hid ((HS.out.drop 2).sub (by simp))⟩
            · replace HS : Hid (St none default w0 w3 ((b6, 25, [vh, vw]) :: (b5, 29, g.lst) :: (b4, 25, [vh, vw]) :: (c, 54, codL a n cap p2) :: (l1 ++ (l2 ++ (lr2 ++ (lr ++ (lh ++ (lw ++ [])))))))) := Lib.hid ((HS.out.call hst).perm (perm_front [(b6, 25, [vh, vw]), (b5, 29, g.lst), (b4, 25, [vh, vw]), (c, 54, codL a n cap p2)] l1 l2 (lr2 ++ (lr ++ (lh ++ (lw ++ []))))))
              have HQ1 := Lib.hid hr1
              have HQ2 := Lib.hid hr2
              clear hst hr1 hr2
              go_wp2_with (refine sx_store_all HS (by rfl) 25 (.tmp 4) (.tmp 59) rfl rfl 2 _ _ _ rfl rfl [v1, v2] rfl 2 sh25 rfl rfl (by simp [HQ1.out.one, HQ2.out.one]) ?_; clear HS; intro w HS)
              go_meet
              exact ⟨_, _, v1, v2, l1, l2, HG2, HQ1, HQ2, Lib.hid ((HS.out.drop 2).sub (by simp))⟩
        · subst he
          replace HS : Hid (St none default w0 w3 ((b5, 29, g.lst) :: (b4, 25, [vh, vw]) :: (c, 54, codL a n cap p2) :: (l1 ++ (l2 ++ (lh ++ (lw ++ [])))))) := Lib.hid ((HS.out.call hst).perm (perm_front [(b5, 29, g.lst), (b4, 25, [vh, vw]), (c, 54, codL a n cap p2)] l1 l2 (lh ++ (lw ++ []))))
          have HR1 := Lib.hid hr1
          have HR2 := Lib.hid hr2
          clear hst hr1 hr2
          have HRQ := Lib.hid (req_ok HG.out HSM.out hF)
          have HF := Lib.hid hF
          clear hF hE
          have HUL : Hid ((R.1).length ≤ 20 ∧ (R.2).length ≤ 5) := Lib.hid (len_ok HRQ.out.tv HRQ.out.sm)
          go_wp2_with (first | (refine sx_alloc HS (by rfl) 25 rfl _ zr25 ?_; clear HS; intro w b6 HS) | (refine sx_store_all HS (by rfl) 25 (.tmp 6) (.tmp 30) rfl rfl 0 _ _ _ rfl rfl [v1, v2] rfl 2 sh25 rfl rfl (by simp [HR1.out.one, HR2.out.one]) ?_; clear HS; intro w HS) | (refine sx_loads HS (by rfl) 25 (.tmp 4) rfl 2 _ _ _ rfl 0 rfl 2 sh25 [vh, vw] rfl ⟨rfl, rfl, trivial⟩ ?_) | (refine sx_load_all HS (by rfl) 29 (.tmp 5) rfl 1 _ _ _ rfl rfl 4 sh29 rfl ?_))
          replace HS : Hid (St none default w0 w ((b6, 25, [v1, v2]) :: (b5, 29, g.lst) :: (b4, 25, [vh, vw]) :: (c, 54, codL a n cap p2) :: (l1 ++ (l2 ++ (lh ++ (lw ++ [])))))) := HS
          refine (wt_would w vh vw hs ws g (GsAt.own (lr := lh) HS.out (fun e he => by simp [he]) HRH.out) (GsAt.own (lr := lw) HS.out (fun e he => by simp [he]) HRW.out) HBL.out.1 HBL.out.2).mono ?_
          rintro e w4 (⟨hF2, _⟩ | ⟨u2, v2', b2, vl, hF2, _, rfl, lr, hst2, hrl⟩)
          · rw [HF.out] at hF2
            cases hF2
          rw [HF.out] at hF2
          cases hF2
          replace HS : Hid (St none default w0 w4 ((b6, 25, [v1, v2]) :: (b5, 29, g.lst) :: (b4, 25, [vh, vw]) :: (c, 54, codL a n cap p2) :: (lr ++ (l1 ++ (l2 ++ (lh ++ (lw ++ []))))))) := Lib.hid ((HS.out.call hst2).perm (perm_front1 [(b6, 25, [v1, v2]), (b5, 29, g.lst), (b4, 25, [vh, vw]), (c, 54, codL a n cap p2)] lr (l1 ++ (l2 ++ (lh ++ (lw ++ []))))))
          have HRL := Lib.hid hrl
          clear hst2 hrl
          obtain ⟨al, cl, rfl, hcl1, hcl2⟩ := HRL.out.form
          have hcl3 : cl ≤ 9223372036854775807 := hcl2
          obtain ⟨nl, hnl⟩ : ∃ m, m = (cycF (R.1) (R.2) g.tx).length := ⟨_, rfl⟩
          rw [← hnl] at HRL hcl1 ⊢
          have HNL := Lib.hid hnl
          clear hnl hcl2
          go_wp2_with (first | (refine sx_loads HS (by rfl) 25 (.tmp 6) rfl 0 _ _ _ rfl 0 rfl 2 sh25 [v1, v2] rfl ⟨rfl, rfl, trivial⟩ ?_) | (refine sx_load HS (by rfl) 3 (.tmp 46) rfl 1 _ _ _ rfl 0 rfl _ sh3 (.int .i64 g.tx) rfl ?_))
          refine (wt_cycle _ v1 v2 (R.1) (R.2) g.tx (GsAt.own (lr := l1) HS.out (fun e he => by simp [he]) HR1.out) (GsAt.own (lr := l2) HS.out (fun e he => by simp [he]) HR2.out) (by have := HUL.out; omega) (by have := HUL.out; omega)).mono ?_
          rintro e w5 ⟨vl2, lr2, rfl, hst2, hrl2⟩
          replace HS : Hid (St none default w0 w5 ((b6, 25, [v1, v2]) :: (b5, 29, g.lst) :: (b4, 25, [vh, vw]) :: (c, 54, codL a n cap p2) :: (lr2 ++ (lr ++ (l1 ++ (l2 ++ (lh ++ (lw ++ [])))))))) := Lib.hid ((HS.out.call hst2).perm (perm_front1 [(b6, 25, [v1, v2]), (b5, 29, g.lst), (b4, 25, [vh, vw]), (c, 54, codL a n cap p2)] lr2 (lr ++ (l1 ++ (l2 ++ (lh ++ (lw ++ [])))))))
          have HRL2 := Lib.hid hrl2
          clear hst2 hrl2
          go_wp2_with fail
          refine (rf_ints _ _ vl2 (cycF (R.1) (R.2) g.tx) (cycF (R.1) (R.2) g.tx) (IsAt.own (lr := lr) HS.out (fun e he => by simp [he]) (by rw [← HNL.out]; exact HRL.out)) (IsAt.own (lr := lr2) HS.out (fun e he => by simp [he]) HRL2.out)).mono ?_
          rintro e w6 ⟨he, hx⟩
          rw [decide_eq_true rfl] at he
          subst he
          replace HS := Lib.hid (HS.out.ext hx)
          clear hx
          by_cases hz : nl = 0
          · have HG2 : Hid (Good (R.1) (R.2)) := Lib.hid (HRQ.out.good HG.out (nil_of_len (by rw [← HNL.out]; exact hz)))
            subst hz
            go_wp2_with (first | (refine sx_loads HS (by rfl) 25 (.tmp 6) rfl 0 _ _ _ rfl 0 rfl 2 sh25 [v1, v2] rfl ⟨rfl, rfl, trivial⟩ ?_) | (refine sx_store_all HS (by rfl) 25 (.tmp 4) (.tmp 52) rfl rfl 2 _ _ _ rfl rfl [v1, v2] rfl 2 sh25 rfl rfl (by simp [HR1.out.one, HR2.out.one]) ?_; clear HS; intro w HS))
            go_meet
            exact ⟨_, _, v1, v2, l1, l2, HG2, HR1, HR2, Lib.hid ((HS.out.drop 2).sub (List.Sublist.cons_cons _ (List.Sublist.cons_cons _ (sub_own _ _ _ _ _))))⟩
          · have HG2 := Lib.hid (HRQ.out.cancel HG.out)
            have hz2 : 0 < nl := by omega
            go_wp2_with (first | (refine sx_loads HS (by rfl) 25 (.tmp 6) rfl 0 _ _ _ rfl 0 rfl 2 sh25 [v1, v2] rfl ⟨rfl, rfl, trivial⟩ ?_) | (refine sx_store_all HS (by rfl) 25 (.tmp 4) (.tmp 52) rfl rfl 2 _ _ _ rfl rfl [v1, v2] rfl 2 sh25 rfl rfl (by simp [HR1.out.one, HR2.out.one]) ?_; clear HS; intro w HS) | (refine sx_loads HS (by rfl) 25 (.tmp 4) rfl 2 _ _ _ rfl 0 rfl 2 sh25 [v1, v2] rfl ⟨rfl, rfl, trivial⟩ ?_) | (refine sx_load HS (by rfl) 3 (.tmp 57) rfl 1 _ _ _ rfl 0 rfl _ sh3 (.int .i64 g.tx) rfl ?_))
            replace HS : Hid (St none default w0 w ((b6, 25, [v1, v2]) :: (b5, 29, g.lst) :: (b4, 25, [v1, v2]) :: (c, 54, codL a n cap p2) :: (lr2 ++ (lr ++ (l1 ++ (l2 ++ (lh ++ (lw ++ [])))))))) := HS
            refine (lk_cancel w v1 v2 (R.1) (R.2) g.tx (GsAt.own (lr := l1) HS.out (fun e he => by simp [he]) HR1.out) (GsAt.own (lr := l2) HS.out (fun e he => by simp [he]) HR2.out) (by have := HUL.out; omega) (by have := HUL.out; omega)).mono ?_
            rintro e w7 (⟨rfl, hR, hx⟩ | ⟨y1, y2, m1, m2, rfl, hst, hr1, hr2⟩)
            · replace HS := Lib.hid (HS.out.ext hx)
              rw [hR] at HG2
              clear hx hR
              go_wp2_with (refine sx_store_all HS (by rfl) 25 (.tmp 4) (.tmp 59) rfl rfl 2 _ _ _ rfl rfl [v1, v2] rfl 2 sh25 rfl rfl (by simp [HR1.out.one, HR2.out.one]) ?_; clear HS; intro w HS)
              go_meet
              exact ⟨_, _, v1, v2, l1, l2, HG2, HR1, HR2, Lib.hid ((HS.out.drop 2).sub (List.Sublist.cons_cons _ (List.Sublist.cons_cons _ (sub_own _ _ _ _ _))))⟩
            · replace HS : Hid (St none default w0 w7 ((b6, 25, [v1, v2]) :: (b5, 29, g.lst) :: (b4, 25, [v1, v2]) :: (c, 54, codL a n cap p2) :: (m1 ++ (m2 ++ (lr2 ++ (lr ++ (l1 ++ (l2 ++ (lh ++ (lw ++ [])))))))))) := Lib.hid ((HS.out.call hst).perm (perm_front [(b6, 25, [v1, v2]), (b5, 29, g.lst), (b4, 25, [v1, v2]), (c, 54, codL a n cap p2)] m1 m2 (lr2 ++ (lr ++ (l1 ++ (l2 ++ (lh ++ (lw ++ []))))))))
              have HQ1 := Lib.hid hr1
              have HQ2 := Lib.hid hr2
              clear hst hr1 hr2
              go_wp2_with (refine sx_store_all HS (by rfl) 25 (.tmp 4) (.tmp 59) rfl rfl 2 _ _ _ rfl rfl [y1, y2] rfl 2 sh25 rfl rfl (by simp [HQ1.out.one, HQ2.out.one]) ?_; clear HS; intro w HS)
              go_meet
              exact ⟨_, _, y1, y2, m1, m2, HG2, HQ1, HQ2, Lib.hid ((HS.out.drop 2).sub (by simp))⟩
      case rest =>
        clear HS HRH HRW HG HSM
        obtain ⟨hs, ws, vh, vw, lh, lw, HG, HRH, HRW, HS⟩ := hcut
        have HBL : Hid (hs.length ≤ 1000000 ∧ ws.length ≤ 1000000 ∧ hs.length ≤ 400000 ∧ ws.length ≤ 400000) := Lib.hid (by have := good_len HG.out; omega)
        have HRV : Hid (refValid hs ws = true) := Lib.hid HG.out.ref
        go_wp2_with (refine sx_loads HS (by rfl) 25 (.tmp 4) rfl 0 _ _ _ rfl 0 rfl 2 sh25 [vh, vw] rfl ⟨rfl, rfl, trivial⟩ ?_)
        refine (rf_valid wc vh vw hs ws (GsAt.own (lr := lh) HS.out (fun e he => by simp [he]) HRH.out) (GsAt.own (lr := lw) HS.out (fun e he => by simp [he]) HRW.out) HBL.out.1 HBL.out.2.1).mono ?_
        rintro e w ⟨he, hx⟩
        rw [HRV.out] at he
        subst he
        replace HS := Lib.hid (HS.out.ext hx)
        clear hx
        go_wp2_with fail
        try simp only [Act.put, List.setIfInBounds_toArray, List.set_cons_zero, List.set_cons_succ]
        go_loopw [11] (fun s11 wr => ∃ i : Nat, 1 ≤ i ∧ i ≤ 6 ∧ s11 = .int .i64 i ∧ Hid (St none default w0 wr ((b4, 25, [vh, vw]) :: (c, 54, codL a n cap p2) :: (lh ++ (lw ++ []))))) (fun s11 _ => 6 - (intOf s11).toNat)
        case atStart => exact ⟨1, by omega, by omega, rfl, HS⟩
        case round =>
          clear HS
          obtain ⟨i, hi1, hi6, rfl, HS⟩ := hrel
          by_cases hi5 : i ≤ 5
          · have HASK := Lib.hid (HG.out.asks (u5_of hi1 hi5))
            go_wp2_with (refine sx_loads HS (by rfl) 25 (.tmp 4) rfl 0 _ _ _ rfl 0 rfl 2 sh25 [vh, vw] rfl ⟨rfl, rfl, trivial⟩ ?_)
            refine (wt_cycle _ vh vw hs ws (i : Int) (GsAt.own (lr := lh) HS.out (fun e he => by simp [he]) HRH.out) (GsAt.own (lr := lw) HS.out (fun e he => by simp [he]) HRW.out) HBL.out.1 HBL.out.2.1).mono ?_
            rintro e w ⟨vl, lr, rfl, hst, hr⟩
            rw [HASK.out.2.1] at hr
            obtain ⟨al, cl, rfl, hcl1, hcl2⟩ := hr.form
            have hcl3 : cl ≤ 9223372036854775807 := hcl2
            replace HS := Lib.hid (HS.out.ext hst.isExt)
            clear hst hr hcl2
            have HCH : Hid (chainF (forF hs ws) 5 (i : Int) = true) := Lib.hid HASK.out.2.2
            go_wp2_with fail
            try simp only [Act.put, List.setIfInBounds_toArray, List.set_cons_zero, List.set_cons_succ]
            go_loopw [12, 13] (fun s12 s13 wr => ∃ (x : Int) (m : Nat), m ≤ 5 ∧ s12 = .int .i64 x ∧ s13 = .int .i64 m ∧ Hid (chainF (forF hs ws) (5 - m) x = true) ∧ Hid (St none default w0 wr ((b4, 25, [vh, vw]) :: (c, 54, codL a n cap p2) :: (lh ++ (lw ++ []))))) (fun _ s13 _ => 6 - (intOf s13).toNat)
            case atStart => exact ⟨(i : Int), 0, by omega, rfl, rfl, HCH, HS⟩
            case round =>
              clear HS HCH
              obtain ⟨x, m, hm5, rfl, rfl, HCH, HS⟩ := hrel
              have hm6 : m < 6 := by omega
              go_wp2_with (refine sx_loads HS (by rfl) 25 (.tmp 4) rfl 0 _ _ _ rfl 0 rfl 2 sh25 [vh, vw] rfl ⟨rfl, rfl, trivial⟩ ?_)
              refine (wt_for _ vh vw hs ws x (GsAt.own (lr := lh) HS.out (fun e he => by simp [he]) HRH.out) (GsAt.own (lr := lw) HS.out (fun e he => by simp [he]) HRW.out) HBL.out.2.2.1 HBL.out.2.2.2).mono ?_
              rintro e w ⟨vl, rfl, lr, hst, hr⟩
              have hat : IsAt w vl (forF hs ws x) := IsAt.own hst (fun e he => he) hr
              replace HS := Lib.hid (HS.out.ext hst.isExt)
              clear hst hr
              obtain ⟨al, cl, rfl, hcl1, hcl2, hget⟩ := hat.get
              obtain ⟨nl, hnl⟩ : ∃ k, k = (forF hs ws x).length := ⟨_, rfl⟩
              rw [← hnl] at hcl1 hget ⊢
              have HNL := Lib.hid hnl
              have HGET := Lib.hid hget
              clear hat hget hnl
              by_cases hz : nl = 0
              · subst hz
                go_wp2_with fail
                go_roundw
                case rel => exact ⟨i + 1, by omega, by omega, by go_num, HS⟩
                case measure => simp [intOf]; omega
              · by_cases hm : m = 5
                · exfalso
                  subst hm
                  have := chain_end HCH.out
                  rw [this] at HNL
                  exact hz HNL.out
                · obtain ⟨q, rfl⟩ : ∃ q, nl = q + 1 := ⟨nl - 1, by omega⟩
                  have HCH2 : Hid (chainF (forF hs ws) (5 - (m + 1)) (lastI (forF hs ws x)) = true) := Lib.hid (by
                    have h := HCH.out
                    rw [show 5 - m = (5 - (m + 1)) + 1 by omega] at h
                    exact chain_next h (fun e => by have h2 := HNL.out; rw [e] at h2; simp at h2))
                  obtain ⟨gg, off, rfl, hcell⟩ := HGET.out (by omega)
                  obtain ⟨y, hy⟩ : ∃ y, y = lastI (forF hs ws x) := ⟨_, rfl⟩
                  rw [← hy] at HCH2
                  have k0 : w.cell? ⟨gg, off + q, none⟩ = some (.int .i64 y) := hcell q y (by rw [hy]; exact last_get HNL.out.symm) w (Ext.refl _)
                  clear hcell hy
                  go_wp2_with fail
                  go_roundw
                  case rel => exact ⟨y, m + 1, by omega, rfl, by go_num, HCH2, HS⟩
                  case measure => simp [intOf]; omega
          · have hi7 : i = 6 := by omega
            subst hi7
            go_wp2_with fail
            go_roundg (n - p2)
            case measure => have := HKP.out; omega
            case rel => exact ⟨p2, hs, ws, vh, vw, lh, lw, by omega, HG, HRH, HRW, HS⟩
    · have hpn2 : pos = n := by omega
      subst hpn2
      go_wp2_with fail
      go_ret
      exact ⟨rfl, HS.out.isExt⟩
end Go.Proofs.Ytnfkplohpjfocaa
