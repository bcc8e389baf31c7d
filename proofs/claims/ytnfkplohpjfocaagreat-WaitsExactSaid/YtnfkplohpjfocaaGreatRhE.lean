/-
  The contract of the reference's place.
-/
import Derived.Test.YtnfkplohpjfocaaGreatRhW
import Derived.Test.YtnfkplohpjfocaaGreatRfA
import Derived.Test.YtnfkplohpjfocaaGreatPxA
set_option linter.unusedVariables false
set_option linter.unusedSimpArgs false
namespace Go.Proofs.YtnfkplohpjfocaaGreat
open Go.RowKit
theorem findIdx_at {ws : List G} {p : G → Bool} {i : Nat} {x : G} (hx : ws[i]? = some x) (h : p x = true) (h0 : ∀ (j : Nat) (y : G), j < i → ws[j]? = some y → p y = false) : ws.findIdx? p = some i := by
  obtain ⟨hi, rfl⟩ := List.getElem?_eq_some_iff.1 hx
  rw [List.findIdx?_eq_some_iff_getElem]
  exact ⟨hi, h, fun j hj => by simpa using h0 j _ hj (List.getElem?_eq_getElem (by omega))⟩
theorem findIdx_no {ws : List G} {p : G → Bool} (h0 : ∀ (j : Nat) (y : G), j < ws.length → ws[j]? = some y → p y = false) : ws.findIdx? p = none := by
  rw [List.findIdx?_eq_none_iff]
  intro y hy
  obtain ⟨j, hj, rfl⟩ := List.getElem_of_mem hy
  exact h0 j _ hj (List.getElem?_eq_getElem hj)
set_option maxHeartbeats 8000000 in
set_option maxRecDepth 100000 in
theorem rf_place (w0 : World) (vh vw : Value) (hs ws : List G) (g : G) (h1 : GsAt w0 vh hs) (h2 : GsAt w0 vw ws) (hb1 : hs.length ≤ 1000000) (hb2 : ws.length ≤ 1000000) : Calls Tryz.prog 39 #[.agg #[vh, vw], .agg g.arr] w0 fun e w' => e = .returned (.int .i64 (placeR hs ws g : Int)) ∧ Ext w0 w' := by
  have HGh := Lib.hid h1
  have HBh := Lib.hid hb1
  obtain ⟨aoh, cph, rfl, hch1, hch2, hath⟩ := h1.get
  obtain ⟨nh, hnh⟩ : ∃ n, n = hs.length := ⟨_, rfl⟩
  rw [← hnh] at HGh hch1 hath hb1 ⊢
  have HNh := Lib.hid hnh
  have HATh := Lib.hid hath
  clear hnh hath h1
  have HGw := Lib.hid h2
  have HBw := Lib.hid hb2
  obtain ⟨aow, cpw, rfl, hcw1, hcw2, hatw⟩ := h2.get
  obtain ⟨nw, hnw⟩ : ∃ n, n = ws.length := ⟨_, rfl⟩
  rw [← hnw] at HGw hcw1 hatw hb2 ⊢
  have HNw := Lib.hid hnw
  have HATw := Lib.hid hatw
  clear hnw hatw h2
  have HS : Hid (St none default w0 w0 []) := St.start w0
  go_enter Tryz.func39, Tryz.ntmps39
  go_wp2_with (first | (refine sx_box HS rfl 25 (.tmp 0) rfl [.slice aoh nh cph, .slice aow nw cpw] rfl ?_; clear HS; intro w b2 HS) | (refine sx_box HS rfl 29 (.tmp 1) rfl g.lst rfl ?_; clear HS; intro w b3 HS) | (refine sx_loads HS (by rfl) 25 _ rfl 1 _ _ _ rfl 0 rfl 2 sh25 [.slice aoh nh cph, .slice aow nw cpw] rfl ⟨rfl, rfl, trivial⟩ ?_) | (refine sx_load HS (by rfl) 3 _ rfl 0 _ _ _ rfl 0 rfl _ sh3 (.int .i64 g.tx) rfl ?_) | (refine sx_loads HS (by rfl) 27 _ rfl 0 _ _ _ rfl 1 rfl 2 sh27 [.int .i64 g.page, .int .i64 g.slot] rfl ⟨rfl, rfl, trivial⟩ ?_))
  replace HS : Hid (St none default w0 w [(b3, 29, [.int .i64 g.tx, .int .i64 g.page, .int .i64 g.slot, .int .i64 g.mode]), (b2, 25, [.slice aoh nh cph, .slice aow nw cpw])]) := HS
  refine (rf_mode w _ _ hs g.tx g.page g.slot (HGh.out.ext HS.out.isExt) rfl).mono ?_
  rintro e w ⟨he, hx⟩
  replace HS := Lib.hid (HS.out.ext hx)
  clear hx
  rw [modeF_key hs ⟨g.tx, g.page, g.slot, 0⟩ g rfl rfl rfl] at he
  obtain ⟨mg, hmg⟩ : ∃ m, m = modeF hs g := ⟨_, rfl⟩
  rw [← hmg] at he
  have HMG := Lib.hid hmg
  clear hmg
  subst he
  cases hd : (mg == 0) with
  | true =>
    have h0 : mg = 0 := by simpa using hd
    have HF : Hid (placeR hs ws g = nw) := Lib.hid (by unfold placeR; rw [← HMG.out, if_pos h0, HNw.out])
    clear h0
    go_wp2_with (first | (refine sx_load HS (by rfl) 23 _ rfl 1 _ _ _ rfl 1 rfl _ sh23 (.slice aow nw cpw) rfl ?_))
    go_ret
    exact ⟨ret_int (by rw [HF.out]), HS.out.isExt⟩
  | false =>
    have h0 : ¬ mg = 0 := by simpa using hd
    have HF0 : Hid (placeR hs ws g = (ws.findIdx? (fun x => sameLock x g && (modeF hs x == 0))).getD ws.length) := Lib.hid (by unfold placeR; rw [← HMG.out, if_neg h0])
    clear HMG h0
    go_wp2_with fail
    clear hd
    go_loopw [5] (fun s5 wr => ∃ i : Nat, i ≤ nw ∧ s5 = .int .i64 i ∧ Hid (∀ (j : Nat) (y : G), j < i → ws[j]? = some y → (fun x => sameLock x g && (modeF hs x == 0)) y = false) ∧ Hid (St none default w0 wr [(b3, 29, [.int .i64 g.tx, .int .i64 g.page, .int .i64 g.slot, .int .i64 g.mode]), (b2, 25, [.slice aoh nh cph, .slice aow nw cpw])])) (fun s5 _ => nw - (intOf s5).toNat)
    case atStart => exact ⟨0, Nat.zero_le _, rfl, (fun j y hj => absurd hj (Nat.not_lt_zero _)), HS⟩
    case round =>
      clear HS
      obtain ⟨i, hi, rfl, H0, HS⟩ := hrel
      by_cases hlt : i < nw
      · skip
        obtain ⟨x, hx⟩ := list_get_of_lt ws i nw HNw.out.symm hlt
        obtain ⟨gq, off, rfl, hcell⟩ := HATw.out (by omega)
        have HX := Lib.hid hx
        have HC := Lib.hid (hcell i x hx)
        clear hcell hx
        go_upto_region 7 with (first | (refine sx_load HS (by rfl) 23 _ rfl 1 _ _ _ rfl 1 rfl _ sh23 (.slice (some ⟨gq, off, none⟩) nw cpw) rfl ?_) | (refine sx_loadsC (by rfl) 29 _ rfl gq (off + i * 4) rfl 4 sh29 (x.lst) rfl (HC.out _ HS.out.isExt) ?_) | (refine sx_alloc HS rfl 29 rfl _ zr29 ?_; clear HS; intro w b6 HS) | (refine sx_store_all HS (by rfl) 29 _ _ rfl rfl 0 _ _ _ rfl rfl x.lst rfl 4 sh29 rfl rfl rfl ?_; clear HS; intro w HS))
        replace HS : Hid (St none default w0 w [(b6, 29, [.int .i64 x.tx, .int .i64 x.page, .int .i64 x.slot, .int .i64 x.mode]), (b3, 29, [.int .i64 g.tx, .int .i64 g.page, .int .i64 g.slot, .int .i64 g.mode]), (b2, 25, [.slice aoh nh cph, .slice (some ⟨gq, off, none⟩) nw cpw])]) := HS
        have hq := eql_lock x.page x.slot g.page g.slot
        cases hsl : ((x.page == g.page) && (x.slot == g.slot)) with
        | false =>
          rw [hsl] at hq
          obtain ⟨bno, hbno⟩ : ∃ b : Bool, b = false := ⟨_, rfl⟩
          rw [← hbno] at hq
          have H2 := Lib.hid (none_next (p := (fun x => sameLock x g && (modeF hs x == 0))) H0.out HX.out (show (sameLock x g && (modeF hs x == 0)) = false by unfold sameLock; rw [hsl]; rfl))
          clear hsl
          go_step
          refine sx_run (by rfl) (.pointer (some ⟨b6, 1, none⟩)) (by go_simp) ?_
          try simp only [Act.put, List.setIfInBounds_toArray, List.set_cons_zero, List.set_cons_succ]
          refine sx_loads HS (by rfl) 27 _ rfl 0 _ _ _ rfl 1 rfl 2 sh27 [.int .i64 x.page, .int .i64 x.slot] rfl ⟨rfl, rfl, trivial⟩ ?_
          try simp only [Act.put, List.setIfInBounds_toArray, List.set_cons_zero, List.set_cons_succ]
          refine sx_run (by rfl) (.pointer (some ⟨b3, 1, none⟩)) (by go_simp) ?_
          try simp only [Act.put, List.setIfInBounds_toArray, List.set_cons_zero, List.set_cons_succ]
          refine sx_loads HS (by rfl) 27 _ rfl 1 _ _ _ rfl 1 rfl 2 sh27 [.int .i64 g.page, .int .i64 g.slot] rfl ⟨rfl, rfl, trivial⟩ ?_
          try simp only [Act.put, List.setIfInBounds_toArray, List.set_cons_zero, List.set_cons_succ]
          refine sx_run (by rfl) (.bool bno) (by go_simp) ?_
          try simp only [Act.put, List.setIfInBounds_toArray, List.set_cons_zero, List.set_cons_succ]
          refine sx_run (by rfl) (.bool bno) (by rfl) ?_
          try simp only [Act.put, List.setIfInBounds_toArray, List.set_cons_zero, List.set_cons_succ]
          refine wpList_skip (by subst hbno; rfl) ?_
          try simp only [Act.put, List.setIfInBounds_toArray, List.set_cons_zero, List.set_cons_succ]
          refine wpList_skip (by subst hbno; rfl) ?_
          try simp only [Act.put, List.setIfInBounds_toArray, List.set_cons_zero, List.set_cons_succ]
          refine wpList_skip (by subst hbno; rfl) ?_
          try simp only [Act.put, List.setIfInBounds_toArray, List.set_cons_zero, List.set_cons_succ]
          refine wpList_skip (by subst hbno; rfl) ?_
          try simp only [Act.put, List.setIfInBounds_toArray, List.set_cons_zero, List.set_cons_succ]
          refine wpList_skip (by subst hbno; rfl) ?_
          try simp only [Act.put, List.setIfInBounds_toArray, List.set_cons_zero, List.set_cons_succ]
          refine wpList_skip (by subst hbno; rfl) ?_
          try simp only [Act.put, List.setIfInBounds_toArray, List.set_cons_zero, List.set_cons_succ]
          refine wpList_skip (by subst hbno; rfl) ?_
          try simp only [Act.put, List.setIfInBounds_toArray, List.set_cons_zero, List.set_cons_succ]
          refine sx_run (by rfl) (.bool bno) (by subst hbno; rfl) ?_
          try simp only [Act.put, List.setIfInBounds_toArray, List.set_cons_zero, List.set_cons_succ]
          subst hbno
          go_wp2_with fail
          replace HS : Hid (St none default w0 w [(b3, 29, [.int .i64 g.tx, .int .i64 g.page, .int .i64 g.slot, .int .i64 g.mode]), (b2, 25, [.slice aoh nh cph, .slice (some ⟨gq, off, none⟩) nw cpw])]) := Lib.hid (HS.out.drop 1)
          go_roundw
          case rel => exact ⟨i + 1, by omega, by go_num, H2, HS⟩
          case measure => simp [intOf]; omega
        | true =>
          rw [hsl] at hq
          have HSL := Lib.hid hsl
          clear hsl
          go_wp2_with (first | (refine sx_loads HS (by rfl) 27 _ rfl 0 _ _ _ rfl 1 rfl 2 sh27 [.int .i64 x.page, .int .i64 x.slot] rfl ⟨rfl, rfl, trivial⟩ ?_) | (refine sx_loads HS (by rfl) 27 _ rfl 1 _ _ _ rfl 1 rfl 2 sh27 [.int .i64 g.page, .int .i64 g.slot] rfl ⟨rfl, rfl, trivial⟩ ?_) | (refine sx_loads HS (by rfl) 25 _ rfl 2 _ _ _ rfl 0 rfl 2 sh25 [.slice aoh nh cph, .slice (some ⟨gq, off, none⟩) nw cpw] rfl ⟨rfl, rfl, trivial⟩ ?_) | (refine sx_load HS (by rfl) 3 _ rfl 0 _ _ _ rfl 0 rfl _ sh3 (.int .i64 x.tx) rfl ?_))
          refine (rf_mode w _ _ hs x.tx x.page x.slot (HGh.out.ext HS.out.isExt) rfl).mono ?_
          rintro e w ⟨he, hx⟩
          replace HS := Lib.hid (HS.out.ext hx)
          clear hx
          rw [modeF_key hs ⟨x.tx, x.page, x.slot, 0⟩ x rfl rfl rfl] at he
          obtain ⟨mx, hmx⟩ : ∃ m, m = modeF hs x := ⟨_, rfl⟩
          rw [← hmx] at he
          have HMX := Lib.hid hmx
          clear hmx hq
          subst he
          cases hd : (mx == 0) with
          | true =>
            have HF : Hid (placeR hs ws g = i) := Lib.hid (by rw [HF0.out, findIdx_at (p := (fun x => sameLock x g && (modeF hs x == 0))) HX.out (show (sameLock x g && (modeF hs x == 0)) = true by unfold sameLock; rw [HSL.out, ← HMX.out, hd]; rfl) H0.out]; rfl)
            go_wp2_with fail
            go_ret
            exact ⟨ret_int (by rw [HF.out]), HS.out.isExt⟩
          | false =>
            have H2 := Lib.hid (none_next (p := (fun x => sameLock x g && (modeF hs x == 0))) H0.out HX.out (show (sameLock x g && (modeF hs x == 0)) = false by rw [← HMX.out, hd]; simp))
            go_wp2_with fail
            replace HS : Hid (St none default w0 _ [(b3, 29, [.int .i64 g.tx, .int .i64 g.page, .int .i64 g.slot, .int .i64 g.mode]), (b2, 25, [.slice aoh nh cph, .slice (some ⟨gq, off, none⟩) nw cpw])]) := Lib.hid (HS.out.drop 1)
            go_roundw
            case rel => exact ⟨i + 1, by omega, by go_num, H2, HS⟩
            case measure => simp [intOf]; omega
      · skip
        have him : i = nw := by omega
        subst him
        have HF : Hid (placeR hs ws g = i) := Lib.hid (by rw [HF0.out, findIdx_no (p := (fun x => sameLock x g && (modeF hs x == 0))) fun j y hj hy => H0.out j y (by rw [HNw.out]; exact hj) hy]; exact HNw.out.symm)
        go_wp2_with (first | (refine sx_load HS (by rfl) 23 _ rfl 1 _ _ _ rfl 1 rfl _ sh23 (.slice aow i cpw) rfl ?_))
        go_ret
        exact ⟨ret_int (by rw [HF.out]), HS.out.isExt⟩
end Go.Proofs.YtnfkplohpjfocaaGreat
