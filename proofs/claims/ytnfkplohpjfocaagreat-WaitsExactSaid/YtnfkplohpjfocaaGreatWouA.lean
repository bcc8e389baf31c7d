/-
  The contracts of waits.Would, waits.For and pagemendref09.Ints.
-/
import Derived.Test.YtnfkplohpjfocaaGreatReqA
set_option linter.unusedVariables false
set_option linter.unusedSimpArgs false
namespace Go.Proofs.YtnfkplohpjfocaaGreat
open Go.RowKit
theorem req_len {hs ws u v : List G} {g : G} {b : Bool} (h : reqF hs ws g = some (u, v, b)) (h1 : hs.length ≤ 400000) (h2 : ws.length ≤ 400000) : u.length ≤ 1000000 ∧ v.length ≤ 1000000 := by
  unfold reqF at h
  split at h
  · split at h
    · split at h
      · cases h; omega
      · cases h
    · split at h
      · cases h; omega
      · split at h
        · cases h
        · cases h
          have := settle_len hs (ws.take (placeF hs ws g) ++ g :: ws.drop (placeF hs ws g))
          simp only [List.length_append, List.length_cons, List.length_take, List.length_drop] at this
          omega
  · cases h
def WouPost (hs ws : List G) (g : G) (w0 : World) (e : Ending) (w' : World) : Prop :=
  (reqF hs ws g = none ∧ reqE hs ws g ≠ 0 ∧ e = .returned (.tuple #[.slice none 0 0, .int .i64 (reqE hs ws g)]) ∧ Ext w0 w') ∨
  (∃ (u v : List G) (b : Bool) (vl : Value), reqF hs ws g = some (u, v, b) ∧ reqE hs ws g = 0 ∧ e = .returned (.tuple #[vl, .int .i64 0]) ∧ IntsNew (cycF u v g.tx) w0 vl w')
set_option maxHeartbeats 4000000 in
set_option maxRecDepth 100000 in
theorem wt_would (w0 : World) (vh vw : Value) (hs ws : List G) (g : G) (h1 : GsAt w0 vh hs) (h2 : GsAt w0 vw ws) (hb1 : hs.length ≤ 400000) (hb2 : ws.length ≤ 400000) : Calls Tryz.prog 15 #[.agg #[vh, vw], .agg g.arr] w0 (WouPost hs ws g w0) := by
  have HG1 := Lib.hid h1
  have HG2 := Lib.hid h2
  have HB1 := Lib.hid hb1
  have HB2 := Lib.hid hb2
  obtain ⟨aoh, cph, rfl, hch1, hch2, -⟩ := h1.get
  obtain ⟨aow, cpw, rfl, hcw1, hcw2, -⟩ := h2.get
  obtain ⟨nh, hnh⟩ : ∃ n, n = hs.length := ⟨_, rfl⟩
  obtain ⟨nw, hnw⟩ : ∃ n, n = ws.length := ⟨_, rfl⟩
  rw [← hnh] at HG1 hch1 hb1 ⊢
  rw [← hnw] at HG2 hcw1 hb2 ⊢
  have HNH := Lib.hid hnh
  have HNW := Lib.hid hnw
  clear h1 h2 hnh hnw
  have HS : Hid (St none default w0 w0 []) := St.start w0
  go_enter Tryz.func15, Tryz.ntmps15
  go_wp2_with (first | (refine sx_box HS rfl 25 (.tmp 0) rfl [.slice aoh nh cph, .slice aow nw cpw] rfl ?_; clear HS; intro w b2 HS) | (refine sx_box HS rfl 29 (.tmp 1) rfl g.lst rfl ?_; clear HS; intro w b3 HS) | (refine sx_loads HS (by rfl) 25 (.tmp 2) rfl 1 _ _ _ rfl 0 rfl 2 sh25 [.slice aoh nh cph, .slice aow nw cpw] rfl ⟨rfl, rfl, trivial⟩ ?_) | (refine sx_load_all HS (by rfl) 29 (.tmp 3) rfl 0 _ _ _ rfl rfl 4 sh29 rfl ?_))
  replace HS : Hid (St none default w0 w [(b3, 29, g.lst), (b2, 25, [.slice aoh nh cph, .slice aow nw cpw])]) := HS
  refine (lk_request w _ _ hs ws g (HG1.out.ext HS.out.isExt) (HG2.out.ext HS.out.isExt) HB1.out HB2.out).mono ?_
  rintro e w1 (⟨hF, hE, he, hx⟩ | ⟨b, hF, hE, he, hx⟩ | ⟨R, b, v1, v2, l1, l2, hF, hE, he, hst, hr1, hr2⟩)
  · obtain ⟨E, hEE⟩ : ∃ E, E = reqE hs ws g := ⟨_, rfl⟩
    rw [← hEE] at hE he
    have HEE := Lib.hid hEE
    have HF := Lib.hid hF
    subst he
    replace HS := Lib.hid (HS.out.ext hx)
    clear hx hEE hF
    go_wp2_with (first | (refine sx_alloc HS (by rfl) 25 rfl _ zr25 ?_; clear HS; intro w b6 HS) | (refine sx_store_all HS (by rfl) 25 (.tmp 6) (.tmp 13) rfl rfl 0 _ _ _ rfl rfl [.slice none 0 0, .slice none 0 0] rfl 2 sh25 rfl rfl rfl ?_; clear HS; intro w HS))
    go_ret2
    refine .inl ⟨HF.out, by rw [← HEE.out]; exact hE, ?_, HS.out.isExt⟩
    rw [← HEE.out]
    rfl
  · have HE := Lib.hid hE
    have HF := Lib.hid hF
    subst he
    replace HS := Lib.hid (HS.out.ext hx)
    clear hx hE hF
    go_wp2_with (first | (refine sx_alloc HS (by rfl) 25 rfl _ zr25 ?_; clear HS; intro w b6 HS) | (refine sx_store_all HS (by rfl) 25 (.tmp 6) (.tmp 13) rfl rfl 0 _ _ _ rfl rfl [.slice aoh nh cph, .slice aow nw cpw] rfl 2 sh25 rfl rfl rfl ?_; clear HS; intro w HS) | (refine sx_loads HS (by rfl) 25 (.tmp 6) rfl 0 _ _ _ rfl 0 rfl 2 sh25 [.slice aoh nh cph, .slice aow nw cpw] rfl ⟨rfl, rfl, trivial⟩ ?_) | (refine sx_load HS (by rfl) 3 (.tmp 20) rfl 1 _ _ _ rfl 0 rfl _ sh3 (.int .i64 g.tx) rfl ?_))
    refine (wt_cycle w _ _ hs ws g.tx (HG1.out.ext HS.out.isExt) (HG2.out.ext HS.out.isExt) (Nat.le_trans HB1.out (by decide)) (Nat.le_trans HB2.out (by decide))).mono ?_
    rintro e w1 ⟨vl, lr, rfl, hst, hr⟩
    replace HS := Lib.hid (HS.out.call hst)
    have HR := Lib.hid hr
    clear hst hr
    go_wp2_with fail
    go_ret2
    exact .inr ⟨hs, ws, b, vl, HF.out, HE.out, rfl, lr, HS.out.sub (List.sublist_append_left _ _), HR.out⟩
  · have HE := Lib.hid hE
    have HF := Lib.hid hF
    subst he
    replace HS : Hid (St none default w0 w1 ((b3, 29, g.lst) :: (b2, 25, [.slice aoh nh cph, .slice aow nw cpw]) :: (l1 ++ (l2 ++ [])))) := Lib.hid ((HS.out.call hst).perm (by simpa using List.perm_append_comm (l₁ := [(b3, 29, g.lst), (b2, 25, [.slice aoh nh cph, .slice aow nw cpw])]) (l₂ := l1 ++ l2)))
    have HR1 := Lib.hid hr1
    have HR2 := Lib.hid hr2
    have HLL : Hid (R.1.length ≤ 1000000 ∧ R.2.length ≤ 1000000) := Lib.hid (req_len hF (by rw [← HNH.out]; omega) (by rw [← HNW.out]; omega))
    clear hst hr1 hr2 hE hF
    go_wp2_with (first | (refine sx_alloc HS (by rfl) 25 rfl _ zr25 ?_; clear HS; intro w b6 HS) | (refine sx_store_all HS (by rfl) 25 (.tmp 6) (.tmp 13) rfl rfl 0 _ _ _ rfl rfl [v1, v2] rfl 2 sh25 rfl rfl (by simp [HR1.out.one, HR2.out.one]) ?_; clear HS; intro w HS) | (refine sx_loads HS (by rfl) 25 (.tmp 6) rfl 0 _ _ _ rfl 0 rfl 2 sh25 [v1, v2] rfl ⟨rfl, rfl, trivial⟩ ?_) | (refine sx_load HS (by rfl) 3 (.tmp 20) rfl 1 _ _ _ rfl 0 rfl _ sh3 (.int .i64 g.tx) rfl ?_))
    refine (wt_cycle w _ _ R.1 R.2 g.tx (GsAt.own (lr := l1) HS.out (fun e he => by simp [he]) HR1.out) (GsAt.own (lr := l2) HS.out (fun e he => by simp [he]) HR2.out) HLL.out.1 HLL.out.2).mono ?_
    rintro e w1 ⟨vl, lr, rfl, hst, hr⟩
    replace HS := Lib.hid (HS.out.call hst)
    have HR := Lib.hid hr
    clear hst hr
    go_wp2_with fail
    go_ret2
    exact .inr ⟨R.1, R.2, b, vl, HF.out, HE.out, rfl, lr, HS.out.sub (List.sublist_append_left _ _), HR.out⟩
set_option maxHeartbeats 4000000 in
set_option maxRecDepth 100000 in
theorem wt_for (w0 : World) (vh vw : Value) (hs ws : List G) (tx : Int) (h1 : GsAt w0 vh hs) (h2 : GsAt w0 vw ws) (hb1 : hs.length ≤ 400000) (hb2 : ws.length ≤ 400000) : Calls Tryz.prog 10 #[.agg #[vh, vw], .int .i64 tx] w0 (fun e w' => ∃ v, e = .returned v ∧ IntsNew (forF hs ws tx) w0 v w') := by
  have HG1 := Lib.hid h1
  have HG2 := Lib.hid h2
  have HB1 := Lib.hid hb1
  have HB2 := Lib.hid hb2
  obtain ⟨aoh, cph, rfl, hch1, hch2, -⟩ := h1.get
  obtain ⟨aow, cpw, rfl, hcw1, hcw2, -⟩ := h2.get
  obtain ⟨nh, hnh⟩ : ∃ n, n = hs.length := ⟨_, rfl⟩
  obtain ⟨nw, hnw⟩ : ∃ n, n = ws.length := ⟨_, rfl⟩
  rw [← hnh] at HG1 hch1 hb1 ⊢
  rw [← hnw] at HG2 hcw1 hb2 ⊢
  have HNH := Lib.hid hnh
  have HNW := Lib.hid hnw
  clear h1 h2 hnh hnw
  have HS : Hid (St none default w0 w0 []) := St.start w0
  go_enter Tryz.func10, Tryz.ntmps10
  go_wp2_with (first | (refine sx_box HS rfl 25 (.tmp 0) rfl [.slice aoh nh cph, .slice aow nw cpw] rfl ?_; clear HS; intro w b2 HS) | (refine sx_loads HS (by rfl) 25 (.tmp 2) rfl 0 _ _ _ rfl 0 rfl 2 sh25 [.slice aoh nh cph, .slice aow nw cpw] rfl ⟨rfl, rfl, trivial⟩ ?_))
  replace HS : Hid (St none default w0 w [(b2, 25, [.slice aoh nh cph, .slice aow nw cpw])]) := HS
  refine (lk_valid w _ _ hs ws (HG1.out.ext HS.out.isExt) (HG2.out.ext HS.out.isExt) (Nat.le_trans HB1.out (by decide)) (Nat.le_trans HB2.out (by decide))).mono ?_
  rintro e w ⟨he, hx⟩
  replace HS := Lib.hid (HS.out.ext hx)
  clear hx
  cases hval : validT hs ws with
  | false =>
    rw [hval] at he
    subst he
    have HF : Hid (forF hs ws tx = []) := Lib.hid (by unfold forF; rw [hval]; rfl)
    clear hval
    go_wp2_with fail
    go_ret
    exact ⟨_, rfl, [], HS.out.sub (List.nil_sublist _), by rw [HF.out]; exact OwnRow.nil⟩
  | true =>
    rw [hval] at he
    subst he
    have HF : Hid (forF hs ws tx = blockF hs ws tx) := Lib.hid (by unfold forF; rw [hval]; rfl)
    clear hval
    go_wp2_with (refine sx_loads HS (by rfl) 25 (.tmp 2) rfl 0 _ _ _ rfl 0 rfl 2 sh25 [.slice aoh nh cph, .slice aow nw cpw] rfl ⟨rfl, rfl, trivial⟩ ?_)
    refine (wt_blockers w _ _ hs ws tx (HG1.out.ext HS.out.isExt) (HG2.out.ext HS.out.isExt) (Nat.le_trans HB1.out (by decide)) (Nat.le_trans HB2.out (by decide))).mono ?_
    rintro e w1 ⟨vl, lr, rfl, hst, hr⟩
    replace HS := Lib.hid (HS.out.call hst)
    have HR := Lib.hid hr
    clear hst hr
    go_wp2_with fail
    go_ret
    exact ⟨_, rfl, lr, HS.out.sub (List.sublist_append_left _ _), by rw [HF.out]; exact HR.out⟩
def intsB (a b : List Int) : Bool := decide (a = b)
set_option maxHeartbeats 4000000 in
set_option maxRecDepth 100000 in
theorem rf_ints (w0 : World) (va vb : Value) (a b : List Int) (h1 : IsAt w0 va a) (h2 : IsAt w0 vb b) : Calls Tryz.prog 9 #[va, vb] w0 (fun e w' => e = .returned (.bool (decide (a = b))) ∧ Ext w0 w') := by
  obtain ⟨aa, ca, rfl, ha1, ha2, hata⟩ := h1.get
  obtain ⟨ab, cb, rfl, hb1, hb2, hatb⟩ := h2.get
  obtain ⟨na, hna⟩ : ∃ n, n = a.length := ⟨_, rfl⟩
  obtain ⟨nb, hnb⟩ : ∃ n, n = b.length := ⟨_, rfl⟩
  rw [← hna] at ha1 hata ⊢
  rw [← hnb] at hb1 hatb ⊢
  have HNA := Lib.hid hna
  have HNB := Lib.hid hnb
  have HATA := Lib.hid hata
  have HATB := Lib.hid hatb
  clear hna hnb hata hatb h1 h2
  have HS : Hid (St none default w0 w0 []) := St.start w0
  by_cases hl : na = nb
  · subst hl
    have HS2 : Hid (Ext w0 w0) := Lib.hid (Ext.refl _)
    go_enter Tryz.func9, Tryz.ntmps9
    go_wp2_with fail
    go_loopw [5] (fun s wr => ∃ i : Nat, i ≤ na ∧ s = .int .i64 i ∧ Hid (∀ j, j < i → a[j]? = b[j]?) ∧ Hid (St none default w0 wr [])) (fun s _ => na - (intOf s).toNat)
    case atStart => exact ⟨0, Nat.zero_le _, rfl, (fun j h => absurd h (Nat.not_lt_zero _)), HS⟩
    case round =>
      clear HS HS2
      obtain ⟨i, hi, rfl, HI, HS⟩ := hrel
      by_cases hlt : i < na
      · obtain ⟨x, hx⟩ := list_get_of_lt a i na HNA.out.symm hlt
        obtain ⟨y, hy⟩ := list_get_of_lt b i na HNB.out.symm hlt
        obtain ⟨g1, o1, rfl, hc1⟩ := HATA.out (by omega)
        obtain ⟨g2, o2, rfl, hc2⟩ := HATB.out (by omega)
        have HX := Lib.hid hx
        have HY := Lib.hid hy
        have HC1 := Lib.hid (hc1 i x hx)
        have HC2 := Lib.hid (hc2 i y hy)
        clear hc1 hc2 hx hy
        have c1 := HC1.out wr HS.out.isExt
        have c2 := HC2.out wr HS.out.isExt
        by_cases hxy : x = y
        · subst hxy
          go_wp2_with fail
          go_quiet (fail)
          replace HS := Lib.hid (HS.out.drewN nq)
          clear c1 c2
          go_wp2_with fail
          go_roundw
          case rel => exact ⟨i + 1, by omega, by go_num, Lib.hid (fun j hj => by
            by_cases e : j = i
            · subst e; exact HX.out.trans HY.out.symm
            · exact HI.out j (by omega)), HS⟩
          case measure => simp [intOf]; omega
        · go_wp2_with fail
          go_quiet (fail)
          replace HS := Lib.hid (HS.out.drewN nq)
          clear c1 c2
          go_wp2_with fail
          go_ret
          refine ⟨ret_bool ?_, HS.out.isExt⟩
          symm
          rw [decide_eq_false_iff_not]
          rintro rfl
          have := HX.out.symm.trans HY.out
          cases this
          exact hxy rfl
      · have hin : i = na := by omega
        subst hin
        go_wp2_with fail
        go_ret
        refine ⟨ret_bool ?_, HS.out.isExt⟩
        symm
        rw [decide_eq_true_eq]
        refine List.ext_getElem? fun j => ?_
        by_cases hj : j < i
        · exact HI.out j hj
        · rw [List.getElem?_eq_none (by rw [← HNA.out]; omega), List.getElem?_eq_none (by rw [← HNB.out]; omega)]
  · have HNE : Hid (¬ a = b) := Lib.hid (fun e => hl (by rw [HNA.out, HNB.out, e]))
    go_enter Tryz.func9, Tryz.ntmps9
    go_wp2_with fail
    go_ret
    exact ⟨ret_bool (by simp [HNE.out]), HS.out.isExt⟩
end Go.Proofs.YtnfkplohpjfocaaGreat
