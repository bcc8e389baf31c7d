/-
  What locks.settle does, round by round, plainly. No function of the program is named here.
-/
import Derived.Test.YtnfkplohpjfocaaGreatPlA
import Derived.Test.YtnfkplohpjfocaaGreatInsG
set_option linter.unusedVariables false
set_option linter.unusedSimpArgs false
namespace Go.Proofs.YtnfkplohpjfocaaGreat
open Go.RowKit
theorem putF_len (g : G) : ∀ hs : List G, (putF g hs).length ≤ hs.length + 1
  | [] => by simp [putF]
  | x :: l => by
    unfold putF
    split
    · have := putF_len g l; simp only [List.length_cons]; omega
    · split <;> simp
/-- one pass is under way: what is left of it, and the bounds that it keeps -/
structure PassInv (R : List G × List G × Bool) (w0 : Nat) (c0 : Bool) (m : Nat) (hs ws : List G) (i : Nat) (c : Bool) : Prop where
  eq : R = passF m hs ws i c
  at_ : i + m = ws.length
  le : ws.length ≤ w0
  lt : c = true → c0 = false → ws.length < w0
theorem PassInv.start (hs ws : List G) : PassInv (passF ws.length hs ws 0 false) ws.length false ws.length hs ws 0 false := ⟨rfl, by omega, Nat.le_refl _, fun h => by cases h⟩
theorem PassInv.skip {R : List G × List G × Bool} {w0 m : Nat} {c0 : Bool} {hs ws : List G} {i : Nat} {c : Bool} (h : PassInv R w0 c0 (m + 1) hs ws i c) (hb : blockedB hs ws i = true) : PassInv R w0 c0 m hs ws (i + 1) c := by
  refine ⟨?_, by have := h.at_; omega, h.le, h.lt⟩
  have hi : i < ws.length := by have := h.at_; omega
  rw [h.eq]
  conv => lhs; unfold passF
  rw [List.getElem?_eq_getElem hi]
  simp [hb]
theorem PassInv.move {R : List G × List G × Bool} {w0 m : Nat} {c0 : Bool} {hs ws : List G} {i : Nat} {c : Bool} {g : G} (h : PassInv R w0 c0 (m + 1) hs ws i c) (hg : ws[i]? = some g) (hb : blockedB hs ws i = false) : PassInv R w0 c0 m (putF g hs) (ws.eraseIdx i) i true := by
  have hi : i < ws.length := by have := h.at_; omega
  have hl : (ws.eraseIdx i).length = ws.length - 1 := List.length_eraseIdx_of_lt hi
  refine ⟨?_, by have := h.at_; omega, by have := h.le; omega, fun _ _ => by have := h.le; omega⟩
  rw [h.eq]
  conv => lhs; unfold passF
  rw [hg]
  simp [hb]
theorem PassInv.done {R : List G × List G × Bool} {w0 m : Nat} {c0 : Bool} {hs ws : List G} {i : Nat} {c : Bool} (h : PassInv R w0 c0 m hs ws i c) (hi : ws.length ≤ i) : R = (hs, ws, c) := by
  have : m = 0 := by have := h.at_; omega
  subst this
  exact h.eq
/-- the rounds that are to come -/
def SetInv (R : List G × List G) (k : Nat) (hs ws : List G) : Bool → Prop
  | true => R = settleF k hs ws ∧ ws.length < k
  | false => R = (hs, ws)
theorem SetInv.start (hs ws : List G) : SetInv (settle hs ws) (ws.length + 1) hs ws true := ⟨rfl, by omega⟩
theorem SetInv.next {R : List G × List G} {k : Nat} {hs ws : List G} (h : SetInv R k hs ws true) {hs' ws' : List G} {c : Bool} (hp : PassInv (passF ws.length hs ws 0 false) ws.length false 0 hs' ws' ws'.length c) : 0 < k ∧ SetInv R (k - 1) hs' ws' c := by
  obtain ⟨h1, h2⟩ := h
  obtain ⟨j, rfl⟩ : ∃ j, k = j + 1 := ⟨k - 1, by omega⟩
  have e := hp.done (Nat.le_refl _)
  refine ⟨by omega, ?_⟩
  have h3 : R = if c then settleF j hs' ws' else (hs', ws') := by rw [h1]; conv => lhs; unfold settleF; 
                                                                  rw [e]
  cases c with
  | true => exact ⟨by simpa using h3, by have := hp.lt rfl rfl; simp only [Nat.add_sub_cancel]; omega⟩
  | false => exact by simpa [SetInv] using h3
theorem found_at {gs : List G} {g : G} {i : Nat} (hs : sortedG gs) (h0 : i ≤ gs.length) (h1 : ∀ x, 0 < i → gs[i - 1]? = some x → ordI x ⟨g.tx, g.page, g.slot, 0⟩ < 0) (h2 : ∀ x, gs[i]? = some x → 0 ≤ ordI x ⟨g.tx, g.page, g.slot, 0⟩) : Found gs g i := found_of hs h0 h1 h2
theorem gL_mode {pre junk : List Value} {hs : List G} {i : Nat} {g x : G} (hx : hs[i]? = some x) (hk : ordI x g = 0) : (pre ++ (gL hs ++ junk)).set (pre.length + i * 4 + 3) (.int .i64 g.mode) = pre ++ (gL (hs.set i g) ++ junk) := by
  obtain ⟨hi, rfl⟩ := List.getElem?_eq_some_iff.1 hx
  have h1 := gL_cut hi
  have hl : (gL (hs.take i)).length = i * 4 := by rw [gL_len, List.length_take]; congr 1; omega
  have e : hs.set i g = hs.take i ++ g :: hs.drop (i + 1) := List.set_eq_take_append_cons_drop.trans (by rw [if_pos hi])
  rw [e, h1, gL_append, gL_cons, ← hl]
  have hz := ordI_zero.1 hk
  have e2 : pre.length + (gL (hs.take i)).length + 3 = (pre ++ gL (hs.take i)).length + 3 := by rw [List.length_append]
  have e3 : pre ++ (gL (hs.take i) ++ ((hs[i]).lst ++ gL (hs.drop (i + 1))) ++ junk) = (pre ++ gL (hs.take i)) ++ ((hs[i]).lst ++ (gL (hs.drop (i + 1)) ++ junk)) := by simp
  rw [e2, e3, List.set_append_right _ _ (by omega), Nat.add_sub_cancel_left]
  have e4 : ((hs[i]).lst ++ (gL (hs.drop (i + 1)) ++ junk)).set 3 (.int .i64 g.mode) = g.lst ++ (gL (hs.drop (i + 1)) ++ junk) := by
    unfold G.lst
    rw [hz.1, hz.2.1, hz.2.2]
    rfl
  rw [e4]
  simp
theorem build_grant (g : G) (w : World) : (Instr.buildSlice 23 1 ([(0, .agg g.arr)] : List (Nat × Value)).toArray).run Tryz.prog w = .ok (.slice (some ⟨w.heap.size, 0, none⟩) 1 1) (w.alloc (.cells g.lst.toArray 29)) := by
  have := run_slice_rows (P := Tryz.prog) 23 29 1 4 (by omega) (by omega) (by omega) Tryz.underlying23 (by kernel_rfl) [g.lst] rfl (by intro x hx; simp at hx; subst hx; rfl) w
  rw [List.flatten_cons, List.flatten_nil, List.append_nil] at this
  exact this
end Go.Proofs.YtnfkplohpjfocaaGreat

namespace Go.Proofs.YtnfkplohpjfocaaGreat
open Go.RowKit
/-- A call has changed the two rows of a table that are the caller's own. -/
def TabPost (q : CodeRow) (w0 : World) (ll : List (Nat × TypeId × List Value)) (R : List G × List G) (e : Ending) (w' : World) : Prop := ∃ (vh vw : Value) (lh lw : List (Nat × TypeId × List Value)), e = .returned (.agg #[vh, vw]) ∧ St none q w0 w' (lh ++ (lw ++ ll)) ∧ OwnRow 29 4 lh vh R.1.length (gL R.1) ∧ OwnRow 29 4 lw vw R.2.length (gL R.2)
set_option maxHeartbeats 8000000 in
set_option maxRecDepth 100000 in
theorem lk_settle (q : CodeRow) (w0 w : World) (lh lw ll : List (Nat × TypeId × List Value)) (vh vw : Value) (hs ws : List G) (hst : St none q w0 w (lh ++ (lw ++ ll))) (hrh : OwnRow 29 4 lh vh hs.length (gL hs)) (hrw : OwnRow 29 4 lw vw ws.length (gL ws)) (hsort : sortedG hs) (hb : hs.length + ws.length ≤ 1000000) : Calls Tryz.prog 59 #[.agg #[vh, vw]] w (TabPost q w0 ll (settle hs ws)) := by
  have HRH := Lib.hid hrh
  have HRW := Lib.hid hrw
  have HSO := Lib.hid hsort
  have HB := Lib.hid hb
  have HS := Lib.hid hst
  obtain ⟨aoh, cph, rfl, -, -⟩ := hrh.form
  obtain ⟨aow, cpw, rfl, -, -⟩ := hrw.form
  obtain ⟨nh, hnh⟩ : ∃ n, n = hs.length := ⟨_, rfl⟩
  obtain ⟨nw, hnw⟩ : ∃ n, n = ws.length := ⟨_, rfl⟩
  rw [← hnh] at HRH ⊢
  rw [← hnw] at HRW ⊢
  have HNH := Lib.hid hnh
  have HNW := Lib.hid hnw
  have HSI : Hid (SetInv (settle hs ws) (nw + 1) hs ws true) := Lib.hid (by rw [hnw]; exact SetInv.start hs ws)
  obtain ⟨R, hR⟩ : ∃ R, R = settle hs ws := ⟨_, rfl⟩
  rw [← hR] at HSI ⊢
  clear hst hrh hrw hsort hb hnh hnw hR
  go_enter Tryz.func59, Tryz.ntmps59
  go_wp2_with (first | (refine sx_box HS rfl _ _ rfl [.slice aoh nh cph, .slice aow nw cpw] rfl ?_; clear HS; intro w b1 HS) | (refine sx_alloc HS rfl 25 rfl _ zr25 ?_; clear HS; intro w b2 HS))
  go_loopg [3] (nw + 1) (fun k s3 wr => ∃ (c : Bool) (hs ws : List G) (vh vw : Value) (lh lw : List (Nat × TypeId × List Value)), s3 = .bool c ∧ Hid (SetInv R k hs ws c) ∧ Hid (sortedG hs) ∧ Hid (hs.length + ws.length ≤ 1000000) ∧ Hid (OwnRow 29 4 lh vh hs.length (gL hs)) ∧ Hid (OwnRow 29 4 lw vw ws.length (gL ws)) ∧ Hid (St none q w0 wr ((b2, 25, [.slice none 0 0, .slice none 0 0]) :: (b1, 25, [vh, vw]) :: (lh ++ (lw ++ ll)))))
  case atStart => exact ⟨true, hs, ws, _, _, lh, lw, rfl, HSI, HSO, HB, by rw [← HNH.out]; exact HRH, by rw [← HNW.out]; exact HRW, HS⟩
  case round =>
    clear HS HSI HRH HRW HSO HB HNH HNW lh lw
    obtain ⟨ko, hko⟩ : ∃ k, k = gk := ⟨gk, rfl⟩
    subst hko
    obtain ⟨c, hs1, ws1, vh, vw, lh, lw, rfl, HSI, HSO, HB, HRH, HRW, HS⟩ := hrel
    cases c with
    | false =>
      have HR : Hid (R = (hs1, ws1)) := Lib.hid HSI.out
      clear HSI
      go_wp2_with (first | (refine sx_loads HS (by rfl) 25 (.tmp 1) rfl 1 _ _ _ rfl 0 rfl 2 sh25 [vh, vw] rfl ⟨rfl, rfl, trivial⟩ ?_) | (refine sx_store_all HS (by rfl) 25 (.tmp 2) (.tmp 56) rfl rfl 0 _ _ _ rfl rfl [vh, vw] rfl 2 sh25 rfl rfl (by simp [HRH.out.one, HRW.out.one]) ?_; clear HS; intro w HS))
      have hB : PBox w b2 25 [vh, vw] := HS.out.box (i := 0) rfl
      refine bodyPost_ret (results_c rfl rfl (run_load_cells sh25 rfl (fun j u hj => by rw [Nat.zero_add]; exact hB.cell hj))) rfl ?_
      rw [HR.out]
      exact ⟨vh, vw, lh, lw, rfl, HS.out.drop 2, HRH.out, HRW.out⟩
    | true =>
      obtain ⟨n1, hn1⟩ : ∃ n, n = ws1.length := ⟨_, rfl⟩
      obtain ⟨R1, hR1⟩ : ∃ R1, R1 = passF n1 hs1 ws1 0 false := ⟨_, rfl⟩
      have HPI : Hid (PassInv R1 n1 false n1 hs1 ws1 0 false) := Lib.hid (by rw [hR1, hn1]; exact PassInv.start hs1 ws1)
      have HN1 := Lib.hid hn1
      have HR1 := Lib.hid hR1
      clear hn1 hR1
      go_wp2_with fail
      go_loopg [3, 4] n1 (fun m s3 s4 wr => ∃ (c : Bool) (i : Nat) (hs ws : List G) (vh vw : Value) (lh lw : List (Nat × TypeId × List Value)), s3 = .bool c ∧ s4 = .int .i64 (i : Nat) ∧ Hid (PassInv R1 n1 false m hs ws i c) ∧ Hid (sortedG hs) ∧ Hid (hs.length + ws.length ≤ 1000000) ∧ Hid (OwnRow 29 4 lh vh hs.length (gL hs)) ∧ Hid (OwnRow 29 4 lw vw ws.length (gL ws)) ∧ Hid (St none q w0 wr ((b2, 25, [.slice none 0 0, .slice none 0 0]) :: (b1, 25, [vh, vw]) :: (lh ++ (lw ++ ll)))))
      case atStart => exact ⟨false, 0, hs1, ws1, vh, vw, lh, lw, rfl, rfl, HPI, HSO, HB, HRH, HRW, HS⟩
      case round =>
        clear HS HPI HRH HRW HSO HB lh lw vh vw
        obtain ⟨m, hm⟩ : ∃ k, k = gk := ⟨gk, rfl⟩
        subst hm
        obtain ⟨c, i, hs2, ws2, vh, vw, lh, lw, rfl, rfl, HPI, HSO, HB, HRH, HRW, HS⟩ := hrel
        obtain ⟨aoh, cph, rfl, hch1, hch2⟩ := HRH.out.form
        obtain ⟨aow, cpw, rfl, hcw1, hcw2⟩ := HRW.out.form
        have hch3 : cph ≤ 9223372036854775807 := hch2
        have hcw3 : cpw ≤ 9223372036854775807 := hcw2
        obtain ⟨nh2, hnh2⟩ : ∃ n, n = hs2.length := ⟨_, rfl⟩
        obtain ⟨nw2, hnw2⟩ : ∃ n, n = ws2.length := ⟨_, rfl⟩
        have hb := HB.out
        have him := HPI.out.at_
        rw [← hnh2] at HRH hch1 hb
        rw [← hnw2] at HRW hcw1 hb him
        rw [← hnh2, ← hnw2] at HS
        have HNH := Lib.hid hnh2
        have HNW := Lib.hid hnw2
        clear hnh2 hnw2 hch2 hcw2
        by_cases hlt : i < nw2
        · obtain ⟨k, rfl⟩ : ∃ k, m = k + 1 := ⟨m - 1, by omega⟩
          have HM : Hid (i + (k + 1) = nw2) := Lib.hid him
          clear him
          go_wp2_with (first | (refine sx_load HS (by rfl) 23 (.tmp 10) rfl 1 _ _ _ rfl 1 rfl _ sh23 (.slice aow nw2 cpw) rfl ?_) | (refine sx_loads HS (by rfl) 25 (.tmp 1) rfl 1 _ _ _ rfl 0 rfl 2 sh25 [.slice aoh nh2 cph, .slice aow nw2 cpw] rfl ⟨rfl, rfl, trivial⟩ ?_))
          have hgh : GsAt wr (.slice aoh nh2 cph) hs2 := GsAt.own (lr := lh) HS.out (fun e he => by simp [he]) (by rw [← HNH.out]; exact HRH.out)
          have hgw : GsAt wr (.slice aow nw2 cpw) ws2 := GsAt.own (lr := lw) HS.out (fun e he => by simp [he]) (by rw [← HNW.out]; exact HRW.out)
          refine (lk_blocked wr _ _ hs2 ws2 i hgh hgw (by rw [← HNH.out]; omega) (by rw [← HNW.out]; omega) (by rw [← HNW.out]; exact hlt)).mono ?_
          rintro e w ⟨he, hx⟩
          replace HS := Lib.hid (HS.out.ext hx)
          clear hx hgh hgw
          cases hbk : blockedB hs2 ws2 i with
          | true =>
            rw [hbk] at he
            subst he
            have HPI2 := Lib.hid (HPI.out.skip hbk)
            clear hbk HPI
            go_wp2_with fail
            go_roundg k
            case measure => omega
            case rel => exact ⟨c, i + 1, hs2, ws2, _, _, lh, lw, rfl, by go_num, HPI2, HSO, HB, by rw [← HNH.out]; exact HRH, by rw [← HNW.out]; exact HRW, HS⟩
          | false =>
            rw [hbk] at he
            subst he
            obtain ⟨g, hg⟩ : ∃ g, ws2[i]? = some g := ⟨_, List.getElem?_eq_getElem (by rw [← HNW.out]; exact hlt)⟩
            have HPI2 := Lib.hid (HPI.out.move hg hbk)
            have HG := Lib.hid hg
            clear hbk HPI hg
            obtain ⟨hxl, ⟨_, _, h0⟩ | ⟨gw, cw, prew, jw, rfl, hv, _, _, hj⟩⟩ := id HRW.out
            · omega
            cases hv
            obtain ⟨ow, how⟩ : ∃ o, o = prew.length := ⟨_, rfl⟩
            have HOW := Lib.hid how
            rw [← how] at HRW HS ⊢
            clear hxl hj how
            go_wp2_with (first | (refine sx_load HS (by rfl) 23 (.tmp 19) rfl 1 _ _ _ rfl 1 rfl _ sh23 (.slice (some ⟨gw, ow, none⟩) nw2 cpw) rfl ?_) | (refine sx_loadsC (by rfl) 29 (.tmp 22) rfl gw (ow + i * 4) rfl 4 sh29 g.lst rfl (row_cells (front := (b2, 25, [.slice none 0 0, .slice none 0 0]) :: (b1, 25, [.slice aoh nh2 cph, .slice (some ⟨gw, ow, none⟩) nw2 cpw]) :: lh) (ll := ll) HS.out HOW.out HG.out) ?_) | (refine sx_alloc HS (by rfl) 29 rfl _ zr29 ?_; clear HS; intro w b5 HS) | (refine sx_store_all HS (by rfl) 29 (.tmp 5) (.tmp 23) rfl rfl 0 _ _ _ rfl rfl g.lst rfl 4 sh29 rfl rfl rfl ?_; clear HS; intro w HS) | (refine sx_load HS (by rfl) 23 (.tmp 24) rfl 2 _ _ _ rfl 1 rfl _ sh23 (.slice (some ⟨gw, ow, none⟩) nw2 cpw) rfl ?_))
            replace HS : Hid (St none q w0 w ((b5, 29, g.lst) :: (b2, 25, [.slice none 0 0, .slice none 0 0]) :: (b1, 25, [.slice aoh nh2 cph, .slice (some ⟨gw, ow, none⟩) nw2 cpw]) :: (lh ++ ([(gw, 29, prew ++ (gL ws2 ++ jw))] ++ ll)))) := HS
            refine (gs_delete q w0 w ((b5, 29, g.lst) :: (b2, 25, [.slice none 0 0, .slice none 0 0]) :: (b1, 25, [.slice aoh nh2 cph, .slice (some ⟨gw, ow, none⟩) nw2 cpw]) :: lh) [(gw, 29, prew ++ (gL ws2 ++ jw))] ll _ ws2 i HS.out (by rw [← HNW.out]; exact HRW.out) (by rw [← HNW.out]; exact hlt) (by rw [← HNW.out]; omega)).mono ?_
            rintro e w ⟨v2, lw2, rfl, hst2, hrw2⟩
            clear HS
            have HS := Lib.hid hst2
            have HRW2 := Lib.hid hrw2
            clear hst2 hrw2
            go_wp2_with (first | (refine sx_store HS (by rfl) 23 (.tmp 30) (.tmp 29) rfl rfl 2 _ _ _ rfl 1 rfl sh23 v2 rfl HRW2.out.one rfl ?_; clear HS; intro w HS) | (refine sx_load HS (by rfl) 23 (.tmp 32) rfl 2 _ _ _ rfl 0 rfl _ sh23 (.slice aoh nh2 cph) rfl ?_) | (refine sx_load HS (by rfl) 3 (.tmp 34) rfl 0 _ _ _ rfl 0 rfl _ sh3 (.int .i64 g.tx) rfl ?_) | (refine sx_loads HS (by rfl) 27 (.tmp 36) rfl 0 _ _ _ rfl 1 rfl 2 sh27 [.int .i64 g.page, .int .i64 g.slot] rfl ⟨rfl, rfl, trivial⟩ ?_))
            replace HS : Hid (St none q w0 w ((b5, 29, g.lst) :: (b2, 25, [.slice none 0 0, .slice none 0 0]) :: (b1, 25, [.slice aoh nh2 cph, v2]) :: (lh ++ (lw2 ++ ll)))) := HS
            have hgh : GsAt w (.slice aoh nh2 cph) hs2 := GsAt.own (lr := lh) HS.out (fun e he => by simp [he]) (by rw [← HNH.out]; exact HRH.out)
            refine (lk_find w _ hs2 g.tx g.page g.slot hgh (by rw [← HNH.out]; omega)).mono ?_
            rintro e w ⟨p, h1, h2, h3, rfl, hx⟩
            replace HS := Lib.hid (HS.out.ext hx)
            have HFO := Lib.hid (found_at HSO.out h1 h2 h3)
            clear hx hgh h2 h3
            rw [← HNH.out] at h1
            have hhe : hitB hs2 ⟨g.tx, g.page, g.slot, 0⟩ p = hitB hs2 g p := rfl
            rw [hhe]
            clear hhe
            have HSO2 : Hid (sortedG (putF g hs2)) := Lib.hid (put_srt HSO.out)
            have HB2 : Hid ((putF g hs2).length + (ws2.eraseIdx i).length ≤ 1000000) := Lib.hid (by
              have e1 := putF_len g hs2
              have e2 : (ws2.eraseIdx i).length = ws2.length - 1 := List.length_eraseIdx_of_lt (by rw [← HNW.out]; exact hlt)
              have e3 := HB.out
              have e4 := HNW.out
              omega)
            cases hh : hitB hs2 g p with
            | true =>
              obtain ⟨x, hx, ho⟩ : ∃ x, hs2[p]? = some x ∧ ordI x g = 0 := by
                unfold hitB at hh
                cases hx : hs2[p]? with
                | none => rw [hx] at hh; cases hh
                | some x => rw [hx] at hh; exact ⟨x, rfl, by simpa using hh⟩
              have HPT := Lib.hid (put_hit HFO.out hh)
              have hpn : p < nh2 := by rw [HNH.out]; exact (List.getElem?_eq_some_iff.1 hx).1
              have HX := Lib.hid hx
              have HO := Lib.hid ho
              clear hh hx ho HFO
              obtain ⟨hxl, ⟨_, _, h0⟩ | ⟨gh, ch, preh, jh, rfl, hv, _, _, hj⟩⟩ := id HRH.out
              · omega
              cases hv
              have HXL := Lib.hid hxl
              have HJH := Lib.hid hj
              obtain ⟨oh, hoh⟩ : ∃ o, o = preh.length := ⟨_, rfl⟩
              have HOH := Lib.hid hoh
              rw [← hoh] at HRH HS ⊢
              clear hxl hj hoh
              go_wp2_with (first | (refine sx_load HS (by rfl) 23 (.tmp 42) rfl 2 _ _ _ rfl 0 rfl _ sh23 (.slice (some ⟨gh, oh, none⟩) nh2 cph) rfl ?_) | (refine sx_load HS (by rfl) 3 (.tmp 45) rfl 0 _ _ _ rfl 3 rfl _ sh3 (.int .i64 g.mode) rfl ?_) | (refine sx_storeM (front := [(b5, 29, g.lst), (b2, 25, [.slice none 0 0, .slice none 0 0]), (b1, 25, [.slice (some ⟨gh, oh, none⟩) nh2 cph, v2])]) (ll := lw2 ++ ll) HS (by rfl) 3 (.tmp 48) (.tmp 46) rfl rfl (oh + p * 4 + 3) rfl sh3 (.int .i64 g.mode) rfl rfl (by have h1 := HOH.out; have h2 := HXL.out; simp only [List.length_append, h2]; omega) (preh ++ (gL (hs2.set p g) ++ jh)) (by rw [HOH.out]; exact gL_mode HX.out HO.out) ?_; clear HS; intro w HS))
              go_roundg k
              case measure => omega
              case rel =>
                rw [HPT.out] at HPI2 HSO2 HB2
                have hsl : (hs2.set p g).length = nh2 := by rw [List.length_set, HNH.out]
                refine ⟨true, i, hs2.set p g, ws2.eraseIdx i, _, v2, [(gh, 29, preh ++ (gL (hs2.set p g) ++ jh))], lw2, rfl, rfl, HPI2, HSO2, HB2, ?_, HRW2, Lib.hid (HS.out.drop 1)⟩
                rw [hsl]
                exact Lib.hid ⟨by rw [gL_len, hsl], .inr ⟨gh, cph, preh, jh, rfl, by rw [HOH.out], hch1, by unfold maxLen; omega, HJH.out⟩⟩
            | false =>
              have HPT := Lib.hid (put_new HFO.out hh)
              clear hh HFO
              go_wp2_with (first | (refine sx_load HS (by rfl) 23 (.tmp 49) rfl 2 _ _ _ rfl 0 rfl _ sh23 (.slice aoh nh2 cph) rfl ?_) | (refine sx_load_all HS (by rfl) 29 (.tmp 5) rfl 0 _ _ _ rfl rfl 4 sh29 rfl ?_) | (refine sx_build HS (by rfl) 23 29 1 [(0, .tmp 52)] rfl [(0, .agg g.arr)] rfl g.lst (fun w => build_grant g w) ?_; clear HS; intro w bn HS))
              replace HS : Hid (St none q w0 w ((bn, 29, g.lst) :: (b5, 29, g.lst) :: (b2, 25, [.slice none 0 0, .slice none 0 0]) :: (b1, 25, [.slice aoh nh2 cph, v2]) :: (lh ++ (lw2 ++ ll)))) := HS
              refine (gs_insert q w0 w [(bn, 29, g.lst), (b5, 29, g.lst), (b2, 25, [.slice none 0 0, .slice none 0 0]), (b1, 25, [.slice aoh nh2 cph, v2])] lh (lw2 ++ ll) _ hs2 g bn p HS.out (by rw [← HNH.out]; exact HRH.out) (by simp) (by rw [← HNH.out]; exact h1) (by rw [← HNH.out]; omega)).mono ?_
              rintro e w ⟨v3, lh3, rfl, hst3, hrh3⟩
              clear HS
              have HS := Lib.hid hst3
              have HRH3 := Lib.hid hrh3
              clear hst3 hrh3
              go_wp2_with (refine sx_store HS (by rfl) 23 (.tmp 55) (.tmp 54) rfl rfl 3 _ _ _ rfl 0 rfl sh23 v3 rfl HRH3.out.one rfl ?_; clear HS; intro w HS)
              go_roundg k
              case measure => omega
              case rel =>
                rw [HPT.out] at HPI2 HSO2 HB2
                exact ⟨true, i, _, ws2.eraseIdx i, v3, v2, lh3, lw2, rfl, rfl, HPI2, HSO2, HB2, HRH3, HRW2, Lib.hid (HS.out.drop 2)⟩
        · have hin : i = nw2 := by omega
          have hm0 : m = 0 := by omega
          subst hin hm0
          have HNX := Lib.hid (SetInv.next (R := R) (k := ko) HSI.out (hs' := hs2) (ws' := ws2) (c := c) (by rw [← HN1.out, ← HR1.out, ← HNW.out]; exact HPI.out))
          clear him
          go_wp2_with (refine sx_load HS (by rfl) 23 (.tmp 10) rfl 1 _ _ _ rfl 1 rfl _ sh23 (.slice aow i cpw) rfl ?_)
          go_roundg (ko - 1)
          case measure => have := HNX.out.1; omega
          case rel => exact ⟨c, hs2, ws2, _, _, lh, lw, rfl, Lib.hid HNX.out.2, HSO, HB, by rw [← HNH.out]; exact HRH, by rw [← HNW.out]; exact HRW, HS⟩
end Go.Proofs.YtnfkplohpjfocaaGreat
