/-
  The contracts of locks.Cancel, Drop and Release.
-/
import Derived.Test.YtnfkplohpjfocaaWthA
set_option linter.unusedVariables false
set_option linter.unusedSimpArgs false
namespace Go.Proofs.Ytnfkplohpjfocaa
open Go.RowKit
set_option maxHeartbeats 1000000 in
theorem pred_drop (w0 : World) (gs : List G) (k : G) (b1 b2 : Nat) (h0 : w0.cell? ⟨b1, 0, none⟩ = some (.int .i64 k.tx)) (h1 : PBox w0 b2 27 [.int .i64 k.page, .int .i64 k.slot]) : Pred w0 gs 26 [.pointer (some ⟨b1, 0, none⟩), .pointer (some ⟨b2, 0, none⟩)] (fun g => (g.tx == k.tx) && sameLock g k) := ⟨⟨_, Try.func26, (by kernel_rfl), (by kernel_rfl)⟩, fun x _ w e => by
  have hlt0 : b1 < w0.heap.size := block_lt_of_cell h0
  have h2 : w.cell? ⟨b1, 0, none⟩ = some (.int .i64 k.tx) := (Below.cell (p := ⟨b1, 0, none⟩) e hlt0).trans h0
  have hlt1 : b1 < w.heap.size := block_lt_of_cell h2
  have h3 := e.pbox h1
  have hlt2 := h3.lt
  have h4 : w.cell? ⟨b2, 0, none⟩ = some (.int .i64 k.page) := h3.cell rfl
  have h5 : w.cell? ⟨b2, 1, none⟩ = some (.int .i64 k.slot) := h3.cell rfl
  clear e h0 h1 hlt0 h3
  obtain ⟨x1, x2, x3, x4⟩ := x
  obtain ⟨k1, k2, k3, k4⟩ := k
  have hq := eql_lock x2 x3 k2 k3
  unfold G.arr G.lst
  dsimp only at *
  show Calls Try.prog 26 #[_, _, _] w _
  cases c1 : (x1 == k1) with
  | false =>
    have hp : ((x1 == k1) && sameLock ⟨x1, x2, x3, x4⟩ ⟨k1, k2, k3, k4⟩) = false := by rw [c1]; rfl
    go_enter Try.func26, Try.ntmps26
    go_wp2
    go_ret
    exact ⟨rfl, (Ext.refl _).alloc _⟩
  | true =>
    cases c2 : ((x2 == k2) && (x3 == k3)) with
    | false =>
      rw [c2] at hq
      have HP : Hid (sameLock ⟨x1, x2, x3, x4⟩ ⟨k1, k2, k3, k4⟩ = false) := Lib.hid c2
      go_enter Try.func26, Try.ntmps26
      go_wp2
      go_ret
      exact ⟨ret_bool (by rw [HP.out]; rfl), (Ext.refl _).alloc _⟩
    | true =>
      rw [c2] at hq
      have HP : Hid (sameLock ⟨x1, x2, x3, x4⟩ ⟨k1, k2, k3, k4⟩ = true) := Lib.hid c2
      go_enter Try.func26, Try.ntmps26
      go_wp2
      go_ret
      exact ⟨ret_bool (by rw [HP.out]; rfl), (Ext.refl _).alloc _⟩⟩
set_option maxHeartbeats 4000000 in
set_option maxRecDepth 100000 in
theorem lk_cancel (w0 : World) (vh vw : Value) (hs ws : List G) (tx : Int) (h1 : GsAt w0 vh hs) (h2 : GsAt w0 vw ws) (hb1 : hs.length ≤ 400000) (hb2 : ws.length ≤ 400000) : Calls Try.prog 11 #[.agg #[vh, vw], .int .i64 tx] w0 (TabOr vh vw hs ws w0 (cancelF tx hs ws)) := by
  have HG1 := Lib.hid h1
  have HG2 := Lib.hid h2
  have HB1 := Lib.hid hb1
  have HB2 := Lib.hid hb2
  obtain ⟨aoh, cph, rfl, -, -, -⟩ := h1.get
  obtain ⟨aow, cpw, rfl, -, -, -⟩ := h2.get
  obtain ⟨nh, hnh⟩ : ∃ n, n = hs.length := ⟨_, rfl⟩
  obtain ⟨nw, hnw⟩ : ∃ n, n = ws.length := ⟨_, rfl⟩
  rw [← hnh] at HG1 ⊢
  rw [← hnw] at HG2 ⊢
  clear h1 h2 hnh hnw hb1 hb2
  have HS : Hid (St none default w0 w0 []) := St.start w0
  go_enter Try.func11, Try.ntmps11
  go_wp2_with (first | (refine sx_box HS rfl 25 (.tmp 0) rfl [.slice aoh nh cph, .slice aow nw cpw] rfl ?_; clear HS; intro w bt HS) | (refine sx_box1 HS rfl 3 (.tmp 1) rfl (.int .i64 tx) rfl rfl ?_; clear HS; intro w bx HS) | (refine sx_alloc HS rfl 25 rfl _ zr25 ?_; clear HS; intro w br HS) | (refine sx_loads HS (by rfl) 25 (.tmp 2) rfl 2 _ _ _ rfl 0 rfl 2 sh25 [.slice aoh nh cph, .slice aow nw cpw] rfl ⟨rfl, rfl, trivial⟩ ?_))
  replace HS : Hid (St none default w0 w [(br, 25, [.slice none 0 0, .slice none 0 0]), (bx, 3, [.int .i64 tx]), (bt, 25, [.slice aoh nh cph, .slice aow nw cpw])]) := HS
  refine (lk_without w _ _ hs ws 24 25 [] [.pointer (some ⟨bx, 0, none⟩)] (fun _ => false) (fun g => g.tx == tx) (HG1.out.ext HS.out.isExt) (HG2.out.ext HS.out.isExt) HB1.out HB2.out (pred_false w hs) (pred_tx1 w ws tx bx ((HS.out.box (i := 1) rfl).cell rfl))).mono ?_
  rintro e w1 (⟨rfl, hR, hx⟩ | ⟨v1, v2, l1, l2, rfl, hst, hr1, hr2⟩)
  · replace HS := Lib.hid (HS.out.ext hx)
    have HR := Lib.hid hR
    clear hx hR
    go_wp2_with (refine sx_store_all HS (by rfl) 25 (.tmp 4) (.tmp 7) rfl rfl 0 _ _ _ rfl rfl [.slice aoh nh cph, .slice aow nw cpw] rfl 2 sh25 rfl rfl rfl ?_; clear HS; intro w HS)
    have hB : PBox w br 25 [.slice aoh nh cph, .slice aow nw cpw] := HS.out.box (i := 0) rfl
    refine bodyPost_ret (results_c rfl rfl (run_load_cells sh25 rfl (fun j u hj => by rw [Nat.zero_add]; exact hB.cell hj))) rfl ?_
    exact .inl ⟨rfl, HR.out, HS.out.isExt⟩
  · replace HS : Hid (St none default w0 w1 ((br, 25, [.slice none 0 0, .slice none 0 0]) :: (bx, 3, [.int .i64 tx]) :: (bt, 25, [.slice aoh nh cph, .slice aow nw cpw]) :: (l1 ++ (l2 ++ [])))) := Lib.hid ((HS.out.call hst).perm (by simpa using List.perm_append_comm (l₁ := [(br, 25, [.slice none 0 0, .slice none 0 0]), (bx, 3, [.int .i64 tx]), (bt, 25, [.slice aoh nh cph, .slice aow nw cpw])]) (l₂ := l1 ++ l2)))
    have HR1 := Lib.hid hr1
    have HR2 := Lib.hid hr2
    clear hst hr1 hr2
    go_wp2_with (refine sx_store_all HS (by rfl) 25 (.tmp 4) (.tmp 7) rfl rfl 0 _ _ _ rfl rfl [v1, v2] rfl 2 sh25 rfl rfl (by simp [HR1.out.one, HR2.out.one]) ?_; clear HS; intro w HS)
    have hB : PBox w br 25 [v1, v2] := HS.out.box (i := 0) rfl
    refine bodyPost_ret (results_c rfl rfl (run_load_cells sh25 rfl (fun j u hj => by rw [Nat.zero_add]; exact hB.cell hj))) rfl ?_
    refine .inr ⟨_, _, l1, l2, rfl, (HS.out.drop 3).sub ?_, HR1.out, HR2.out⟩
    simp
set_option maxHeartbeats 4000000 in
set_option maxRecDepth 100000 in
theorem lk_drop (w0 : World) (vh vw : Value) (hs ws : List G) (k : G) (h1 : GsAt w0 vh hs) (h2 : GsAt w0 vw ws) (hb1 : hs.length ≤ 400000) (hb2 : ws.length ≤ 400000) : Calls Try.prog 12 #[.agg #[vh, vw], .int .i64 k.tx, .agg #[.int .i64 k.page, .int .i64 k.slot]] w0 (TabOr vh vw hs ws w0 (dropF k hs ws)) := by
  have HG1 := Lib.hid h1
  have HG2 := Lib.hid h2
  have HB1 := Lib.hid hb1
  have HB2 := Lib.hid hb2
  obtain ⟨aoh, cph, rfl, -, -, -⟩ := h1.get
  obtain ⟨aow, cpw, rfl, -, -, -⟩ := h2.get
  obtain ⟨nh, hnh⟩ : ∃ n, n = hs.length := ⟨_, rfl⟩
  obtain ⟨nw, hnw⟩ : ∃ n, n = ws.length := ⟨_, rfl⟩
  rw [← hnh] at HG1 ⊢
  rw [← hnw] at HG2 ⊢
  clear h1 h2 hnh hnw hb1 hb2
  have HS : Hid (St none default w0 w0 []) := St.start w0
  go_enter Try.func12, Try.ntmps12
  go_wp2_with (first | (refine sx_box HS rfl 25 (.tmp 0) rfl [.slice aoh nh cph, .slice aow nw cpw] rfl ?_; clear HS; intro w bt HS) | (refine sx_box1 HS rfl 3 (.tmp 1) rfl (.int .i64 k.tx) rfl rfl ?_; clear HS; intro w bx HS) | (refine sx_box HS rfl 27 (.tmp 2) rfl [.int .i64 k.page, .int .i64 k.slot] rfl ?_; clear HS; intro w by_ HS) | (refine sx_alloc HS rfl 25 rfl _ zr25 ?_; clear HS; intro w br HS) | (refine sx_loads HS (by rfl) 25 (.tmp 3) rfl 3 _ _ _ rfl 0 rfl 2 sh25 [.slice aoh nh cph, .slice aow nw cpw] rfl ⟨rfl, rfl, trivial⟩ ?_))
  replace HS : Hid (St none default w0 w [(br, 25, [.slice none 0 0, .slice none 0 0]), (by_, 27, [.int .i64 k.page, .int .i64 k.slot]), (bx, 3, [.int .i64 k.tx]), (bt, 25, [.slice aoh nh cph, .slice aow nw cpw])]) := HS
  refine (lk_without w _ _ hs ws 26 27 [.pointer (some ⟨bx, 0, none⟩), .pointer (some ⟨by_, 0, none⟩)] [] (fun g => (g.tx == k.tx) && sameLock g k) (fun _ => false) (HG1.out.ext HS.out.isExt) (HG2.out.ext HS.out.isExt) HB1.out HB2.out (pred_drop w hs k bx by_ ((HS.out.box (i := 2) rfl).cell rfl) (HS.out.box (i := 1) rfl)) (pred_false2 w ws)).mono ?_
  rintro e w1 (⟨rfl, hR, hx⟩ | ⟨v1, v2, l1, l2, rfl, hst, hr1, hr2⟩)
  · replace HS := Lib.hid (HS.out.ext hx)
    have HR := Lib.hid hR
    clear hx hR
    go_wp2_with (refine sx_store_all HS (by rfl) 25 (.tmp 6) (.tmp 9) rfl rfl 0 _ _ _ rfl rfl [.slice aoh nh cph, .slice aow nw cpw] rfl 2 sh25 rfl rfl rfl ?_; clear HS; intro w HS)
    have hB : PBox w br 25 [.slice aoh nh cph, .slice aow nw cpw] := HS.out.box (i := 0) rfl
    refine bodyPost_ret (results_c rfl rfl (run_load_cells sh25 rfl (fun j u hj => by rw [Nat.zero_add]; exact hB.cell hj))) rfl ?_
    exact .inl ⟨rfl, HR.out, HS.out.isExt⟩
  · replace HS : Hid (St none default w0 w1 ((br, 25, [.slice none 0 0, .slice none 0 0]) :: (by_, 27, [.int .i64 k.page, .int .i64 k.slot]) :: (bx, 3, [.int .i64 k.tx]) :: (bt, 25, [.slice aoh nh cph, .slice aow nw cpw]) :: (l1 ++ (l2 ++ [])))) := Lib.hid ((HS.out.call hst).perm (by simpa using List.perm_append_comm (l₁ := [(br, 25, [.slice none 0 0, .slice none 0 0]), (by_, 27, [.int .i64 k.page, .int .i64 k.slot]), (bx, 3, [.int .i64 k.tx]), (bt, 25, [.slice aoh nh cph, .slice aow nw cpw])]) (l₂ := l1 ++ l2)))
    have HR1 := Lib.hid hr1
    have HR2 := Lib.hid hr2
    clear hst hr1 hr2
    go_wp2_with (refine sx_store_all HS (by rfl) 25 (.tmp 6) (.tmp 9) rfl rfl 0 _ _ _ rfl rfl [v1, v2] rfl 2 sh25 rfl rfl (by simp [HR1.out.one, HR2.out.one]) ?_; clear HS; intro w HS)
    have hB : PBox w br 25 [v1, v2] := HS.out.box (i := 0) rfl
    refine bodyPost_ret (results_c rfl rfl (run_load_cells sh25 rfl (fun j u hj => by rw [Nat.zero_add]; exact hB.cell hj))) rfl ?_
    refine .inr ⟨_, _, l1, l2, rfl, (HS.out.drop 4).sub ?_, HR1.out, HR2.out⟩
    simp
set_option maxHeartbeats 4000000 in
set_option maxRecDepth 100000 in
theorem lk_release (w0 : World) (vh vw : Value) (hs ws : List G) (tx : Int) (h1 : GsAt w0 vh hs) (h2 : GsAt w0 vw ws) (hb1 : hs.length ≤ 400000) (hb2 : ws.length ≤ 400000) : Calls Try.prog 13 #[.agg #[vh, vw], .int .i64 tx] w0 (TabOr vh vw hs ws w0 (releaseF tx hs ws)) := by
  have HG1 := Lib.hid h1
  have HG2 := Lib.hid h2
  have HB1 := Lib.hid hb1
  have HB2 := Lib.hid hb2
  obtain ⟨aoh, cph, rfl, -, -, -⟩ := h1.get
  obtain ⟨aow, cpw, rfl, -, -, -⟩ := h2.get
  obtain ⟨nh, hnh⟩ : ∃ n, n = hs.length := ⟨_, rfl⟩
  obtain ⟨nw, hnw⟩ : ∃ n, n = ws.length := ⟨_, rfl⟩
  rw [← hnh] at HG1 ⊢
  rw [← hnw] at HG2 ⊢
  clear h1 h2 hnh hnw hb1 hb2
  have HS : Hid (St none default w0 w0 []) := St.start w0
  go_enter Try.func13, Try.ntmps13
  go_wp2_with (first | (refine sx_box HS rfl 25 (.tmp 0) rfl [.slice aoh nh cph, .slice aow nw cpw] rfl ?_; clear HS; intro w bt HS) | (refine sx_box1 HS rfl 3 (.tmp 1) rfl (.int .i64 tx) rfl rfl ?_; clear HS; intro w bx HS) | (refine sx_alloc HS rfl 25 rfl _ zr25 ?_; clear HS; intro w br HS) | (refine sx_loads HS (by rfl) 25 (.tmp 2) rfl 2 _ _ _ rfl 0 rfl 2 sh25 [.slice aoh nh cph, .slice aow nw cpw] rfl ⟨rfl, rfl, trivial⟩ ?_))
  replace HS : Hid (St none default w0 w [(br, 25, [.slice none 0 0, .slice none 0 0]), (bx, 3, [.int .i64 tx]), (bt, 25, [.slice aoh nh cph, .slice aow nw cpw])]) := HS
  refine (lk_without w _ _ hs ws 28 28 [.pointer (some ⟨bx, 0, none⟩)] [.pointer (some ⟨bx, 0, none⟩)] (fun g => g.tx == tx) (fun g => g.tx == tx) (HG1.out.ext HS.out.isExt) (HG2.out.ext HS.out.isExt) HB1.out HB2.out (pred_tx2 w hs tx bx ((HS.out.box (i := 1) rfl).cell rfl)) (pred_tx2 w ws tx bx ((HS.out.box (i := 1) rfl).cell rfl))).mono ?_
  rintro e w1 (⟨rfl, hR, hx⟩ | ⟨v1, v2, l1, l2, rfl, hst, hr1, hr2⟩)
  · replace HS := Lib.hid (HS.out.ext hx)
    have HR := Lib.hid hR
    clear hx hR
    go_wp2_with (refine sx_store_all HS (by rfl) 25 (.tmp 4) (.tmp 10) rfl rfl 0 _ _ _ rfl rfl [.slice aoh nh cph, .slice aow nw cpw] rfl 2 sh25 rfl rfl rfl ?_; clear HS; intro w HS)
    have hB : PBox w br 25 [.slice aoh nh cph, .slice aow nw cpw] := HS.out.box (i := 0) rfl
    refine bodyPost_ret (results_c rfl rfl (run_load_cells sh25 rfl (fun j u hj => by rw [Nat.zero_add]; exact hB.cell hj))) rfl ?_
    exact .inl ⟨rfl, HR.out, HS.out.isExt⟩
  · replace HS : Hid (St none default w0 w1 ((br, 25, [.slice none 0 0, .slice none 0 0]) :: (bx, 3, [.int .i64 tx]) :: (bt, 25, [.slice aoh nh cph, .slice aow nw cpw]) :: (l1 ++ (l2 ++ [])))) := Lib.hid ((HS.out.call hst).perm (by simpa using List.perm_append_comm (l₁ := [(br, 25, [.slice none 0 0, .slice none 0 0]), (bx, 3, [.int .i64 tx]), (bt, 25, [.slice aoh nh cph, .slice aow nw cpw])]) (l₂ := l1 ++ l2)))
    have HR1 := Lib.hid hr1
    have HR2 := Lib.hid hr2
    clear hst hr1 hr2
    go_wp2_with (refine sx_store_all HS (by rfl) 25 (.tmp 4) (.tmp 10) rfl rfl 0 _ _ _ rfl rfl [v1, v2] rfl 2 sh25 rfl rfl (by simp [HR1.out.one, HR2.out.one]) ?_; clear HS; intro w HS)
    have hB : PBox w br 25 [v1, v2] := HS.out.box (i := 0) rfl
    refine bodyPost_ret (results_c rfl rfl (run_load_cells sh25 rfl (fun j u hj => by rw [Nat.zero_add]; exact hB.cell hj))) rfl ?_
    refine .inr ⟨_, _, l1, l2, rfl, (HS.out.drop 3).sub ?_, HR1.out, HR2.out⟩
    simp
end Go.Proofs.Ytnfkplohpjfocaa
