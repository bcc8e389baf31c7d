/-
  The contracts of locks.without, Cancel, Drop and Release.
-/
import Derived.Test.YtnfkplohpjfocaaSetA
import Derived.Test.YtnfkplohpjfocaaPlA
set_option linter.unusedVariables false
set_option linter.unusedSimpArgs false
namespace Go.Proofs.Ytnfkplohpjfocaa
open Go.RowKit
/-- A call gives a table back as it came, or one with rows of its own. -/
def TabOr (vh vw : Value) (hs ws : List G) (w0 : World) (R : List G × List G) (e : Ending) (w' : World) : Prop := (e = .returned (.agg #[vh, vw]) ∧ R = (hs, ws) ∧ Ext w0 w') ∨
  ∃ (v1 v2 : Value) (l1 l2 : List (Nat × TypeId × List Value)), e = .returned (.agg #[v1, v2]) ∧ St none default w0 w' (l1 ++ l2) ∧ OwnRow 29 4 l1 v1 R.1.length (gL R.1) ∧ OwnRow 29 4 l2 v2 R.2.length (gL R.2)
theorem OwnRow.oneG {l : List (Nat × TypeId × List Value)} {v : Value} {gs : List G} (h : OwnRow 29 4 l v gs.length (gL gs)) : v.oneCell' = true := h.one
theorem withoutF_yes {p q : G → Bool} {hs ws : List G} (h : validT hs ws = true) : withoutF p q hs ws = settle (hs.filter fun g => !p g) (ws.filter fun g => !q g) := by unfold withoutF; rw [h]; rfl
theorem withoutF_no {p q : G → Bool} {hs ws : List G} (h : validT hs ws = false) : withoutF p q hs ws = (hs, ws) := by unfold withoutF; rw [h]; rfl
theorem sorted_filter {hs : List G} (h : sortedG hs) (p : G → Bool) : sortedG (hs.filter p) := List.Pairwise.sublist List.filter_sublist h
set_option maxHeartbeats 4000000 in
set_option maxRecDepth 100000 in
theorem lk_without (w0 : World) (vh vw : Value) (hs ws : List G) (K1 K2 : FuncId) (c1 c2 : List Value) (p1 p2 : G → Bool) (h1 : GsAt w0 vh hs) (h2 : GsAt w0 vw ws) (hb1 : hs.length ≤ 400000) (hb2 : ws.length ≤ 400000) (hp1 : Pred w0 hs K1 c1 p1) (hp2 : Pred w0 ws K2 c2 p2) :
    Calls Try.prog 23 #[.agg #[vh, vw], .func (.func K1) #[] c1.toArray, .func (.func K2) #[] c2.toArray] w0 (TabOr vh vw hs ws w0 (withoutF p1 p2 hs ws)) := by
  have HG1 := Lib.hid h1
  have HG2 := Lib.hid h2
  have HP1 := Lib.hid hp1
  have HP2 := Lib.hid hp2
  have HB1 := Lib.hid hb1
  have HB2 := Lib.hid hb2
  obtain ⟨aoh, cph, rfl, hch1, hch2, hath⟩ := h1.get
  obtain ⟨aow, cpw, rfl, hcw1, hcw2, hatw⟩ := h2.get
  obtain ⟨nh, hnh⟩ : ∃ n, n = hs.length := ⟨_, rfl⟩
  obtain ⟨nw, hnw⟩ : ∃ n, n = ws.length := ⟨_, rfl⟩
  rw [← hnh] at HG1 hch1 ⊢
  rw [← hnw] at HG2 hcw1 ⊢
  have HNH := Lib.hid hnh
  have HNW := Lib.hid hnw
  clear h1 h2 hp1 hp2 hath hatw hnh hnw hb1 hb2
  have HS : Hid (St none default w0 w0 []) := St.start w0
  go_enter Try.func23, Try.ntmps23
  go_wp2_with (first | (refine sx_box HS rfl _ _ rfl [.slice aoh nh cph, .slice aow nw cpw] rfl ?_; clear HS; intro w b3 HS) | (refine sx_alloc HS rfl 25 rfl _ zr25 ?_; clear HS; intro w b6 HS) | (refine sx_loads HS (by rfl) 25 (.tmp 3) rfl 1 _ _ _ rfl 0 rfl 2 sh25 [.slice aoh nh cph, .slice aow nw cpw] rfl ⟨rfl, rfl, trivial⟩ ?_))
  replace HS : Hid (St none default w0 w [(b6, 25, [.slice none 0 0, .slice none 0 0]), (b3, 25, [.slice aoh nh cph, .slice aow nw cpw])]) := HS
  refine (lk_valid w _ _ hs ws (HG1.out.ext HS.out.isExt) (HG2.out.ext HS.out.isExt) (Nat.le_trans HB1.out (by decide)) (Nat.le_trans HB2.out (by decide))).mono ?_
  rintro e w ⟨he, hx⟩
  replace HS := Lib.hid (HS.out.ext hx)
  clear hx
  cases hval : validT hs ws with
  | false =>
    rw [hval] at he
    subst he
    have HF := Lib.hid (withoutF_no (p := p1) (q := p2) hval)
    clear hval
    go_wp2_with (first | (refine sx_loads HS (by rfl) 25 (.tmp 3) rfl 1 _ _ _ rfl 0 rfl 2 sh25 [.slice aoh nh cph, .slice aow nw cpw] rfl ⟨rfl, rfl, trivial⟩ ?_) | (refine sx_store_all HS (by rfl) 25 (.tmp 6) (.tmp 10) rfl rfl 0 _ _ _ rfl rfl [.slice aoh nh cph, .slice aow nw cpw] rfl 2 sh25 rfl rfl rfl ?_; clear HS; intro w HS))
    have hB : PBox w b6 25 [.slice aoh nh cph, .slice aow nw cpw] := HS.out.box (i := 0) rfl
    refine bodyPost_ret (results_c rfl rfl (run_load_cells sh25 rfl (fun j u hj => by rw [Nat.zero_add]; exact hB.cell hj))) rfl ?_
    exact .inl ⟨rfl, HF.out, HS.out.isExt⟩
  | true =>
    rw [hval] at he
    subst he
    have HF := Lib.hid (withoutF_yes (p := p1) (q := p2) hval)
    have HSO : Hid (sortedG hs) := Lib.hid (validT_sorted hval)
    clear hval
    go_wp2_with (refine sx_loads HS (by rfl) 25 (.tmp 3) rfl 1 _ _ _ rfl 0 rfl 2 sh25 [.slice aoh nh cph, .slice aow nw cpw] rfl ⟨rfl, rfl, trivial⟩ ?_)
    refine (lk_own w _ _ hs ws (HG1.out.ext HS.out.isExt) (HG2.out.ext HS.out.isExt) (Nat.le_trans HB1.out (by decide)) (Nat.le_trans HB2.out (by decide))).mono ?_
    rintro e w1 ⟨vh, vw, lh, lw, rfl, hst, hrh, hrw⟩
    replace HS := Lib.hid (HS.out.call hst)
    have HRH := Lib.hid hrh
    have HRW := Lib.hid hrw
    clear hst hrh hrw
    replace HS : Hid (St none default w0 w1 ((b6, 25, [.slice none 0 0, .slice none 0 0]) :: (b3, 25, [.slice aoh nh cph, .slice aow nw cpw]) :: (lh ++ (lw ++ [])))) := Lib.hid (HS.out.perm (by simpa using List.perm_append_comm (l₁ := [(b6, 25, [.slice none 0 0, .slice none 0 0]), (b3, 25, [.slice aoh nh cph, .slice aow nw cpw])]) (l₂ := lh ++ lw)))
    go_wp2_with (first | (refine sx_store_all HS (by rfl) 25 (.tmp 3) (.tmp 12) rfl rfl 1 _ _ _ rfl rfl [vh, vw] rfl 2 sh25 rfl rfl (by simp [HRH.out.one, HRW.out.one]) ?_; clear HS; intro w HS) | (refine sx_load HS (by rfl) 23 (.tmp 13) rfl 1 _ _ _ rfl 0 rfl _ sh23 vh rfl ?_))
    replace HS : Hid (St none default w0 w ((b6, 25, [.slice none 0 0, .slice none 0 0]) :: (b3, 25, [vh, vw]) :: (lh ++ (lw ++ [])))) := HS
    refine (gs_deleteFunc default w0 w [(b6, 25, [.slice none 0 0, .slice none 0 0]), (b3, 25, [vh, vw])] lh (lw ++ []) vh hs K1 c1 p1 HS.out HRH.out HP1.out (Nat.le_trans HB1.out (by decide))).mono ?_
    rintro e w ⟨v1, lh1, rfl, hst, hr1⟩
    clear HS HRH
    have HS := Lib.hid hst
    have HR1 := Lib.hid hr1
    clear hst hr1
    go_wp2_with (first | (refine sx_store HS (by rfl) 23 (.tmp 17) (.tmp 16) rfl rfl 1 _ _ _ rfl 0 rfl sh23 v1 rfl HR1.out.one rfl ?_; clear HS; intro w HS) | (refine sx_load HS (by rfl) 23 (.tmp 18) rfl 1 _ _ _ rfl 1 rfl _ sh23 vw rfl ?_))
    replace HS : Hid (St none default w0 w ((b6, 25, [.slice none 0 0, .slice none 0 0]) :: (b3, 25, [v1, vw]) :: (lh1 ++ (lw ++ [])))) := HS
    refine (gs_deleteFunc default w0 w ((b6, 25, [.slice none 0 0, .slice none 0 0]) :: (b3, 25, [v1, vw]) :: lh1) lw [] vw ws K2 c2 p2 HS.out HRW.out HP2.out (Nat.le_trans HB2.out (by decide))).mono ?_
    rintro e w ⟨v2, lw1, rfl, hst, hr2⟩
    clear HS HRW
    have HS := Lib.hid hst
    have HR2 := Lib.hid hr2
    clear hst hr2
    go_wp2_with (first | (refine sx_store HS (by rfl) 23 (.tmp 22) (.tmp 21) rfl rfl 1 _ _ _ rfl 1 rfl sh23 v2 rfl HR2.out.one rfl ?_; clear HS; intro w HS) | (refine sx_loads HS (by rfl) 25 (.tmp 3) rfl 1 _ _ _ rfl 0 rfl 2 sh25 [v1, v2] rfl ⟨rfl, rfl, trivial⟩ ?_))
    replace HS : Hid (St none default w0 w (lh1 ++ (lw1 ++ [(b6, 25, [.slice none 0 0, .slice none 0 0]), (b3, 25, [v1, v2])]))) := Lib.hid (HS.out.perm (by simpa using List.perm_append_comm (l₁ := lh1 ++ lw1) (l₂ := [(b6, 25, [.slice none 0 0, .slice none 0 0]), (b3, 25, [v1, v2])])))
    refine (lk_settle default w0 w lh1 lw1 [(b6, 25, [.slice none 0 0, .slice none 0 0]), (b3, 25, [v1, v2])] v1 v2 _ _ HS.out HR1.out HR2.out (sorted_filter HSO.out _) (by have h1 := HB1.out; have h2 := HB2.out; have h3 := List.length_filter_le (fun g => !p1 g) hs; have h4 := List.length_filter_le (fun g => !p2 g) ws; omega)).mono ?_
    rintro e w ⟨v3, v4, lh2, lw2, rfl, hst, hr3, hr4⟩
    clear HS HR1 HR2
    replace HS : Hid (St none default w0 w ((b6, 25, [.slice none 0 0, .slice none 0 0]) :: (b3, 25, [v1, v2]) :: (lh2 ++ (lw2 ++ [])))) := Lib.hid (hst.perm (by simpa using List.perm_append_comm (l₁ := [(b6, 25, [.slice none 0 0, .slice none 0 0]), (b3, 25, [v1, v2])]) (l₂ := lh2 ++ lw2)))
    have HR3 := Lib.hid hr3
    have HR4 := Lib.hid hr4
    clear hst hr3 hr4
    go_wp2_with (refine sx_store_all HS (by rfl) 25 (.tmp 6) (.tmp 24) rfl rfl 0 _ _ _ rfl rfl [v3, v4] rfl 2 sh25 rfl rfl (by simp [HR3.out.one, HR4.out.one]) ?_; clear HS; intro w HS)
    replace HS : Hid (St none default w0 w ((b6, 25, [v3, v4]) :: (b3, 25, [v1, v2]) :: (lh2 ++ (lw2 ++ [])))) := HS
    have hB : PBox w b6 25 [v3, v4] := HS.out.box (i := 0) rfl
    refine bodyPost_ret (results_c rfl rfl (run_load_cells sh25 rfl (fun j u hj => by rw [Nat.zero_add]; exact hB.cell hj))) rfl ?_
    rw [HF.out]
    refine .inr ⟨_, _, lh2, lw2, rfl, (HS.out.drop 2).sub ?_, HR3.out, HR4.out⟩
    simp
/-- a closure that asks for nothing -/
theorem pred_false (w0 : World) (gs : List G) : Pred w0 gs 24 [] (fun _ => false) := ⟨⟨_, Try.func24, (by kernel_rfl), (by kernel_rfl)⟩, fun x _ w _ => by
  obtain ⟨x1, x2, x3, x4⟩ := x
  unfold G.arr G.lst
  dsimp only
  show Calls Try.prog 24 #[_] w _
  go_enter Try.func24, Try.ntmps24
  go_wp2
  go_ret
  exact ⟨rfl, (Ext.refl _).alloc _⟩⟩
theorem pred_false2 (w0 : World) (gs : List G) : Pred w0 gs 27 [] (fun _ => false) := ⟨⟨_, Try.func27, (by kernel_rfl), (by kernel_rfl)⟩, fun x _ w _ => by
  obtain ⟨x1, x2, x3, x4⟩ := x
  unfold G.arr G.lst
  dsimp only
  show Calls Try.prog 27 #[_] w _
  go_enter Try.func27, Try.ntmps27
  go_wp2
  go_ret
  exact ⟨rfl, (Ext.refl _).alloc _⟩⟩
theorem pred_tx1 (w0 : World) (gs : List G) (tx : Int) (b : Nat) (h0 : w0.cell? ⟨b, 0, none⟩ = some (.int .i64 tx)) : Pred w0 gs 25 [.pointer (some ⟨b, 0, none⟩)] (fun g => g.tx == tx) := ⟨⟨_, Try.func25, (by kernel_rfl), (by kernel_rfl)⟩, fun x _ w k => by
  have hlt0 : b < w0.heap.size := block_lt_of_cell h0
  have h1 : w.cell? ⟨b, 0, none⟩ = some (.int .i64 tx) := (Below.cell (p := ⟨b, 0, none⟩) k hlt0).trans h0
  have hlt : b < w.heap.size := block_lt_of_cell h1
  clear k h0 hlt0
  obtain ⟨x1, x2, x3, x4⟩ := x
  unfold G.arr G.lst
  dsimp only
  show Calls Try.prog 25 #[_, _] w _
  go_enter Try.func25, Try.ntmps25
  go_wp2
  go_ret
  exact ⟨rfl, (Ext.refl _).alloc _⟩⟩
theorem pred_tx2 (w0 : World) (gs : List G) (tx : Int) (b : Nat) (h0 : w0.cell? ⟨b, 0, none⟩ = some (.int .i64 tx)) : Pred w0 gs 28 [.pointer (some ⟨b, 0, none⟩)] (fun g => g.tx == tx) := ⟨⟨_, Try.func28, (by kernel_rfl), (by kernel_rfl)⟩, fun x _ w k => by
  have hlt0 : b < w0.heap.size := block_lt_of_cell h0
  have h1 : w.cell? ⟨b, 0, none⟩ = some (.int .i64 tx) := (Below.cell (p := ⟨b, 0, none⟩) k hlt0).trans h0
  have hlt : b < w.heap.size := block_lt_of_cell h1
  clear k h0 hlt0
  obtain ⟨x1, x2, x3, x4⟩ := x
  unfold G.arr G.lst
  dsimp only
  show Calls Try.prog 28 #[_, _] w _
  go_enter Try.func28, Try.ntmps28
  go_wp2
  go_ret
  exact ⟨rfl, (Ext.refl _).alloc _⟩⟩
end Go.Proofs.Ytnfkplohpjfocaa
