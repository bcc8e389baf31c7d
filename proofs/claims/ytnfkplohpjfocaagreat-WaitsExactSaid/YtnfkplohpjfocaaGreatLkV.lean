/-
  The contracts of locks.own and locks.blocked.
-/
import Derived.Test.YtnfkplohpjfocaaGreatGrC
import Derived.Test.YtnfkplohpjfocaaGreatLkE
set_option linter.unusedVariables false
set_option linter.unusedSimpArgs false
namespace Go.Proofs.YtnfkplohpjfocaaGreat
open Go.RowKit
section
variable {P : Program} {ops : Array Oper} {Q : Exit → Act → World → Prop} {a : Act} {w : World} {cc : Option Nat} {q : CodeRow} {w0 : World} {l L : List (Nat × TypeId × List Value)} {fuel : Nat} {listed : Array Bool} {o : Oper}
/-- A cell is read out of a block that is known. -/
theorem hg_loadW (i : Nat) (d : Option Tmp) (hd0 : (ops[i]?).bind (·.dst) = d) (hi : ops[i]? = some o) (hs : Region.noSelect ops = true) (hf : Region.free .any ops listed i = true) (hr : (Region.ready .any ops listed).contains i = true)
    (hQ : ∀ v c a w, Q (.panic c) (a.put o.dst v) w → Q (.panic c) a w) (HS : Hid (St cc q w0 w L)) (hk : l.Sublist L) (hw : Region.wanted o (yielded ops a.tmps) = true)
    (ty : TypeId) (x : Operand) (ho : o.op = .load ty x) (b : Nat) (T : TypeId) (cs : List Value) (hB : ∀ w', St cc q w0 w' l → PBox w' b T cs) (off : Nat) (hx : a.eval x = .pointer (some ⟨b, off, none⟩)) (n : Nat) (hsh : shapeOf P ty = some (false, n)) (v : Value) (hv : cs[off]? = some v)
    (h : wpAnyH P .any ops Q (InSt cc q w0 l) fuel (listed.setIfInBounds i true) (a.put d v) w) : wpAnyH P .any ops Q (InSt cc q w0 l) (fuel + 1) listed a w :=
  have hd : o.dst = d := by rw [hi] at hd0; exact hd0
  wpAnyH_take (v := v) hi hs hf hr (hQ _) (.inl ⟨hw, fun w hS => by
    unfold execOp
    simp only [ho, hx, Instr.loadAt, Instr.sureAddr, Sem.run_bind, Sem.run_pure, Result.andThen_ok, run_load_box (P := P) (hB w hS) hsh hv]⟩) (HS.out.sub hk) (by rw [hd]; exact h)
end
theorem sliced_hi4 (ao : Option Addr) (k cap s : Nat) : sliced ao 0 k cap s = .slice ao k cap := by
  unfold sliced
  cases ao with
  | none => split <;> simp
  | some a => obtain ⟨b, o, t⟩ := a; split <;> simp [Addr.add]
def OwnPost (hs ws : List G) (w0 : World) (e : Ending) (w' : World) : Prop := ∃ (vh vw : Value) (lh lw : List (Nat × TypeId × List Value)), e = .returned (.agg #[vh, vw]) ∧ St none default w0 w' (lh ++ lw) ∧ OwnRow 29 4 lh vh hs.length (gL hs) ∧ OwnRow 29 4 lw vw ws.length (gL ws)
set_option maxHeartbeats 4000000 in
set_option maxRecDepth 100000 in
theorem lk_own (w0 : World) (vh vw : Value) (hs ws : List G) (h1 : GsAt w0 vh hs) (h2 : GsAt w0 vw ws) (hb1 : hs.length ≤ 1000000) (hb2 : ws.length ≤ 1000000) : Calls Tryz.prog 56 #[.agg #[vh, vw]] w0 (OwnPost hs ws w0) := by
  have HG1 := Lib.hid h1
  have HB1 := Lib.hid hb1
  obtain ⟨aoh, cph, rfl, hch1, hch2, hath⟩ := h1.get
  obtain ⟨nh, hnh⟩ : ∃ n, n = hs.length := ⟨_, rfl⟩
  rw [← hnh] at HG1 hch1 hath hb1 ⊢
  have HNh := Lib.hid hnh
  have HATh := Lib.hid hath
  clear hnh hath h1
  have HG2 := Lib.hid h2
  have HB2 := Lib.hid hb2
  obtain ⟨aow, cpw, rfl, hcw1, hcw2, hatw⟩ := h2.get
  obtain ⟨nw, hnw⟩ : ∃ n, n = ws.length := ⟨_, rfl⟩
  rw [← hnw] at HG2 hcw1 hatw hb2 ⊢
  have HNw := Lib.hid hnw
  have HATw := Lib.hid hatw
  clear hnw hatw h2
  have HS : Hid (St none default w0 w0 []) := St.start w0
  go_enter Tryz.func56, Tryz.ntmps56
  go_wp2_with (first | (refine sx_box HS rfl _ _ rfl [.slice aoh nh cph, .slice aow nw cpw] rfl ?_; clear HS; intro w b1 HS) | (refine sx_alloc HS rfl 25 rfl _ zr25 ?_; clear HS; intro w b2 HS))
  replace HS : Hid (St none default w0 w [(b2, 25, [.slice none 0 0, .slice none 0 0]), (b1, 25, [.slice aoh nh cph, .slice aow nw cpw])]) := HS
  refine hg_begin [(b1, 25, [.slice aoh nh cph, .slice aow nw cpw])] HS (by kernel_rfl) ?_
  clear HS; intro w HS
  refine hg_reg 0 (some 3) rfl rfl (by kernel_rfl) (by kernel_rfl) (by kernel_rfl) (fun _ _ _ _ h => h) HS (List.Sublist.cons _ (List.Sublist.refl _)) (.pointer (some ⟨b1, 0, none⟩)) rfl (fun _ => by go_simp) ?_
  try simp only [Act.put, List.setIfInBounds_toArray, List.set_cons_zero, List.set_cons_succ]
  refine hg_load 1 (some 4) rfl rfl (by kernel_rfl) (by kernel_rfl) (by kernel_rfl) (fun _ _ _ _ h => h) HS (List.Sublist.cons _ (List.Sublist.refl _)) rfl 23 _ rfl 0 _ _ _ rfl 0 rfl _ sh23 (.slice aoh nh cph) rfl ?_
  try simp only [Act.put, List.setIfInBounds_toArray, List.set_cons_zero, List.set_cons_succ]
  refine hg_reg 3 (some 6) rfl rfl (by kernel_rfl) (by kernel_rfl) (by kernel_rfl) (fun _ _ _ _ h => h) HS (List.Sublist.cons _ (List.Sublist.refl _)) (.pointer (some ⟨b1, 1, none⟩)) rfl (fun _ => by go_simp) ?_
  try simp only [Act.put, List.setIfInBounds_toArray, List.set_cons_zero, List.set_cons_succ]
  refine hg_load 4 (some 7) rfl rfl (by kernel_rfl) (by kernel_rfl) (by kernel_rfl) (fun _ _ _ _ h => h) HS (List.Sublist.cons _ (List.Sublist.refl _)) rfl 23 _ rfl 0 _ _ _ rfl 1 rfl _ sh23 (.slice aow nw cpw) rfl ?_
  try simp only [Act.put, List.setIfInBounds_toArray, List.set_cons_zero, List.set_cons_succ]
  refine hk_x1 2 (by kernel_rfl) ?_
  refine hg_callR 2 (some 5) rfl rfl rfl HS (List.Sublist.cons _ (List.Sublist.refl _)) 78 _ _ rfl Tryz.func78 (by kernel_rfl) rfl [.slice aoh nh cph] (fun v lr => OwnRow 29 4 lr v hs.length (gL hs)) ((gs_clone w _ hs (HG1.out.ext HS.out.isExt) (Nat.le_trans HB1.out (by decide))).mono (fun e w1 h => by obtain ⟨v, lr, rfl, h1, h2⟩ := h; exact ⟨v, lr, rfl, h2, HS.out.call h1⟩)) rfl ?_
  clear HS; intro v5 w l5 hr3 HS
  obtain ⟨al5, cl5, rfl, _, _⟩ := hr3.form
  have Hl5 := Lib.hid hr3
  clear hr3
  try simp only [Act.put, List.setIfInBounds_toArray, List.set_cons_zero, List.set_cons_succ]
  refine hk_x1 5 (by kernel_rfl) ?_
  refine hg_callR 5 (some 8) rfl rfl rfl HS (List.Sublist.trans (List.Sublist.cons _ (List.Sublist.refl _)) (List.sublist_append_right l5 _)) 78 _ _ rfl Tryz.func78 (by kernel_rfl) rfl [.slice aow nw cpw] (fun v lr => OwnRow 29 4 lr v ws.length (gL ws)) ((gs_clone w _ ws (HG2.out.ext HS.out.isExt) (Nat.le_trans HB2.out (by decide))).mono (fun e w1 h => by obtain ⟨v, lr, rfl, h1, h2⟩ := h; exact ⟨v, lr, rfl, h2, HS.out.call h1⟩)) rfl ?_
  clear HS; intro v8 w l8 hr3 HS
  obtain ⟨al8, cl8, rfl, _, _⟩ := hr3.form
  have Hl8 := Lib.hid hr3
  clear hr3
  try simp only [Act.put, List.setIfInBounds_toArray, List.set_cons_zero, List.set_cons_succ]
  refine hg_reg 6 (some 9) rfl rfl (by kernel_rfl) (by kernel_rfl) (by kernel_rfl) (fun _ _ _ _ h => h) HS (List.Sublist.trans (List.Sublist.trans (List.Sublist.cons _ (List.Sublist.refl _)) (List.sublist_append_right l5 _)) (List.sublist_append_right l8 _)) (.agg #[.slice al5 hs.length cl5, .slice al8 ws.length cl8]) rfl (fun _ => by go_simp) ?_
  try simp only [Act.put, List.setIfInBounds_toArray, List.set_cons_zero, List.set_cons_succ]
  refine hk_x1 7 (by kernel_rfl) ?_
  refine hg_store_all 7 rfl rfl HS 25 _ _ rfl rfl (l8.length + l5.length) b2 25 [.slice none 0 0, .slice none 0 0] (by simp) rfl [.slice al5 hs.length cl5, .slice al8 ws.length cl8] rfl 2 sh25 rfl rfl rfl (by simp) ?_
  clear HS; intro w HS
  try simp only [Act.put, List.setIfInBounds_toArray, List.set_cons_zero, List.set_cons_succ]
  refine hk_done (by kernel_rfl) ?_
  replace HS : Hid (St none default w0 w (l8 ++ (l5 ++ [(b2, 25, [.slice al5 hs.length cl5, .slice al8 ws.length cl8]), (b1, 25, [.slice aoh nh cph, .slice aow nw cpw])]))) := Lib.hid (by have h := HS.out; simpa using h)
  have hB : PBox w b2 25 [.slice al5 hs.length cl5, .slice al8 ws.length cl8] := HS.out.box (i := l8.length + l5.length) (by simp)
  go_wp2_with fail
  refine bodyPost_ret (results_c rfl rfl (run_load_cells sh25 rfl (fun j u hj => by rw [Nat.zero_add]; exact hB.cell hj))) rfl ?_
  refine ⟨_, _, l5, l8, rfl, (HS.out.perm (l := (l5 ++ l8) ++ [(b2, 25, [.slice al5 hs.length cl5, .slice al8 ws.length cl8]), (b1, 25, [.slice aoh nh cph, .slice aow nw cpw])]) ?_).sub (List.sublist_append_left _ _), Hl5.out, Hl8.out⟩
  rw [← List.append_assoc]
  exact (List.perm_append_comm).append_right _
set_option maxHeartbeats 4000000 in
set_option maxRecDepth 100000 in
theorem lk_blocked1 (x g : G) (vh : Value) (aw : Addr) (nw cpw i : Nat) (ws : List G) (b2 b3 : Nat) (w0 : World) (h2 : GsAt w0 (.slice (some aw) nw cpw) ws) (hB2 : PBox w0 b2 25 [vh, .slice (some aw) nw cpw]) (hB3 : PBox w0 b3 3 [.int .i64 i]) (hg : ws[i]? = some g) : Calls Tryz.prog 99 #[.agg x.arr, .pointer (some ⟨b2, 0, none⟩), .pointer (some ⟨b3, 0, none⟩)] w0 fun e w' => e = .returned (.bool (conflictB x g)) ∧ Ext w0 w' := by
  obtain ⟨ao2, cp2, hv, hc1, hc2, hat⟩ := h2.get
  cases hv
  have hi := (List.getElem?_eq_some_iff.1 hg).1
  obtain ⟨gw, ow, ha, hcell⟩ := hat (by omega)
  cases ha
  obtain ⟨nw, hnw⟩ : ∃ n, n = ws.length := ⟨_, rfl⟩
  rw [← hnw] at hB2 hi hc1
  have HCG := Lib.hid (hcell i g hg)
  have HB2 := Lib.hid hB2
  have HB3 := Lib.hid hB3
  clear hcell hat h2 hg hB2 hB3 hnw
  have HS : Hid (St none default w0 w0 []) := St.start w0
  go_enter Tryz.func99, Tryz.ntmps99
  go_wp2_with (refine sx_box HS rfl _ _ rfl x.lst rfl ?_; clear HS; intro w b3x HS)
  refine hg_begin [(b3x, 29, [.int .i64 x.tx, .int .i64 x.page, .int .i64 x.slot, .int .i64 x.mode])] HS (by kernel_rfl) ?_
  clear HS; intro w HS
  refine hg_loads 0 (some 5) rfl rfl (by kernel_rfl) (by kernel_rfl) (by kernel_rfl) (fun _ _ _ _ h => h) HS (List.Sublist.refl _) rfl 29 _ rfl 0 _ _ _ rfl 0 rfl 4 sh29 [.int .i64 x.tx, .int .i64 x.page, .int .i64 x.slot, .int .i64 x.mode] rfl ⟨rfl, rfl, rfl, rfl, trivial⟩ ?_
  try simp only [Act.put, List.setIfInBounds_toArray, List.set_cons_zero, List.set_cons_succ]
  refine hg_reg 1 (some 6) rfl rfl (by kernel_rfl) (by kernel_rfl) (by kernel_rfl) (fun _ _ _ _ h => h) HS (List.Sublist.refl _) (.pointer (some ⟨b2, 1, none⟩)) rfl (fun _ => by go_simp) ?_
  try simp only [Act.put, List.setIfInBounds_toArray, List.set_cons_zero, List.set_cons_succ]
  refine hg_loadW 2 (some 7) rfl rfl (by kernel_rfl) (by kernel_rfl) (by kernel_rfl) (fun _ _ _ _ h => h) HS (List.Sublist.refl _) rfl 23 _ rfl b2 _ _ (fun w2 h2 => h2.isExt.pbox HB2.out) 1 rfl _ sh23 (.slice (some ⟨gw, ow, none⟩) nw cpw) rfl ?_
  try simp only [Act.put, List.setIfInBounds_toArray, List.set_cons_zero, List.set_cons_succ]
  refine hg_loadW 3 (some 8) rfl rfl (by kernel_rfl) (by kernel_rfl) (by kernel_rfl) (fun _ _ _ _ h => h) HS (List.Sublist.refl _) rfl 3 _ rfl b3 _ _ (fun w2 h2 => h2.isExt.pbox HB3.out) 0 rfl _ sh3 (.int .i64 (i : Int)) rfl ?_
  try simp only [Act.put, List.setIfInBounds_toArray, List.set_cons_zero, List.set_cons_succ]
  refine hg_reg 4 (some 9) rfl rfl (by kernel_rfl) (by kernel_rfl) (by kernel_rfl) (fun _ _ _ _ h => h) HS (List.Sublist.refl _) (.pointer (some ⟨gw, ow + i * 4, none⟩)) rfl (fun _ => by go_simp) ?_
  try simp only [Act.put, List.setIfInBounds_toArray, List.set_cons_zero, List.set_cons_succ]
  refine hg_loadsC 5 (some 10) rfl rfl (by kernel_rfl) (by kernel_rfl) (by kernel_rfl) (fun _ _ _ _ h => h) HS (List.Sublist.refl _) rfl 29 _ rfl gw (ow + i * 4) rfl 4 sh29 (g.lst) rfl (fun w2 h2 => HCG.out w2 h2.isExt) ?_
  try simp only [Act.put, List.setIfInBounds_toArray, List.set_cons_zero, List.set_cons_succ]
  refine hk_x1 6 (by kernel_rfl) ?_
  refine hg_call 6 (some 11) rfl rfl rfl HS (List.Sublist.refl _) 42 _ _ rfl Tryz.func42 (by kernel_rfl) rfl _ (fun v => v = .bool (conflictB x g)) ((lk_conflict x g _).mono (fun e w1 h => by obtain ⟨rfl, hx⟩ := h; exact ⟨_, rfl, rfl, HS.out.ext hx⟩)) rfl ?_
  clear HS; rintro _ w rfl HS
  try simp only [Act.put, List.setIfInBounds_toArray, List.set_cons_zero, List.set_cons_succ]
  refine hg_reg 7 (some 4) rfl rfl (by kernel_rfl) (by kernel_rfl) (by kernel_rfl) (fun _ _ _ _ h => h) HS (List.Sublist.refl _) (.bool (conflictB x g)) rfl (fun _ => by rfl) ?_
  try simp only [Act.put, List.setIfInBounds_toArray, List.set_cons_zero, List.set_cons_succ]
  refine hk_done (by kernel_rfl) ?_
  go_wp2_with fail
  go_ret
  exact ⟨rfl, HS.out.isExt⟩
def blockedB (hs ws : List G) (i : Nat) : Bool := match ws[i]? with | some g => hs.any (fun x => conflictB x g) || (ws.take i).any (fun x => conflictB x g) | none => false
set_option maxHeartbeats 4000000 in
set_option maxRecDepth 100000 in
theorem lk_blocked (w0 : World) (vh vw : Value) (hs ws : List G) (i : Nat) (h1 : GsAt w0 vh hs) (h2 : GsAt w0 vw ws) (hb1 : hs.length ≤ 1000000) (hb2 : ws.length ≤ 1000000) (hi : i < ws.length) : Calls Tryz.prog 81 #[.agg #[vh, vw], .int .i64 (i : Int)] w0 fun e w' => e = .returned (.bool (blockedB hs ws i)) ∧ Ext w0 w' := by
  obtain ⟨g, hg⟩ : ∃ g, ws[i]? = some g := ⟨_, List.getElem?_eq_getElem hi⟩
  have hbl : blockedB hs ws i = (hs.any (fun x => conflictB x g) || (ws.take i).any (fun x => conflictB x g)) := by unfold blockedB; rw [hg]
  have HBL := Lib.hid hbl
  have HGI := Lib.hid hg
  clear hbl hg
  have HG1 := Lib.hid h1
  have HB1 := Lib.hid hb1
  obtain ⟨aoh, cph, rfl, hch1, hch2, hath⟩ := h1.get
  obtain ⟨nh, hnh⟩ : ∃ n, n = hs.length := ⟨_, rfl⟩
  rw [← hnh] at HG1 hch1 hath hb1 ⊢
  have HNh := Lib.hid hnh
  have HATh := Lib.hid hath
  clear hnh hath h1
  have HG2 := Lib.hid h2
  have HB2 := Lib.hid hb2
  obtain ⟨aow, cpw, rfl, hcw1, hcw2, hatw⟩ := h2.get
  obtain ⟨nw, hnw⟩ : ∃ n, n = ws.length := ⟨_, rfl⟩
  rw [← hnw] at HG2 hcw1 hatw hb2 ⊢
  have HNw := Lib.hid hnw
  have HATw := Lib.hid hatw
  clear hnw hatw h2
  rw [← HNw.out] at hi
  obtain ⟨gw, ow, rfl, _⟩ := HATw.out (by omega)
  have HSV : Hid (GsAt w0 (.slice (some ⟨gw, ow, none⟩) i cpw) (ws.take i)) := by have h := HG2.out.take (k := i) (by omega); rw [sliced_hi4] at h; exact h
  have HS : Hid (St none default w0 w0 []) := St.start w0
  go_enter Tryz.func81, Tryz.ntmps81
  go_wp2_with (first | (refine sx_box HS rfl _ _ rfl [.slice aoh nh cph, .slice (some ⟨gw, ow, none⟩) nw cpw] rfl ?_; clear HS; intro w b2 HS) | (refine sx_box1 HS rfl _ _ rfl (.int .i64 (i : Int)) rfl rfl ?_; clear HS; intro w b3 HS) | (refine sx_load HS rfl 23 _ rfl 1 _ _ _ rfl 0 rfl _ sh23 (.slice aoh nh cph) rfl ?_))
  replace HS : Hid (St none default w0 w [(b3, 3, [.int .i64 (i : Int)]), (b2, 25, [.slice aoh nh cph, .slice (some ⟨gw, ow, none⟩) nw cpw])]) := HS
  have hpr : Pred w hs 99 [.pointer (some ⟨b2, 0, none⟩), .pointer (some ⟨b3, 0, none⟩)] (fun x => conflictB x g) := ⟨⟨_, Tryz.func99, (by kernel_rfl), (by kernel_rfl)⟩, fun z _ w2 k2 => lk_blocked1 z g _ _ _ _ i ws b2 b3 w2 (HG2.out.ext (HS.out.isExt.trans k2)) (k2.pbox (HS.out.box (i := 1) rfl)) (k2.pbox (HS.out.box (i := 0) rfl)) HGI.out⟩
  refine (containsFunc_any _ _ hs (HG1.out.ext HS.out.isExt) 99 [.pointer (some ⟨b2, 0, none⟩), .pointer (some ⟨b3, 0, none⟩)] (fun x => conflictB x g) hpr).mono ?_
  rintro e w ⟨he, hx⟩
  replace HS := Lib.hid (HS.out.ext hx)
  clear hx hpr
  cases hA : hs.any (fun x => conflictB x g) with
  | true =>
    rw [hA] at he
    subst he
    have HF : Hid (blockedB hs ws i = true) := Lib.hid (by rw [HBL.out, hA]; rfl)
    clear hA
    go_wp2_with fail
    go_ret
    exact ⟨ret_bool HF.out.symm, HS.out.isExt⟩
  | false =>
    rw [hA] at he
    subst he
    have HF : Hid (blockedB hs ws i = (ws.take i).any (fun x => conflictB x g)) := Lib.hid (by rw [HBL.out, hA]; rfl)
    clear hA
    go_wp2_with (first | (refine sx_load HS rfl 23 _ rfl 1 _ _ _ rfl 1 rfl _ sh23 (.slice (some ⟨gw, ow, none⟩) nw cpw) rfl ?_) | (refine sx_load HS rfl 3 _ rfl 0 _ _ _ rfl 0 rfl _ sh3 (.int .i64 (i : Int)) rfl ?_) | (refine sx_run rfl (.slice (some ⟨gw, ow, none⟩) i cpw) (run_sl_hi (n := nw) (s := 4) rfl Tryz.underlying23 (by kernel_rfl) rfl rfl (by omega) (sliced_hi4 _ _ _ 4).symm) ?_))
    have hpr : Pred w (ws.take i) 99 [.pointer (some ⟨b2, 0, none⟩), .pointer (some ⟨b3, 0, none⟩)] (fun x => conflictB x g) := ⟨⟨_, Tryz.func99, (by kernel_rfl), (by kernel_rfl)⟩, fun z _ w2 k2 => lk_blocked1 z g _ _ _ _ i ws b2 b3 w2 (HG2.out.ext (HS.out.isExt.trans k2)) (k2.pbox (HS.out.box (i := 1) rfl)) (k2.pbox (HS.out.box (i := 0) rfl)) HGI.out⟩
    refine (containsFunc_any _ _ (ws.take i) (HSV.out.ext HS.out.isExt) 99 [.pointer (some ⟨b2, 0, none⟩), .pointer (some ⟨b3, 0, none⟩)] (fun x => conflictB x g) hpr).mono ?_
    rintro e w ⟨he, hx⟩
    replace HS := Lib.hid (HS.out.ext hx)
    clear hx hpr
    obtain ⟨bb, hbb⟩ : ∃ bb, bb = (ws.take i).any (fun x => conflictB x g) := ⟨_, rfl⟩
    rw [← hbb] at he HF
    clear hbb
    subst he
    go_wp2_with fail
    go_ret
    exact ⟨ret_bool HF.out.symm, HS.out.isExt⟩
end Go.Proofs.YtnfkplohpjfocaaGreat

namespace Go.Proofs.YtnfkplohpjfocaaGreat
open Go.RowKit
def placeP (hs : List G) (g x : G) : Bool := (x.tx != g.tx) && sameLock x g && (modeF hs x == 0)
def placeF (hs ws : List G) (g : G) : Nat := if modeF hs g = 0 then ws.length else (ws.findIdx? (placeP hs g)).getD ws.length
theorem placeF_le (hs ws : List G) (g : G) : placeF hs ws g ≤ ws.length := by
  unfold placeF
  split
  · exact Nat.le_refl _
  · cases h : ws.findIdx? (placeP hs g) with
    | none => exact Nat.le_refl _
    | some i => rw [List.findIdx?_eq_some_iff_getElem] at h; exact Nat.le_of_lt h.1
set_option maxHeartbeats 500000 in
set_option maxRecDepth 100000 in
theorem lk_place (w0 : World) (vh vw : Value) (hs ws : List G) (g : G) (h1 : GsAt w0 vh hs) (h2 : GsAt w0 vw ws) (hb1 : hs.length ≤ 1000000) (hb2 : ws.length ≤ 1000000) (hsort : sortedG hs) : Calls Tryz.prog 58 #[.agg #[vh, vw], .agg g.arr] w0 fun e w' => e = .returned (.int .i64 (placeF hs ws g : Int)) ∧ Ext w0 w' := by
  have HG1 := Lib.hid h1
  have HB1 := Lib.hid hb1
  obtain ⟨aoh, cph, rfl, hch1, hch2, hath⟩ := h1.get
  obtain ⟨nh, hnh⟩ : ∃ n, n = hs.length := ⟨_, rfl⟩
  rw [← hnh] at HG1 hch1 hath hb1 ⊢
  have HNh := Lib.hid hnh
  have HATh := Lib.hid hath
  clear hnh hath h1
  have HG2 := Lib.hid h2
  have HB2 := Lib.hid hb2
  obtain ⟨aow, cpw, rfl, hcw1, hcw2, hatw⟩ := h2.get
  obtain ⟨nw, hnw⟩ : ∃ n, n = ws.length := ⟨_, rfl⟩
  rw [← hnw] at HG2 hcw1 hatw hb2 ⊢
  have HNw := Lib.hid hnw
  have HATw := Lib.hid hatw
  clear hnw hatw h2
  have HSO := Lib.hid hsort
  clear hsort
  have HS : Hid (St none default w0 w0 []) := St.start w0
  go_enter Tryz.func58, Tryz.ntmps58
  go_wp2_with (first | (refine sx_box HS rfl _ _ rfl [.slice aoh nh cph, .slice aow nw cpw] rfl ?_; clear HS; intro w b2 HS) | (refine sx_box HS rfl _ _ rfl g.lst rfl ?_; clear HS; intro w b3 HS) | (refine sx_loads HS rfl 25 _ rfl 1 _ _ _ rfl 0 rfl 2 sh25 [.slice aoh nh cph, .slice aow nw cpw] rfl ⟨rfl, rfl, trivial⟩ ?_) | (refine sx_load HS rfl 3 _ rfl 0 _ _ _ rfl 0 rfl _ sh3 (.int .i64 g.tx) rfl ?_) | (refine sx_loads HS rfl 27 _ rfl 0 _ _ _ rfl 1 rfl 2 sh27 [.int .i64 g.page, .int .i64 g.slot] rfl ⟨rfl, rfl, trivial⟩ ?_))
  replace HS : Hid (St none default w0 w [(b3, 29, g.lst), (b2, 25, [.slice aoh nh cph, .slice aow nw cpw])]) := HS
  refine (lk_mode w _ _ hs g.tx g.page g.slot (HG1.out.ext HS.out.isExt) HB1.out HSO.out rfl).mono ?_
  rintro e w ⟨he, hx⟩
  replace HS := Lib.hid (HS.out.ext hx)
  clear hx
  rw [modeF_key hs ⟨g.tx, g.page, g.slot, 0⟩ g rfl rfl rfl] at he
  obtain ⟨mg, hmg⟩ : ∃ m, m = modeF hs g := ⟨_, rfl⟩
  rw [← hmg] at he
  subst he
  by_cases hm0 : mg = 0
  · have HF : Hid (placeF hs ws g = nw) := Lib.hid (by unfold placeF; rw [← hmg, if_pos hm0, HNw.out])
    subst hm0
    clear hmg
    go_wp2_with (refine sx_load HS rfl 23 _ rfl 1 _ _ _ rfl 1 rfl _ sh23 (.slice aow nw cpw) rfl ?_)
    go_ret
    exact ⟨ret_int (by rw [HF.out]), HS.out.isExt⟩
  · have HF : Hid (placeF hs ws g = (ws.findIdx? (placeP hs g)).getD nw) := Lib.hid (by unfold placeF; rw [← hmg, if_neg hm0, HNw.out])
    clear hmg
    go_wp2_with (refine sx_load HS rfl 23 _ rfl 1 _ _ _ rfl 1 rfl _ sh23 (.slice aow nw cpw) rfl ?_)
    go_loopw [20] (fun s wr => ∃ j : Nat, j ≤ nw ∧ s = .int .i64 j ∧ Hid (∀ (k : Nat) (x : G), k < j → ws[k]? = some x → placeP hs g x = false) ∧ Hid (St none default w0 wr [(b3, 29, g.lst), (b2, 25, [.slice aoh nh cph, .slice aow nw cpw])])) (fun s _ => nw - (intOf s).toNat)
    case atStart => exact ⟨0, Nat.zero_le _, rfl, (fun j x h => absurd h (Nat.not_lt_zero _)), HS⟩
    case round =>
      clear HS
      obtain ⟨j, hj, rfl, HI, HS⟩ := hrel
      by_cases hlt : j < nw
      · obtain ⟨x, hx⟩ := list_get_of_lt ws j nw HNw.out.symm hlt
        obtain ⟨g2, off2, rfl, hcell⟩ := HATw.out (by omega)
        have HC := Lib.hid (hcell j x hx)
        have HX := Lib.hid hx
        clear hcell hx
        have hq := eql_lock x.page x.slot g.page g.slot
        cases h1n : (x.tx != g.tx) with
        | false =>
          go_upto_region 6 with (first | (refine sx_loadsC (by rfl) 29 _ rfl g2 (off2 + j * 4) rfl 4 sh29 x.lst rfl (HC.out _ HS.out.isExt) ?_) | (refine sx_alloc HS (by rfl) 29 rfl _ zr29 ?_; clear HS; intro w b6 HS) | (refine sx_store_all HS (by rfl) 29 _ _ rfl rfl 0 _ _ _ rfl rfl x.lst rfl 4 sh29 rfl rfl rfl ?_; clear HS; intro w HS))
          try simp only [Act.put, List.setIfInBounds_toArray, List.set_cons_zero, List.set_cons_succ]
          replace HS : Hid (St none default w0 w [(b6, 29, x.lst), (b3, 29, g.lst), (b2, 25, [.slice aoh nh cph, .slice (some ⟨g2, off2, none⟩) nw cpw])]) := HS
          have cx0 := (HS.out.box (i := 0) rfl).cell (o := 0) (v := .int .i64 x.tx) rfl
          have cx1 := (HS.out.box (i := 0) rfl).cell (o := 1) (v := .int .i64 x.page) rfl
          have cx2 := (HS.out.box (i := 0) rfl).cell (o := 2) (v := .int .i64 x.slot) rfl
          have cg0 := (HS.out.box (i := 1) rfl).cell (o := 0) (v := .int .i64 g.tx) rfl
          have cg1 := (HS.out.box (i := 1) rfl).cell (o := 1) (v := .int .i64 g.page) rfl
          have cg2 := (HS.out.box (i := 1) rfl).cell (o := 2) (v := .int .i64 g.slot) rfl
          have cb0 := (HS.out.box (i := 2) rfl).cell (o := 0) (v := .slice aoh nh cph) rfl
          have cb1 := (HS.out.box (i := 2) rfl).cell (o := 1) (v := .slice (some ⟨g2, off2, none⟩) nw cpw) rfl
          go_wp2_with fail
          have HPX : Hid (placeP hs g x = false) := Lib.hid (by simp [placeP, h1n])
          replace HS := Lib.hid (HS.out.drop 1)
          go_roundw
          case rel => exact ⟨j + 1, by omega, by go_num, (fun k y hk hy => by
            by_cases e : k = j
            · subst e; have := HX.out.symm.trans hy; cases this; exact HPX.out
            · exact HI.out k y (by omega) hy), HS⟩
          case measure => simp [intOf]; omega
        | true =>
          cases h2 : ((x.page == g.page) && (x.slot == g.slot)) with
          | false =>
            rw [h2] at hq
            go_upto_region 6 with (first | (refine sx_loadsC (by rfl) 29 _ rfl g2 (off2 + j * 4) rfl 4 sh29 x.lst rfl (HC.out _ HS.out.isExt) ?_) | (refine sx_alloc HS (by rfl) 29 rfl _ zr29 ?_; clear HS; intro w b6 HS) | (refine sx_store_all HS (by rfl) 29 _ _ rfl rfl 0 _ _ _ rfl rfl x.lst rfl 4 sh29 rfl rfl rfl ?_; clear HS; intro w HS))
            try simp only [Act.put, List.setIfInBounds_toArray, List.set_cons_zero, List.set_cons_succ]
            replace HS : Hid (St none default w0 w [(b6, 29, x.lst), (b3, 29, g.lst), (b2, 25, [.slice aoh nh cph, .slice (some ⟨g2, off2, none⟩) nw cpw])]) := HS
            have cx0 := (HS.out.box (i := 0) rfl).cell (o := 0) (v := .int .i64 x.tx) rfl
            have cx1 := (HS.out.box (i := 0) rfl).cell (o := 1) (v := .int .i64 x.page) rfl
            have cx2 := (HS.out.box (i := 0) rfl).cell (o := 2) (v := .int .i64 x.slot) rfl
            have cg0 := (HS.out.box (i := 1) rfl).cell (o := 0) (v := .int .i64 g.tx) rfl
            have cg1 := (HS.out.box (i := 1) rfl).cell (o := 1) (v := .int .i64 g.page) rfl
            have cg2 := (HS.out.box (i := 1) rfl).cell (o := 2) (v := .int .i64 g.slot) rfl
            have cb0 := (HS.out.box (i := 2) rfl).cell (o := 0) (v := .slice aoh nh cph) rfl
            have cb1 := (HS.out.box (i := 2) rfl).cell (o := 1) (v := .slice (some ⟨g2, off2, none⟩) nw cpw) rfl
            go_wp2_with fail
            have HPX : Hid (placeP hs g x = false) := Lib.hid (by simp only [placeP, sameLock, h2]; simp)
            replace HS := Lib.hid (HS.out.drop 1)
            go_roundw
            case rel => exact ⟨j + 1, by omega, by go_num, (fun k y hk hy => by
              by_cases e : k = j
              · subst e; have := HX.out.symm.trans hy; cases this; exact HPX.out
              · exact HI.out k y (by omega) hy), HS⟩
            case measure => simp [intOf]; omega
          | true =>
            rw [h2] at hq
            go_upto_region 6 with (first | (refine sx_loadsC (by rfl) 29 _ rfl g2 (off2 + j * 4) rfl 4 sh29 x.lst rfl (HC.out _ HS.out.isExt) ?_) | (refine sx_alloc HS (by rfl) 29 rfl _ zr29 ?_; clear HS; intro w b6 HS) | (refine sx_store_all HS (by rfl) 29 _ _ rfl rfl 0 _ _ _ rfl rfl x.lst rfl 4 sh29 rfl rfl rfl ?_; clear HS; intro w HS))
            try simp only [Act.put, List.setIfInBounds_toArray, List.set_cons_zero, List.set_cons_succ]
            replace HS : Hid (St none default w0 w [(b6, 29, x.lst), (b3, 29, g.lst), (b2, 25, [.slice aoh nh cph, .slice (some ⟨g2, off2, none⟩) nw cpw])]) := HS
            have cx0 := (HS.out.box (i := 0) rfl).cell (o := 0) (v := .int .i64 x.tx) rfl
            have cx1 := (HS.out.box (i := 0) rfl).cell (o := 1) (v := .int .i64 x.page) rfl
            have cx2 := (HS.out.box (i := 0) rfl).cell (o := 2) (v := .int .i64 x.slot) rfl
            have cg0 := (HS.out.box (i := 1) rfl).cell (o := 0) (v := .int .i64 g.tx) rfl
            have cg1 := (HS.out.box (i := 1) rfl).cell (o := 1) (v := .int .i64 g.page) rfl
            have cg2 := (HS.out.box (i := 1) rfl).cell (o := 2) (v := .int .i64 g.slot) rfl
            have cb0 := (HS.out.box (i := 2) rfl).cell (o := 0) (v := .slice aoh nh cph) rfl
            have cb1 := (HS.out.box (i := 2) rfl).cell (o := 1) (v := .slice (some ⟨g2, off2, none⟩) nw cpw) rfl
            go_wp2_with fail
            replace HS : Hid (St none default w0 w [(b6, 29, x.lst), (b3, 29, g.lst), (b2, 25, [.slice aoh nh cph, .slice (some ⟨g2, off2, none⟩) nw cpw])]) := HS
            refine (lk_mode w _ _ hs x.tx x.page x.slot (HG1.out.ext HS.out.isExt) HB1.out HSO.out rfl).mono ?_
            rintro e w ⟨he, hx⟩
            replace HS := Lib.hid (HS.out.ext hx)
            clear hx
            rw [modeF_key hs ⟨x.tx, x.page, x.slot, 0⟩ x rfl rfl rfl] at he
            obtain ⟨mx, hmx⟩ : ∃ m, m = modeF hs x := ⟨_, rfl⟩
            rw [← hmx] at he
            subst he
            have HMX := Lib.hid hmx
            clear hmx
            by_cases hx0 : mx = 0
            · have HPX : Hid (placeP hs g x = true) := Lib.hid (by simp only [placeP, sameLock, h2, h1n, ← HMX.out, hx0]; rfl)
              subst hx0
              go_wp2_with fail
              go_ret
              refine ⟨ret_int ?_, HS.out.isExt⟩
              have e : ws.findIdx? (placeP hs g) = some j := by
                rw [List.findIdx?_eq_some_iff_getElem]
                obtain ⟨h1, h2⟩ := List.getElem?_eq_some_iff.1 HX.out
                refine ⟨h1, by rw [h2]; exact HPX.out, fun k hk => ?_⟩
                have := HI.out k ws[k] hk (List.getElem?_eq_getElem _)
                simp [this]
              rw [HF.out, e]
              rfl
            · have hx1 : (mx == 0) = false := by simpa using hx0
              go_wp2_with fail
              have HPX : Hid (placeP hs g x = false) := Lib.hid (by simp only [placeP, ← HMX.out, hx1]; simp)
              replace HS := Lib.hid (HS.out.drop 1)
              go_roundw
              case rel => exact ⟨j + 1, by omega, by go_num, (fun k y hk hy => by
                by_cases e : k = j
                · subst e; have := HX.out.symm.trans hy; cases this; exact HPX.out
                · exact HI.out k y (by omega) hy), HS⟩
              case measure => simp [intOf]; omega
      · have hjn : j = nw := by omega
        subst hjn
        go_wp2_with (refine sx_load HS rfl 23 _ rfl 1 _ _ _ rfl 1 rfl _ sh23 (.slice aow j cpw) rfl ?_)
        go_ret
        refine ⟨ret_int ?_, HS.out.isExt⟩
        have e : ws.findIdx? (placeP hs g) = none := by
          rw [List.findIdx?_eq_none_iff]
          intro y hy
          obtain ⟨k, hk, rfl⟩ := List.getElem_of_mem hy
          exact HI.out k _ (by rw [HNw.out]; exact hk) (List.getElem?_eq_getElem hk)
        rw [HF.out, e]
        rfl
def waitF (hs ws : List G) (tx : Int) : Option G := if validT hs ws then ws.find? (fun x => x.tx == tx) else none
def zeroG : G := ⟨0, 0, 0, 0⟩
set_option maxHeartbeats 500000 in
set_option maxRecDepth 100000 in
theorem lk_Waiting (w0 : World) (vh vw : Value) (hs ws : List G) (tx : Int) (h1 : GsAt w0 vh hs) (h2 : GsAt w0 vw ws) (hb1 : hs.length ≤ 1000000) (hb2 : ws.length ≤ 1000000) : Calls Tryz.prog 55 #[.agg #[vh, vw], .int .i64 tx] w0 fun e w' => e = .returned (.tuple #[.agg ((waitF hs ws tx).getD zeroG).arr, .bool (waitF hs ws tx).isSome]) ∧ Ext w0 w' := by
  have HG1 := Lib.hid h1
  have HB1 := Lib.hid hb1
  obtain ⟨aoh, cph, rfl, hch1, hch2, hath⟩ := h1.get
  obtain ⟨nh, hnh⟩ : ∃ n, n = hs.length := ⟨_, rfl⟩
  rw [← hnh] at HG1 hch1 hath hb1 ⊢
  have HNh := Lib.hid hnh
  have HATh := Lib.hid hath
  clear hnh hath h1
  have HG2 := Lib.hid h2
  have HB2 := Lib.hid hb2
  obtain ⟨aow, cpw, rfl, hcw1, hcw2, hatw⟩ := h2.get
  obtain ⟨nw, hnw⟩ : ∃ n, n = ws.length := ⟨_, rfl⟩
  rw [← hnw] at HG2 hcw1 hatw hb2 ⊢
  have HNw := Lib.hid hnw
  have HATw := Lib.hid hatw
  clear hnw hatw h2
  have HS : Hid (St none default w0 w0 []) := St.start w0
  go_enter Tryz.func55, Tryz.ntmps55
  go_wp2_with (first | (refine sx_box HS rfl _ _ rfl [.slice aoh nh cph, .slice aow nw cpw] rfl ?_; clear HS; intro w b2 HS) | (refine sx_box1 HS rfl _ _ rfl (.int .i64 tx) rfl rfl ?_; clear HS; intro w b3 HS) | (refine sx_alloc HS rfl 29 rfl _ zr29 ?_; clear HS; intro w b4 HS) | (refine sx_load HS rfl 23 _ rfl 2 _ _ _ rfl 1 rfl _ sh23 (.slice aow nw cpw) rfl ?_))
  replace HS : Hid (St none default w0 w [(b4, 29, zeroG.lst), (b3, 3, [.int .i64 tx]), (b2, 25, [.slice aoh nh cph, .slice aow nw cpw])]) := HS
  have hpr : Pred w ws 77 [.pointer (some ⟨b3, 0, none⟩)] (fun x => x.tx == tx) := ⟨⟨_, Tryz.func77, (by kernel_rfl), (by kernel_rfl)⟩, fun z _ w2 k2 => lk_waiting1 z tx b3 w2 ((k2.pbox (HS.out.box (i := 1) rfl)).cell rfl)⟩
  refine (indexFunc_any _ _ ws (HG2.out.ext HS.out.isExt) 77 [.pointer (some ⟨b3, 0, none⟩)] (fun x => x.tx == tx) hpr).mono ?_
  rintro e w ⟨he, hx⟩
  replace HS := Lib.hid (HS.out.ext hx)
  clear hx hpr
  cases hfi : ws.findIdx? (fun x => x.tx == tx) with
  | none =>
    have hix : idxI ws (fun x => x.tx == tx) = -1 := by unfold idxI; rw [hfi]
    rw [hix] at he
    subst he
    have HF : Hid (waitF hs ws tx = none) := Lib.hid (by
      unfold waitF
      rw [List.findIdx?_eq_none_iff] at hfi
      have : ws.find? (fun x => x.tx == tx) = none := List.find?_eq_none.2 (fun x hx => by simp [hfi x hx])
      rw [this]
      split <;> rfl)
    clear hix hfi
    go_wp2_with (first | (refine sx_store_all HS rfl 29 _ _ rfl rfl 0 _ _ _ rfl rfl zeroG.lst rfl 4 sh29 rfl rfl rfl ?_; clear HS; intro w HS))
    have hB : PBox w b4 29 (zeroG).lst := HS.out.box (i := 0) rfl
    refine bodyPost_ret (results_ct rfl rfl (run_load_cells sh29 rfl (fun j u hj => by rw [Nat.zero_add]; exact hB.cell hj)) rfl) rfl ?_
    refine ⟨?_, HS.out.isExt⟩
    rw [HF.out]
    rfl
  | some i =>
    have hix : idxI ws (fun x => x.tx == tx) = (i : Int) := by unfold idxI; rw [hfi]
    rw [hix] at he
    subst he
    obtain ⟨g, hg⟩ : ∃ g, ws[i]? = some g := by
      rw [List.findIdx?_eq_some_iff_getElem] at hfi
      exact ⟨_, List.getElem?_eq_getElem hfi.1⟩
    have hin : i < nw := by rw [HNw.out]; exact (List.getElem?_eq_some_iff.1 hg).1
    obtain ⟨gw, ow, rfl, hcellw⟩ := HATw.out (by omega)
    have HCG := Lib.hid (hcellw i g hg)
    have hfd : ws.find? (fun x => x.tx == tx) = some g := by
      rw [List.find?_eq_some_iff_getElem]
      rw [List.findIdx?_eq_some_iff_getElem] at hfi
      obtain ⟨k1, k2, k3⟩ := hfi
      obtain ⟨_, hge⟩ := List.getElem?_eq_some_iff.1 hg
      refine ⟨by rw [← hge]; exact k2, i, k1, hge, fun j hj => by simpa using k3 j hj⟩
    have HFD := Lib.hid hfd
    clear hix hfi hg hcellw hfd
    go_wp2_with (refine sx_loads HS rfl 25 _ rfl 2 _ _ _ rfl 0 rfl 2 sh25 [.slice aoh nh cph, .slice (some ⟨gw, ow, none⟩) nw cpw] rfl ⟨rfl, rfl, trivial⟩ ?_)
    refine (lk_valid w _ _ hs ws (HG1.out.ext HS.out.isExt) (HG2.out.ext HS.out.isExt) HB1.out HB2.out).mono ?_
    rintro e w ⟨he, hx⟩
    replace HS := Lib.hid (HS.out.ext hx)
    clear hx
    cases hval : validT hs ws with
    | false =>
      rw [hval] at he
      subst he
      have HF : Hid (waitF hs ws tx = none) := Lib.hid (by unfold waitF; rw [hval]; rfl)
      clear hval
      go_wp2_with (first | (refine sx_store_all HS rfl 29 _ _ rfl rfl 0 _ _ _ rfl rfl zeroG.lst rfl 4 sh29 rfl rfl rfl ?_; clear HS; intro w HS))
      have hB : PBox w b4 29 (zeroG).lst := HS.out.box (i := 0) rfl
      refine bodyPost_ret (results_ct rfl rfl (run_load_cells sh29 rfl (fun j u hj => by rw [Nat.zero_add]; exact hB.cell hj)) rfl) rfl ?_
      refine ⟨?_, HS.out.isExt⟩
      rw [HF.out]
      rfl
    | true =>
      rw [hval] at he
      subst he
      have HF : Hid (waitF hs ws tx = some g) := Lib.hid (by unfold waitF; rw [hval]; exact HFD.out)
      clear hval
      go_wp2_with (first | (refine sx_load HS rfl 23 _ rfl 2 _ _ _ rfl 1 rfl _ sh23 (.slice (some ⟨gw, ow, none⟩) nw cpw) rfl ?_) | (refine sx_loadsC rfl 29 _ rfl gw (ow + i * 4) rfl 4 sh29 g.lst rfl (HCG.out _ HS.out.isExt) ?_) | (refine sx_store_all HS rfl 29 _ _ rfl rfl 0 _ _ _ rfl rfl g.lst rfl 4 sh29 rfl rfl rfl ?_; clear HS; intro w HS))
      have hB : PBox w b4 29 (g).lst := HS.out.box (i := 0) rfl
      refine bodyPost_ret (results_ct rfl rfl (run_load_cells sh29 rfl (fun j u hj => by rw [Nat.zero_add]; exact hB.cell hj)) rfl) rfl ?_
      refine ⟨?_, HS.out.isExt⟩
      rw [HF.out]
      rfl
end Go.Proofs.YtnfkplohpjfocaaGreat
