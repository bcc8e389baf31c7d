/-
  The contract of slices.DeleteFunc on grants of the call's own.
-/
import Derived.Test.YtnfkplohpjfocaaInsA
set_option linter.unusedVariables false
set_option linter.unusedSimpArgs false
namespace Go.Proofs.Ytnfkplohpjfocaa
open Go.RowKit
section
variable {P : Program} {ops : Array Oper} {Q : Exit → Act → World → Prop} {a : Act} {w : World} {cc : Option Nat} {q : CodeRow} {w0 : World} {o : Oper} {rest : List Oper}
/-- A struct goes into a block that stands in the middle. -/
theorem sx_storesM {front ll : List (Nat × TypeId × List Value)} {g : Nat} {E : TypeId} {cs : List Value} (HS : Hid (St cc q w0 w (front ++ ([(g, E, cs)] ++ ll)))) (hw : Region.wanted o (yielded ops a.tmps) = true) (ty : TypeId) (x y : Operand) (ho : o.op = .store ty x y) (hd : o.dst = none)
    (off : Nat) (hx : a.eval x = .pointer (some ⟨g, off, none⟩)) (n : Nat) (hs : shapeOf P ty = some (true, n)) (vs : List Value) (hy : a.eval y = .agg vs.toArray) (hn : vs.length = n) (h1 : vs.all (·.oneCell') = true) (hoff : off + n ≤ cs.length) (cs' : List Value) (hcs : putCells cs off vs = cs')
    (h : ∀ w', Hid (St cc q w0 w' (front ++ ([(g, E, cs')] ++ ll))) → wpList P ops Q rest a w') : wpList P ops Q (o :: rest) a w :=
  sx_stores HS hw ty x y ho hd front.length g E cs (by simp) off hx n hs vs hy hn h1 (Nat.ble_eq_true_of_le hoff) fun w' HS' => h w' (by
    subst hcs
    refine Lib.hid ?_
    have h2 := HS'.out
    rw [List.set_append_right _ _ (Nat.le_refl _)] at h2
    simpa using h2)
theorem sx_storeM {front ll : List (Nat × TypeId × List Value)} {g : Nat} {E : TypeId} {cs : List Value} (HS : Hid (St cc q w0 w (front ++ ([(g, E, cs)] ++ ll)))) (hw : Region.wanted o (yielded ops a.tmps) = true) (ty : TypeId) (x y : Operand) (ho : o.op = .store ty x y) (hd : o.dst = none)
    (off : Nat) (hx : a.eval x = .pointer (some ⟨g, off, none⟩)) (hs : shapeOf P ty = some (false, 1)) (v : Value) (hy : a.eval y = v) (h1 : v.oneCell' = true) (hoff : off + 1 ≤ cs.length) (cs' : List Value) (hcs : cs.set off v = cs')
    (h : ∀ w', Hid (St cc q w0 w' (front ++ ([(g, E, cs')] ++ ll))) → wpList P ops Q rest a w') : wpList P ops Q (o :: rest) a w :=
  sx_store HS hw ty x y ho hd front.length g E cs (by simp) off hx hs v hy h1 (Nat.ble_eq_true_of_le hoff) fun w' HS' => h w' (by
    subst hcs
    refine Lib.hid ?_
    have h2 := HS'.out
    rw [List.set_append_right _ _ (Nat.le_refl _)] at h2
    simpa using h2)
end
theorem gL_get {gs : List G} {i j : Nat} {x : G} {u : Value} (hx : gs[i]? = some x) (hu : x.lst[j]? = some u) : (gL gs)[i * 4 + j]? = some u := by
  have h0 : (gs.map G.lst)[i]? = some x.lst := by rw [List.getElem?_map, hx]; rfl
  exact flatten_at (gl4 gs) h0 j u hu
/-- The cells of one row, in its block. -/
theorem row_cells {front ll : List (Nat × TypeId × List Value)} {cc : Option Nat} {q : CodeRow} {w0 w : World} {g : Nat} {E : TypeId} {pre junk : List Value} {ys : List G} (HS : St cc q w0 w (front ++ ([(g, E, pre ++ (gL ys ++ junk))] ++ ll))) {off i : Nat} (hoff : off = pre.length) {x : G} (hx : ys[i]? = some x) : ∀ (j : Nat) (u : Value), x.lst[j]? = some u → w.cell? ⟨g, off + i * 4 + j, none⟩ = some u := by
  intro j u hj
  have h := part_cells HS hoff (i * 4 + j) u (gL_get hx hj)
  rw [addr_add, ← Nat.add_assoc] at h
  exact h
theorem gL_set {pre junk : List Value} {ys : List G} {i : Nat} {x : G} (hi : i < ys.length) : putCells (pre ++ (gL ys ++ junk)) (pre.length + i * 4) x.lst = pre ++ (gL (ys.set i x) ++ junk) := by
  have h1 := gL_cut hi
  have hl : (gL (ys.take i)).length = i * 4 := by rw [gL_len, List.length_take]; congr 1; omega
  have e : ys.set i x = ys.take i ++ x :: ys.drop (i + 1) := List.set_eq_take_append_cons_drop.trans (by rw [if_pos hi])
  rw [e, h1, gL_append, gL_cons]
  have := putCells_mid (pre ++ gL (ys.take i)) ys[i].lst (gL (ys.drop (i + 1)) ++ junk) x.lst rfl
  rw [List.length_append, hl] at this
  simpa using this
theorem Pred.mono {w0 w1 : World} {gs : List G} {K : FuncId} {caps : List Value} {p : G → Bool} (h : Pred w0 gs K caps p) (k : Ext w0 w1) : Pred w1 gs K caps p :=
  ⟨h.fn, fun x hx w e => h.says x hx w (k.trans e)⟩
structure DelInv (gs : List G) (p : G → Bool) (n i j : Nat) (ys : List G) : Prop where
  len : ys.length = n
  hd : ys.take i = (gs.take j).filter (fun x => !p x)
  tl : ys.drop j = gs.drop j
theorem DelInv.start {gs : List G} {p : G → Bool} {i : Nat} (h : gs.findIdx? p = some i) : DelInv gs p gs.length i (i + 1) gs := by
  rw [List.findIdx?_eq_some_iff_getElem] at h
  obtain ⟨h1, h2, h3⟩ := h
  refine ⟨rfl, ?_, rfl⟩
  rw [List.take_succ_eq_append_getElem h1, List.filter_append]
  have e1 : (gs.take i).filter (fun x => !p x) = gs.take i := List.filter_eq_self.2 fun x hx => by
    obtain ⟨k, hk⟩ := List.mem_iff_getElem?.1 hx
    have hki : k < i := by have := (List.getElem?_eq_some_iff.1 hk).1; simp at this; omega
    rw [List.getElem?_take, if_pos hki, List.getElem?_eq_getElem (by omega)] at hk
    cases hk
    simpa using h3 k hki
  rw [e1]
  simp [h2]
theorem DelInv.get {gs ys : List G} {p : G → Bool} {n i j : Nat} {x : G} (h : DelInv gs p n i j ys) (hx : gs[j]? = some x) : ys[j]? = some x := by
  have := congrArg (fun l => l[0]?) h.tl
  simpa [hx] using this
theorem DelInv.skip {gs ys : List G} {p : G → Bool} {n i j : Nat} {x : G} (h : DelInv gs p n i j ys) (hx : gs[j]? = some x) (hp : p x = true) : DelInv gs p n i (j + 1) ys := by
  obtain ⟨hl, rfl⟩ := List.getElem?_eq_some_iff.1 hx
  refine ⟨h.len, ?_, ?_⟩
  · rw [List.take_succ_eq_append_getElem hl, List.filter_append, h.hd]
    simp [hp]
  · rw [← List.drop_drop, ← List.drop_drop, h.tl]
theorem DelInv.keep {gs ys : List G} {p : G → Bool} {n i j : Nat} {x : G} (h : DelInv gs p n i j ys) (hij : i < j) (hx : gs[j]? = some x) (hp : p x = false) : DelInv gs p n (i + 1) (j + 1) (ys.set i x) := by
  obtain ⟨hl, rfl⟩ := List.getElem?_eq_some_iff.1 hx
  have hi : i < ys.length := by
    have := (List.getElem?_eq_some_iff.1 (h.get hx)).1
    omega
  refine ⟨by rw [List.length_set]; exact h.len, ?_, ?_⟩
  · rw [List.take_succ_eq_append_getElem (by rw [List.length_set]; exact hi), List.take_succ_eq_append_getElem hl, List.filter_append, ← h.hd]
    simp [hp, List.take_set_of_le]
  · rw [List.drop_set_of_lt (by omega), ← List.drop_drop, ← List.drop_drop, h.tl]
theorem DelInv.done {gs ys : List G} {p : G → Bool} {n i : Nat} (h : DelInv gs p n i n ys) (hn : n = gs.length) : ys.take i = gs.filter (fun x => !p x) := by
  rw [h.hd, hn, List.take_length]
set_option maxHeartbeats 4000000 in
set_option maxRecDepth 100000 in
theorem gs_deleteFunc (q : CodeRow) (w0 w : World) (front lr ll : List (Nat × TypeId × List Value)) (v : Value) (gs : List G) (K : FuncId) (caps : List Value) (p : G → Bool) (hst : St none q w0 w (front ++ (lr ++ ll))) (hr : OwnRow 29 4 lr v gs.length (gL gs)) (hp : Pred w0 gs K caps p) (hlen : gs.length ≤ 1000000) :
    Calls Try.prog 50 #[v, .func (.func K) #[] caps.toArray] w (InsPost q w0 front ll (gs.filter fun x => !p x)) := by
  obtain ⟨⟨fn, hf1, hf2, hf3⟩, hsays⟩ := id hp
  have hga : GsAt w v gs := GsAt.own hst (fun e he => by simp [he]) hr
  have HIF := Lib.hid (indexFunc_any w v gs hga K caps p (hp.mono hst.isExt))
  have HF1 := Lib.hid hf1
  have HF2 := Lib.hid hf2
  have HF3 := Lib.hid hf3
  have HP := Lib.hid hsays
  have HR := Lib.hid hr
  have HS := Lib.hid hst
  obtain ⟨ao, cap, rfl, hc1, hc2⟩ := hr.form
  have hcm2 : cap ≤ 9223372036854775807 := hc2
  obtain ⟨n, hn⟩ : ∃ n, n = gs.length := ⟨_, rfl⟩
  rw [← hn] at HR hc1 hlen HIF ⊢
  have HN := Lib.hid hn
  clear hp hf1 hf2 hf3 hsays hst hr hga hc2 hn
  go_enter Try.func50, Try.ntmps50
  go_wp2_with fail
  refine HIF.out.mono ?_
  rintro e w1 ⟨he, hx⟩
  replace HS := Lib.hid (HS.out.ext hx)
  clear hx HIF
  cases hfi : gs.findIdx? p with
  | none =>
    have hix : idxI gs p = -1 := by unfold idxI; rw [hfi]
    rw [hix] at he
    subst he
    have HF : Hid (gs.filter (fun x => !p x) = gs) := Lib.hid (List.filter_eq_self.2 fun x hx => by
      have := List.findIdx?_eq_none_iff.1 hfi x hx
      simp [this])
    clear hfi hix
    go_wp2_with fail
    go_ret
    rw [HF.out]
    exact ⟨_, lr, rfl, HS.out, by rw [← HN.out]; exact HR.out⟩
  | some i0 =>
    have hix : idxI gs p = (i0 : Int) := by unfold idxI; rw [hfi]
    rw [hix] at he
    subst he
    have HI0 := Lib.hid (DelInv.start hfi)
    have hi0 : i0 < n := by rw [HN.out]; exact (List.findIdx?_eq_some_iff_getElem.1 hfi).1
    clear hfi hix
    obtain ⟨hxl, ⟨_, _, h0⟩ | ⟨g, cap', pre, junk, rfl, hv, _, _, hj⟩⟩ := HR.out
    · omega
    cases hv
    clear HR
    have HJ := Lib.hid hj
    obtain ⟨off, hoff⟩ : ∃ off, off = pre.length := ⟨_, rfl⟩
    have HOFF := Lib.hid hoff
    rw [← hoff]
    clear hj hoff hxl
    rw [← HN.out] at HI0
    go_wp2_with fail
    go_loopw [5, 6] (fun s5 s6 wr => ∃ (i j : Nat) (ys : List G), i < j ∧ j ≤ n ∧ s5 = .int .i64 i ∧ s6 = .int .i64 j ∧ Hid (DelInv gs p n i j ys) ∧ Hid (St none q w0 wr (front ++ ([(g, 29, pre ++ (gL ys ++ junk))] ++ ll)))) (fun _ s6 _ => n - (intOf s6).toNat)
    case atStart => exact ⟨i0, i0 + 1, gs, by omega, by omega, rfl, by go_num, HI0, HS⟩
    case round =>
      clear HS HI0
      obtain ⟨i, j, ys, hij, hjn, rfl, rfl, HI, HS⟩ := hrel
      by_cases hlt : j < n
      · obtain ⟨x, hx⟩ := list_get_of_lt gs j n HN.out.symm hlt
        have HX := Lib.hid hx
        have HY := Lib.hid (HI.out.get hx)
        clear hx
        cases hpx : p x with
        | true =>
          have HI2 := Lib.hid (HI.out.skip HX.out hpx)
          have HCC : Hid (∀ w, Ext w0 w → Calls Try.prog K ([Value.agg x.arr] ++ caps).toArray w (fun e w' => e = .returned (.bool true) ∧ Ext w w')) := Lib.hid fun w k => by
            have h := HP.out x (List.mem_of_getElem? HX.out) w k
            rw [hpx] at h
            exact h
          have tok1 : True := trivial
          clear hpx
          go_wp2_with (first | (refine sx_loadsC (by rfl) 29 _ rfl g (off + j * 4) rfl 4 sh29 x.lst rfl (row_cells HS.out HOFF.out HY.out) ?_) | (refine sx_alloc HS (by rfl) 29 rfl _ zr29 ?_; clear HS; intro w b7 HS) | (refine sx_store_all HS (by rfl) 29 (.tmp 7) (.tmp 25) rfl rfl 0 _ _ _ rfl rfl x.lst rfl 4 sh29 rfl rfl rfl ?_; clear HS; intro w HS) | (refine sx_load_all HS (by rfl) 29 (.tmp 7) rfl 0 _ _ _ rfl rfl 4 sh29 rfl ?_) | (have _t := tok1; refine sx_callv rfl K caps (.tmp 26) [.tmp 27] _ rfl rfl HF1.out HF2.out HF3.out [.agg x.arr] rfl (fun v w' => v = .bool true ∧ St none q w0 w' ((b7, 29, x.lst) :: (front ++ ([(g, 29, pre ++ (gL ys ++ junk))] ++ ll)))) ((HCC.out _ HS.out.isExt).mono (fun e w1 h => by obtain ⟨rfl, hx⟩ := h; exact ⟨_, rfl, rfl, HS.out.ext hx⟩)) ?_; clear HS tok1; rintro _ w ⟨rfl, hst⟩; have HS := Lib.hid hst; clear hst))
          go_roundw
          case rel => (repeat apply Exists.intro); exact ⟨⟨i, j + 1, ys, by omega, by omega, rfl, by go_num, HI2, Lib.hid (HS.out.drop 1)⟩, rfl⟩
          case measure => simp [intOf]; omega
        | false =>
          have HI2 := Lib.hid (HI.out.keep hij HX.out hpx)
          have HCC : Hid (∀ w, Ext w0 w → Calls Try.prog K ([Value.agg x.arr] ++ caps).toArray w (fun e w' => e = .returned (.bool false) ∧ Ext w w')) := Lib.hid fun w k => by
            have h := HP.out x (List.mem_of_getElem? HX.out) w k
            rw [hpx] at h
            exact h
          have tok1 : True := trivial
          clear hpx
          go_wp2_with (first | (refine sx_loadsC (by rfl) 29 _ rfl g (off + j * 4) rfl 4 sh29 x.lst rfl (row_cells HS.out HOFF.out HY.out) ?_) | (refine sx_alloc HS (by rfl) 29 rfl _ zr29 ?_; clear HS; intro w b7 HS) | (refine sx_store_all HS (by rfl) 29 (.tmp 7) (.tmp 25) rfl rfl 0 _ _ _ rfl rfl x.lst rfl 4 sh29 rfl rfl rfl ?_; clear HS; intro w HS) | (refine sx_load_all HS (by rfl) 29 (.tmp 7) rfl 0 _ _ _ rfl rfl 4 sh29 rfl ?_) | (have _t := tok1; refine sx_callv rfl K caps (.tmp 26) [.tmp 27] _ rfl rfl HF1.out HF2.out HF3.out [.agg x.arr] rfl (fun v w' => v = .bool false ∧ St none q w0 w' ((b7, 29, x.lst) :: (front ++ ([(g, 29, pre ++ (gL ys ++ junk))] ++ ll)))) ((HCC.out _ HS.out.isExt).mono (fun e w1 h => by obtain ⟨rfl, hx⟩ := h; exact ⟨_, rfl, rfl, HS.out.ext hx⟩)) ?_; clear HS tok1; rintro _ w ⟨rfl, hst⟩; have HS := Lib.hid hst; clear hst) | (refine sx_storesM (front := (b7, 29, x.lst) :: front) HS (by rfl) 29 (.tmp 33) (.tmp 32) rfl rfl (off + i * 4) rfl 4 sh29 x.lst rfl rfl rfl (by have h1 := HOFF.out; have h2 := HI.out.len; simp only [List.length_append, gL_len]; omega) (pre ++ (gL (ys.set i x) ++ junk)) (by rw [HOFF.out]; exact gL_set (by rw [HI.out.len]; omega)) ?_; clear HS; intro w HS))
          go_roundw
          case rel => (repeat apply Exists.intro); exact ⟨⟨i + 1, j + 1, ys.set i x, by omega, by omega, by go_num, by go_num, HI2, Lib.hid (HS.out.drop 1)⟩, rfl⟩
          case measure => simp [intOf]; omega
      · have hjn2 : j = n := by omega
        subst hjn2
        have hd := HI.out.done HN.out
        have hyl : ys.length = j := HI.out.len
        have e1 : gL ys = gL (ys.take i) ++ gL (ys.drop i) := by rw [← gL_append, List.take_append_drop]
        have hA : (gL (ys.take i)).length = i * 4 := by rw [gL_len, List.length_take]; congr 1; omega
        have hB : (gL (ys.drop i)).length = (j - i) * 4 := by rw [gL_len, List.length_drop, hyl]
        rw [e1] at HS
        have HFL : Hid ((gs.filter (fun x => !p x)).length = i) := Lib.hid (by rw [← hd, List.length_take]; omega)
        rw [hd] at HS hA
        obtain ⟨B, hBB⟩ : ∃ B, B = gL (ys.drop i) := ⟨_, rfl⟩
        rw [← hBB] at HS hB
        have HA := Lib.hid hA
        have HB := Lib.hid hB
        have hic : i < cap := by omega
        clear hd hyl e1 hA hB hBB HI
        go_wp2_with (first | (refine sx_run rfl _ (run_sl_lo (ao := some ⟨g, off, none⟩) (n := j) (cap := cap) (k := i) (s := 4) rfl Try.underlying23 (by kernel_rfl) rfl rfl (by omega) (sliced_at hic).symm) ?_) | (refine sx_clear HS rfl _ _ rfl 29 _ [.int .i64 0, .int .i64 0, .int .i64 0, .int .i64 0] Try.underlying23 zr29 rfl (by intro v hv; simp at hv; subst hv; rfl) (off + i * 4) (j - i) (cap - i) rfl (by have h1 := HA.out; have h2 := HB.out; have h3 := HOFF.out; simp only [List.length_append, h1, h2, h3, List.length_cons, List.length_nil]; omega) ?_; clear HS; intro w js hjs HS; have HJS := Lib.hid hjs; clear hjs) | (refine sx_run rfl (.slice (some ⟨g, off, none⟩) i cap) (run_sl_hi (n := j) (s := 4) rfl Try.underlying23 (by kernel_rfl) rfl rfl (by omega) (sliced_hi4 _ _ _ 4).symm) ?_))
        go_ret
        refine ⟨_, _, rfl, HS.out, ?_⟩
        rw [HFL.out]
        have hA := HA.out
        have hB := HB.out
        have hJ := HJ.out
        have hoff := HOFF.out
        have hjs : js.length = (j - i) * 4 := HJS.out
        have e1 : (pre ++ (gL (gs.filter fun x => !p x) ++ B ++ junk)).take (off + i * 4) = pre ++ gL (gs.filter fun x => !p x) := by
          rw [hoff, ← hA, take_past, List.append_assoc, List.take_left]
        have e2 : (pre ++ (gL (gs.filter fun x => !p x) ++ B ++ junk)).drop (off + i * 4 + js.length) = junk := by
          rw [hoff, ← hA, Nat.add_assoc, drop_past, List.append_assoc, drop_past, hjs, ← hB, List.drop_left]
        rw [e1, e2, List.append_assoc pre]
        refine ⟨hA, .inr ⟨g, cap, pre, js ++ junk, by simp, (by rw [← hoff]; rfl), by omega, hcm2, ?_⟩⟩
        simp only [List.length_append, hjs, hJ]
        omega
end Go.Proofs.Ytnfkplohpjfocaa
