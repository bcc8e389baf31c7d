/-
  The contract of the reference's For.
-/
import Derived.Test.YtnfkplohpjfocaaGreatRgA
import Derived.Test.YtnfkplohpjfocaaGreatRfC
set_option linter.unusedVariables false
set_option linter.unusedSimpArgs false
namespace Go.Proofs.YtnfkplohpjfocaaGreat
open Go.RowKit
section
variable {P : Program} {ops : Array Oper} {Q : Exit → Act → World → Prop} {a : Act} {w : World} {o : Oper} {rest : List Oper}
/-- A comparison that says no: what it says is kept out of sight, else the goal runs on by itself wherever it is looked at. -/
theorem sx_lss_no (hw : Region.wanted o (yielded ops a.tmps) = true) (ty ty2 : TypeId) (x y : Operand) (ho : o.op = .binOp .lss ty x y ty2) (m n : Int) (hx : a.eval x = .int .i64 m) (hy : a.eval y = .int .i64 n) (hu : P.underlying ty = some (.int .i64)) (h : ¬ m < n)
    (h2 : ∀ b : Bool, b = false → wpList P ops Q rest (a.put o.dst (.bool b)) w) : wpList P ops Q (o :: rest) a w :=
  sx_run hw (.bool false) (run_binop ho hx hy (by simp [go_sem, eqGuard]) (by simp [go_sem, hu, h])) (h2 false rfl)
end
set_option maxHeartbeats 8000000 in
set_option maxRecDepth 100000 in
theorem rf_for (w0 : World) (vh vw : Value) (hs ws : List G) (h1 : GsAt w0 vh hs) (h2 : GsAt w0 vw ws) (hb1 : hs.length ≤ 40000) (hb2 : ws.length ≤ 40000) (tx : Int) (g : G) (b : Bool) (hW : ∀ w, Ext w0 w → Calls Tryz.prog 27 #[.agg #[vh, vw], .int .i64 tx] w (fun e w' => e = .returned (.tuple #[.agg g.arr, .bool b]) ∧ Ext w w')) : Calls Tryz.prog 11 #[.agg #[vh, vw], .int .i64 tx] w0 (fun e w' => ∃ v', e = .returned v' ∧ IntsNew (if b then accF (hs ++ upto ws tx) g else []) w0 v' w') := by
  obtain ⟨aoh, cph, rfl, hch1, hch2, hath⟩ := h1.get
  have HGh := Lib.hid h1
  obtain ⟨nh, hnh⟩ : ∃ n, n = hs.length := ⟨_, rfl⟩
  rw [← hnh] at hch1 hath HGh hb1 hW ⊢
  have HNh := Lib.hid hnh
  have HATh := Lib.hid hath
  clear hnh hath h1
  obtain ⟨aow, cpw, rfl, hcw1, hcw2, hatw⟩ := h2.get
  have HGw := Lib.hid h2
  obtain ⟨nw, hnw⟩ : ∃ n, n = ws.length := ⟨_, rfl⟩
  rw [← hnw] at hcw1 hatw HGw hb2 hW ⊢
  have HNw := Lib.hid hnw
  have HATw := Lib.hid hatw
  clear hnw hatw h2
  have HW := Lib.hid hW
  clear hW
  have HS : Hid (St none default w0 w0 []) := St.start w0
  go_enter Tryz.func11, Tryz.ntmps11
  go_wp2_with (first | (refine sx_box HS rfl 25 (.tmp 0) rfl [.slice aoh nh cph, .slice aow nw cpw] rfl ?_; clear HS; intro w b2 HS) | (refine sx_loads HS (by rfl) 25 (.tmp 2) rfl 0 _ _ _ rfl 0 rfl 2 sh25 [.slice aoh nh cph, .slice aow nw cpw] rfl ⟨rfl, rfl, trivial⟩ ?_))
  refine (HW.out _ HS.out.isExt).mono ?_
  rintro e w ⟨rfl, hx⟩
  replace HS := Lib.hid (HS.out.ext hx)
  clear hx
  cases b with
  | false =>
    go_wp2_with (first | (refine sx_alloc HS (by rfl) 29 rfl _ zr29 ?_; clear HS; intro w b5 HS) | (refine sx_store_all HS (by rfl) 29 _ _ rfl rfl 0 _ _ _ rfl rfl g.lst rfl 4 sh29 rfl rfl rfl ?_; clear HS; intro w HS))
    go_ret
    exact ⟨_, rfl, [], HS.out.sub (List.nil_sublist _), OwnRow.nil⟩
  | true =>
    go_wp2_with (first | (refine sx_alloc HS (by rfl) 29 rfl _ zr29 ?_; clear HS; intro w b5 HS) | (refine sx_store_all HS (by rfl) 29 _ _ rfl rfl 0 _ _ _ rfl rfl g.lst rfl 4 sh29 rfl rfl rfl ?_; clear HS; intro w HS))
    replace HS : Hid (St none default w0 w [(b5, 29, [.int .i64 g.tx, .int .i64 g.page, .int .i64 g.slot, .int .i64 g.mode]), (b2, 25, [.slice aoh nh cph, .slice aow nw cpw])]) := HS
    go_loopw [7, 8] (fun s7 s8 wr => ∃ (i : Nat) (lr : List (Nat × TypeId × List Value)), i ≤ nh ∧ s8 = .int .i64 i ∧ Hid (St none default w0 wr (lr ++ [(b5, 29, [.int .i64 g.tx, .int .i64 g.page, .int .i64 g.slot, .int .i64 g.mode]), (b2, 25, [.slice aoh nh cph, .slice aow nw cpw])])) ∧ Hid (OwnRow 3 1 lr s7 (accF (hs.take i) g).length ((accF (hs.take i) g).map iV))) (fun _ s8 _ => nh - (intOf s8).toNat)
    case atStart => exact ⟨0, [], Nat.zero_le _, rfl, HS, Lib.hid (by simp only [List.take_zero]; exact OwnRow.nil)⟩
    case round =>
      clear HS
      obtain ⟨i, lr, hi, rfl, HS, HR⟩ := hrel
      by_cases hlt : i < nh
      · obtain ⟨x, hx⟩ := list_get_of_lt hs i nh HNh.out.symm hlt
        obtain ⟨gq, off, rfl, hcell⟩ := HATh.out (by omega)
        have HX := Lib.hid hx
        have HC := Lib.hid (hcell i x hx)
        clear hcell hx
        obtain ⟨ao7, cp7, rfl, hq1, hq2⟩ := HR.out.form
        have hal : (accF (hs.take i) g).length ≤ 80000 := by
          have h1 := accF_len (hs.take i) g
          have h2 := HNh.out
          have h3 := HNw.out
          simp only [List.length_append, List.length_take] at h1
          omega
        have HAL := Lib.hid hal
        clear hal hq1 hq2
        go_wp2_with (first | (refine sx_load HS (by rfl) 23 (.tmp 19) rfl (lr.length + 1) b2 25 [.slice (some ⟨gq, off, none⟩) nh cph, .slice aow nw cpw] (by simp) 0 rfl _ sh23 (.slice (some ⟨gq, off, none⟩) nh cph) rfl ?_))
        cases hcf : conflictB x g with
        | false =>
          refine hg_begin [(b5, 29, [.int .i64 g.tx, .int .i64 g.page, .int .i64 g.slot, .int .i64 g.mode]), (b2, 25, [.slice (some ⟨gq, off, none⟩) nh cph, .slice aow nw cpw])] HS (by kernel_rfl) ?_
          clear HS; intro w HS
          refine hg_reg 0 (some 25) rfl rfl (by kernel_rfl) (by kernel_rfl) (by kernel_rfl) (fun _ _ _ _ h => h) HS (List.sublist_append_right lr _) (.pointer (some ⟨b2, 0, none⟩)) rfl (fun _ => by go_simp) ?_
          try simp only [Act.put, List.setIfInBounds_toArray, List.set_cons_zero, List.set_cons_succ]
          refine hg_load 1 (some 26) rfl rfl (by kernel_rfl) (by kernel_rfl) (by kernel_rfl) (fun _ _ _ _ h => h) HS (List.sublist_append_right lr _) rfl 23 _ rfl 1 _ _ _ rfl 0 rfl _ sh23 (.slice (some ⟨gq, off, none⟩) nh cph) rfl ?_
          try simp only [Act.put, List.setIfInBounds_toArray, List.set_cons_zero, List.set_cons_succ]
          refine hg_reg 2 (some 27) rfl rfl (by kernel_rfl) (by kernel_rfl) (by kernel_rfl) (fun _ _ _ _ h => h) HS (List.sublist_append_right lr _) (.int .i64 (i : Int)) rfl (fun _ => by rfl) ?_
          try simp only [Act.put, List.setIfInBounds_toArray, List.set_cons_zero, List.set_cons_succ]
          refine hg_reg 3 (some 28) rfl rfl (by kernel_rfl) (by kernel_rfl) (by kernel_rfl) (fun _ _ _ _ h => h) HS (List.sublist_append_right lr _) (.pointer (some ⟨gq, off + i * 4, none⟩)) rfl (fun _ => by go_simp) ?_
          try simp only [Act.put, List.setIfInBounds_toArray, List.set_cons_zero, List.set_cons_succ]
          refine hg_loadsC 4 (some 29) rfl rfl (by kernel_rfl) (by kernel_rfl) (by kernel_rfl) (fun _ _ _ _ h => h) HS (List.sublist_append_right lr _) rfl 29 _ rfl gq (off + i * 4) rfl 4 sh29 (x.lst) rfl (fun w2 h2 => HC.out w2 h2.isExt) ?_
          try simp only [Act.put, List.setIfInBounds_toArray, List.set_cons_zero, List.set_cons_succ]
          refine hg_loads 5 (some 30) rfl rfl (by kernel_rfl) (by kernel_rfl) (by kernel_rfl) (fun _ _ _ _ h => h) HS (List.sublist_append_right lr _) rfl 29 _ rfl 0 _ _ _ rfl 0 rfl 4 sh29 [.int .i64 g.tx, .int .i64 g.page, .int .i64 g.slot, .int .i64 g.mode] rfl ⟨rfl, rfl, rfl, rfl, trivial⟩ ?_
          try simp only [Act.put, List.setIfInBounds_toArray, List.set_cons_zero, List.set_cons_succ]
          refine hk_x1 6 (by kernel_rfl) ?_
          refine hg_call 6 (some 31) rfl rfl rfl HS (List.sublist_append_right lr _) 28 _ _ rfl Tryz.func28 (by kernel_rfl) rfl _ (fun v => v = .bool false) ((rf_conflict x g _).mono (fun e w1 h => by obtain ⟨rfl, hx⟩ := h; exact ⟨_, rfl, by rw [hcf], HS.out.ext hx⟩)) rfl ?_
          clear HS; rintro _ w rfl HS
          try simp only [Act.put, List.setIfInBounds_toArray, List.set_cons_zero, List.set_cons_succ]
          refine hk_done (by kernel_rfl) ?_
          have HR2 : Hid (OwnRow 3 1 lr _ (accF (hs.take (i + 1)) g).length ((accF (hs.take (i + 1)) g).map iV)) := Lib.hid (by rw [take_nx HX.out, accF_no hcf]; exact HR.out)
          clear hcf
          go_wp2_with fail
          go_roundw
          case rel => exact ⟨i + 1, lr, by omega, by go_num, HS, HR2⟩
          case measure => simp [intOf]; omega
        | true =>
          refine hg_begin [(b5, 29, [.int .i64 g.tx, .int .i64 g.page, .int .i64 g.slot, .int .i64 g.mode]), (b2, 25, [.slice (some ⟨gq, off, none⟩) nh cph, .slice aow nw cpw])] HS (by kernel_rfl) ?_
          clear HS; intro w HS
          refine hg_reg 0 (some 25) rfl rfl (by kernel_rfl) (by kernel_rfl) (by kernel_rfl) (fun _ _ _ _ h => h) HS (List.sublist_append_right lr _) (.pointer (some ⟨b2, 0, none⟩)) rfl (fun _ => by go_simp) ?_
          try simp only [Act.put, List.setIfInBounds_toArray, List.set_cons_zero, List.set_cons_succ]
          refine hg_load 1 (some 26) rfl rfl (by kernel_rfl) (by kernel_rfl) (by kernel_rfl) (fun _ _ _ _ h => h) HS (List.sublist_append_right lr _) rfl 23 _ rfl 1 _ _ _ rfl 0 rfl _ sh23 (.slice (some ⟨gq, off, none⟩) nh cph) rfl ?_
          try simp only [Act.put, List.setIfInBounds_toArray, List.set_cons_zero, List.set_cons_succ]
          refine hg_reg 2 (some 27) rfl rfl (by kernel_rfl) (by kernel_rfl) (by kernel_rfl) (fun _ _ _ _ h => h) HS (List.sublist_append_right lr _) (.int .i64 (i : Int)) rfl (fun _ => by rfl) ?_
          try simp only [Act.put, List.setIfInBounds_toArray, List.set_cons_zero, List.set_cons_succ]
          refine hg_reg 3 (some 28) rfl rfl (by kernel_rfl) (by kernel_rfl) (by kernel_rfl) (fun _ _ _ _ h => h) HS (List.sublist_append_right lr _) (.pointer (some ⟨gq, off + i * 4, none⟩)) rfl (fun _ => by go_simp) ?_
          try simp only [Act.put, List.setIfInBounds_toArray, List.set_cons_zero, List.set_cons_succ]
          refine hg_loadsC 4 (some 29) rfl rfl (by kernel_rfl) (by kernel_rfl) (by kernel_rfl) (fun _ _ _ _ h => h) HS (List.sublist_append_right lr _) rfl 29 _ rfl gq (off + i * 4) rfl 4 sh29 (x.lst) rfl (fun w2 h2 => HC.out w2 h2.isExt) ?_
          try simp only [Act.put, List.setIfInBounds_toArray, List.set_cons_zero, List.set_cons_succ]
          refine hg_loads 5 (some 30) rfl rfl (by kernel_rfl) (by kernel_rfl) (by kernel_rfl) (fun _ _ _ _ h => h) HS (List.sublist_append_right lr _) rfl 29 _ rfl 0 _ _ _ rfl 0 rfl 4 sh29 [.int .i64 g.tx, .int .i64 g.page, .int .i64 g.slot, .int .i64 g.mode] rfl ⟨rfl, rfl, rfl, rfl, trivial⟩ ?_
          try simp only [Act.put, List.setIfInBounds_toArray, List.set_cons_zero, List.set_cons_succ]
          refine hk_x1 6 (by kernel_rfl) ?_
          refine hg_call 6 (some 31) rfl rfl rfl HS (List.sublist_append_right lr _) 28 _ _ rfl Tryz.func28 (by kernel_rfl) rfl _ (fun v => v = .bool true) ((rf_conflict x g _).mono (fun e w1 h => by obtain ⟨rfl, hx⟩ := h; exact ⟨_, rfl, by rw [hcf], HS.out.ext hx⟩)) rfl ?_
          clear HS; rintro _ w rfl HS
          try simp only [Act.put, List.setIfInBounds_toArray, List.set_cons_zero, List.set_cons_succ]
          refine hk_done (by kernel_rfl) ?_
          have HCF := Lib.hid hcf
          clear hcf
          go_wp2_with (first | (refine sx_load HS (by rfl) 23 (.tmp 33) rfl (lr.length + 1) b2 25 [.slice (some ⟨gq, off, none⟩) nh cph, .slice aow nw cpw] (by simp) 0 rfl _ sh23 (.slice (some ⟨gq, off, none⟩) nh cph) rfl ?_) | (refine sx_load1 (by rfl) 3 _ rfl gq (off + i * 4) rfl _ sh3 (.int .i64 x.tx) (HC.out _ HS.out.isExt 0 _ rfl) ?_))
          refine (rf_withF _ _ (accF (hs.take i) g) x.tx (IsAt.own HS.out (fun e he => List.mem_append_left _ he) HR.out) (by have := HAL.out; omega) (accF_srt _ _)).mono ?_
          rintro e w ⟨v2, rfl, hnew⟩
          obtain ⟨lr2, HS2, HR3⟩ := hnew.on HS
          clear HS HR hnew
          have HS := HS2
          clear HS2
          have HR2 : Hid (OwnRow 3 1 lr2 v2 (accF (hs.take (i + 1)) g).length ((accF (hs.take (i + 1)) g).map iV)) := Lib.hid (by rw [take_nx HX.out, accF_yes HCF.out]; exact HR3.out)
          clear HR3
          go_wp2_with fail
          go_roundw
          case rel => exact ⟨i + 1, lr2, by omega, by go_num, HS, HR2⟩
          case measure => simp [intOf]; omega
      · have him : i = nh := by omega
        subst him
        have e1 : hs.take i = hs := List.take_of_length_le (by rw [HNh.out]; exact Nat.le_refl _)
        rw [e1] at HR
        clear e1
        go_wp2_with (first | (refine sx_load HS (by rfl) 23 (.tmp 19) rfl (lr.length + 1) b2 25 [.slice aoh i cph, .slice aow nw cpw] (by simp) 0 rfl _ sh23 (.slice aoh i cph) rfl ?_))
        go_loopw [7, 9] (fun s7 s9 wr => ∃ (i2 : Nat) (lr : List (Nat × TypeId × List Value)), i2 ≤ nw ∧ s9 = .int .i64 i2 ∧ Hid (Upto ws tx i2) ∧ Hid (St none default w0 wr (lr ++ [(b5, 29, [.int .i64 g.tx, .int .i64 g.page, .int .i64 g.slot, .int .i64 g.mode]), (b2, 25, [.slice aoh i cph, .slice aow nw cpw])])) ∧ Hid (OwnRow 3 1 lr s7 (accF (hs ++ ws.take i2) g).length ((accF (hs ++ ws.take i2) g).map iV))) (fun _ s9 _ => nw - (intOf s9).toNat)
        case atStart => exact ⟨0, lr, Nat.zero_le _, rfl, Lib.hid (Upto.zero ws tx), HS, Lib.hid (by rw [List.take_zero, List.append_nil]; exact HR.out)⟩
        case round =>
          clear HS HR lr
          obtain ⟨i2, lr, hi, rfl, HU, HS, HR⟩ := hrel
          by_cases hlt : i2 < nw
          · obtain ⟨x, hx⟩ := list_get_of_lt ws i2 nw HNw.out.symm hlt
            obtain ⟨gq, off, rfl, hcell⟩ := HATw.out (by omega)
            have HX := Lib.hid hx
            have HC := Lib.hid (hcell i2 x hx)
            clear hcell hx
            obtain ⟨ao7, cp7, rfl, hq1, hq2⟩ := HR.out.form
            have hal : (accF (hs ++ ws.take i2) g).length ≤ 80000 := by
              have h1 := accF_len (hs ++ ws.take i2) g
              have h2 := HNh.out
              have h3 := HNw.out
              simp only [List.length_append, List.length_take] at h1
              omega
            have HAL := Lib.hid hal
            clear hal hq1 hq2
            cases hxt : (x.tx == tx) with
            | true =>
              have hxn : (x.tx != tx) = false := by simp [bne, hxt]
              have HF : Hid (upto ws tx = ws.take i2) := Lib.hid (HU.out.stop HX.out hxt)
              have HR4 : Hid (OwnRow 3 1 lr _ (accF (hs ++ upto ws tx) g).length ((accF (hs ++ upto ws tx) g).map iV)) := Lib.hid (by rw [HF.out]; exact HR.out)
              go_wp2_with (first | (refine sx_load HS (by rfl) 23 (.tmp 41) rfl (lr.length + 1) b2 25 [.slice aoh i cph, .slice (some ⟨gq, off, none⟩) nw cpw] (by simp) 1 rfl _ sh23 (.slice (some ⟨gq, off, none⟩) nw cpw) rfl ?_) | (refine sx_load HS (by rfl) 23 (.tmp 46) rfl (lr.length + 1) b2 25 [.slice aoh i cph, .slice (some ⟨gq, off, none⟩) nw cpw] (by simp) 1 rfl _ sh23 (.slice (some ⟨gq, off, none⟩) nw cpw) rfl ?_) | (refine sx_load1 (by rfl) 3 _ rfl gq (off + i2 * 4) rfl _ sh3 (.int .i64 x.tx) (HC.out _ HS.out.isExt 0 _ rfl) ?_))
              go_ret
              exact ⟨_, rfl, lr, HS.out.sub (List.sublist_append_left _ _), HR4.out⟩
            | false =>
              have hxn : (x.tx != tx) = true := by simp [bne, hxt]
              have HU2 := Lib.hid (HU.out.next HX.out hxt)
              go_wp2_with (first | (refine sx_load HS (by rfl) 23 (.tmp 41) rfl (lr.length + 1) b2 25 [.slice aoh i cph, .slice (some ⟨gq, off, none⟩) nw cpw] (by simp) 1 rfl _ sh23 (.slice (some ⟨gq, off, none⟩) nw cpw) rfl ?_) | (refine sx_load HS (by rfl) 23 (.tmp 46) rfl (lr.length + 1) b2 25 [.slice aoh i cph, .slice (some ⟨gq, off, none⟩) nw cpw] (by simp) 1 rfl _ sh23 (.slice (some ⟨gq, off, none⟩) nw cpw) rfl ?_) | (refine sx_load1 (by rfl) 3 _ rfl gq (off + i2 * 4) rfl _ sh3 (.int .i64 x.tx) (HC.out _ HS.out.isExt 0 _ rfl) ?_))
              cases hcf : conflictB x g with
              | false =>
                refine hg_begin [(b5, 29, [.int .i64 g.tx, .int .i64 g.page, .int .i64 g.slot, .int .i64 g.mode]), (b2, 25, [.slice aoh i cph, .slice (some ⟨gq, off, none⟩) nw cpw])] HS (by kernel_rfl) ?_
                clear HS; intro w HS
                refine hg_reg 0 (some 57) rfl rfl (by kernel_rfl) (by kernel_rfl) (by kernel_rfl) (fun _ _ _ _ h => h) HS (List.sublist_append_right lr _) (.pointer (some ⟨b2, 1, none⟩)) rfl (fun _ => by go_simp) ?_
                try simp only [Act.put, List.setIfInBounds_toArray, List.set_cons_zero, List.set_cons_succ]
                refine hg_load 1 (some 58) rfl rfl (by kernel_rfl) (by kernel_rfl) (by kernel_rfl) (fun _ _ _ _ h => h) HS (List.sublist_append_right lr _) rfl 23 _ rfl 1 _ _ _ rfl 1 rfl _ sh23 (.slice (some ⟨gq, off, none⟩) nw cpw) rfl ?_
                try simp only [Act.put, List.setIfInBounds_toArray, List.set_cons_zero, List.set_cons_succ]
                refine hg_reg 2 (some 59) rfl rfl (by kernel_rfl) (by kernel_rfl) (by kernel_rfl) (fun _ _ _ _ h => h) HS (List.sublist_append_right lr _) (.int .i64 (i2 : Int)) rfl (fun _ => by rfl) ?_
                try simp only [Act.put, List.setIfInBounds_toArray, List.set_cons_zero, List.set_cons_succ]
                refine hg_reg 3 (some 60) rfl rfl (by kernel_rfl) (by kernel_rfl) (by kernel_rfl) (fun _ _ _ _ h => h) HS (List.sublist_append_right lr _) (.pointer (some ⟨gq, off + i2 * 4, none⟩)) rfl (fun _ => by go_simp) ?_
                try simp only [Act.put, List.setIfInBounds_toArray, List.set_cons_zero, List.set_cons_succ]
                refine hg_loadsC 4 (some 61) rfl rfl (by kernel_rfl) (by kernel_rfl) (by kernel_rfl) (fun _ _ _ _ h => h) HS (List.sublist_append_right lr _) rfl 29 _ rfl gq (off + i2 * 4) rfl 4 sh29 (x.lst) rfl (fun w2 h2 => HC.out w2 h2.isExt) ?_
                try simp only [Act.put, List.setIfInBounds_toArray, List.set_cons_zero, List.set_cons_succ]
                refine hg_loads 5 (some 62) rfl rfl (by kernel_rfl) (by kernel_rfl) (by kernel_rfl) (fun _ _ _ _ h => h) HS (List.sublist_append_right lr _) rfl 29 _ rfl 0 _ _ _ rfl 0 rfl 4 sh29 [.int .i64 g.tx, .int .i64 g.page, .int .i64 g.slot, .int .i64 g.mode] rfl ⟨rfl, rfl, rfl, rfl, trivial⟩ ?_
                try simp only [Act.put, List.setIfInBounds_toArray, List.set_cons_zero, List.set_cons_succ]
                refine hk_x1 6 (by kernel_rfl) ?_
                refine hg_call 6 (some 63) rfl rfl rfl HS (List.sublist_append_right lr _) 28 _ _ rfl Tryz.func28 (by kernel_rfl) rfl _ (fun v => v = .bool false) ((rf_conflict x g _).mono (fun e w1 h => by obtain ⟨rfl, hx⟩ := h; exact ⟨_, rfl, by rw [hcf], HS.out.ext hx⟩)) rfl ?_
                clear HS; rintro _ w rfl HS
                try simp only [Act.put, List.setIfInBounds_toArray, List.set_cons_zero, List.set_cons_succ]
                refine hk_done (by kernel_rfl) ?_
                have HR2 : Hid (OwnRow 3 1 lr _ (accF (hs ++ ws.take (i2 + 1)) g).length ((accF (hs ++ ws.take (i2 + 1)) g).map iV)) := Lib.hid (by rw [take_nx HX.out, ← List.append_assoc, accF_no hcf]; exact HR.out)
                clear hcf
                go_wp2_with fail
                go_roundw
                case rel => exact ⟨i2 + 1, lr, by omega, by go_num, HU2, HS, HR2⟩
                case measure => simp [intOf]; omega
              | true =>
                refine hg_begin [(b5, 29, [.int .i64 g.tx, .int .i64 g.page, .int .i64 g.slot, .int .i64 g.mode]), (b2, 25, [.slice aoh i cph, .slice (some ⟨gq, off, none⟩) nw cpw])] HS (by kernel_rfl) ?_
                clear HS; intro w HS
                refine hg_reg 0 (some 57) rfl rfl (by kernel_rfl) (by kernel_rfl) (by kernel_rfl) (fun _ _ _ _ h => h) HS (List.sublist_append_right lr _) (.pointer (some ⟨b2, 1, none⟩)) rfl (fun _ => by go_simp) ?_
                try simp only [Act.put, List.setIfInBounds_toArray, List.set_cons_zero, List.set_cons_succ]
                refine hg_load 1 (some 58) rfl rfl (by kernel_rfl) (by kernel_rfl) (by kernel_rfl) (fun _ _ _ _ h => h) HS (List.sublist_append_right lr _) rfl 23 _ rfl 1 _ _ _ rfl 1 rfl _ sh23 (.slice (some ⟨gq, off, none⟩) nw cpw) rfl ?_
                try simp only [Act.put, List.setIfInBounds_toArray, List.set_cons_zero, List.set_cons_succ]
                refine hg_reg 2 (some 59) rfl rfl (by kernel_rfl) (by kernel_rfl) (by kernel_rfl) (fun _ _ _ _ h => h) HS (List.sublist_append_right lr _) (.int .i64 (i2 : Int)) rfl (fun _ => by rfl) ?_
                try simp only [Act.put, List.setIfInBounds_toArray, List.set_cons_zero, List.set_cons_succ]
                refine hg_reg 3 (some 60) rfl rfl (by kernel_rfl) (by kernel_rfl) (by kernel_rfl) (fun _ _ _ _ h => h) HS (List.sublist_append_right lr _) (.pointer (some ⟨gq, off + i2 * 4, none⟩)) rfl (fun _ => by go_simp) ?_
                try simp only [Act.put, List.setIfInBounds_toArray, List.set_cons_zero, List.set_cons_succ]
                refine hg_loadsC 4 (some 61) rfl rfl (by kernel_rfl) (by kernel_rfl) (by kernel_rfl) (fun _ _ _ _ h => h) HS (List.sublist_append_right lr _) rfl 29 _ rfl gq (off + i2 * 4) rfl 4 sh29 (x.lst) rfl (fun w2 h2 => HC.out w2 h2.isExt) ?_
                try simp only [Act.put, List.setIfInBounds_toArray, List.set_cons_zero, List.set_cons_succ]
                refine hg_loads 5 (some 62) rfl rfl (by kernel_rfl) (by kernel_rfl) (by kernel_rfl) (fun _ _ _ _ h => h) HS (List.sublist_append_right lr _) rfl 29 _ rfl 0 _ _ _ rfl 0 rfl 4 sh29 [.int .i64 g.tx, .int .i64 g.page, .int .i64 g.slot, .int .i64 g.mode] rfl ⟨rfl, rfl, rfl, rfl, trivial⟩ ?_
                try simp only [Act.put, List.setIfInBounds_toArray, List.set_cons_zero, List.set_cons_succ]
                refine hk_x1 6 (by kernel_rfl) ?_
                refine hg_call 6 (some 63) rfl rfl rfl HS (List.sublist_append_right lr _) 28 _ _ rfl Tryz.func28 (by kernel_rfl) rfl _ (fun v => v = .bool true) ((rf_conflict x g _).mono (fun e w1 h => by obtain ⟨rfl, hx⟩ := h; exact ⟨_, rfl, by rw [hcf], HS.out.ext hx⟩)) rfl ?_
                clear HS; rintro _ w rfl HS
                try simp only [Act.put, List.setIfInBounds_toArray, List.set_cons_zero, List.set_cons_succ]
                refine hk_done (by kernel_rfl) ?_
                have HCF := Lib.hid hcf
                clear hcf
                go_wp2_with (first | (refine sx_load HS (by rfl) 23 (.tmp 65) rfl (lr.length + 1) b2 25 [.slice aoh i cph, .slice (some ⟨gq, off, none⟩) nw cpw] (by simp) 1 rfl _ sh23 (.slice (some ⟨gq, off, none⟩) nw cpw) rfl ?_) | (refine sx_load1 (by rfl) 3 _ rfl gq (off + i2 * 4) rfl _ sh3 (.int .i64 x.tx) (HC.out _ HS.out.isExt 0 _ rfl) ?_))
                refine (rf_withF _ _ (accF (hs ++ ws.take i2) g) x.tx (IsAt.own HS.out (fun e he => List.mem_append_left _ he) HR.out) (by have := HAL.out; omega) (accF_srt _ _)).mono ?_
                rintro e w ⟨v2, rfl, hnew⟩
                obtain ⟨lr2, HS2, HR3⟩ := hnew.on HS
                clear HS HR hnew
                have HS := HS2
                clear HS2
                have HR2 : Hid (OwnRow 3 1 lr2 v2 (accF (hs ++ ws.take (i2 + 1)) g).length ((accF (hs ++ ws.take (i2 + 1)) g).map iV)) := Lib.hid (by rw [take_nx HX.out, ← List.append_assoc, accF_yes HCF.out]; exact HR3.out)
                clear HR3
                go_wp2_with fail
                go_roundw
                case rel => exact ⟨i2 + 1, lr2, by omega, by go_num, HU2, HS, HR2⟩
                case measure => simp [intOf]; omega
          · have him : i2 = nw := by omega
            subst him
            have HF : Hid (upto ws tx = ws.take i2) := Lib.hid (HU.out.end (by rw [← HNw.out]; exact Nat.le_refl _))
            have HR4 : Hid (OwnRow 3 1 lr _ (accF (hs ++ upto ws tx) g).length ((accF (hs ++ upto ws tx) g).map iV)) := Lib.hid (by rw [HF.out]; exact HR.out)
            iterate 14 (first | (go_big_may; (refine sx_load HS (by rfl) 23 (.tmp 41) rfl (lr.length + 1) b2 25 [.slice aoh i cph, .slice aow i2 cpw] (by simp) 1 rfl _ sh23 (.slice aow i2 cpw) rfl ?_)) | go_values | go_skip | go_guarded | go_step | go_upon)
            refine sx_lss_no (by rfl) 3 _ _ _ rfl (i2 : Int) (i2 : Int) rfl rfl (by kernel_rfl) (by omega) ?_
            intro bno hbno
            simp only [Act.put, List.setIfInBounds_toArray, List.set_cons_zero, List.set_cons_succ]
            refine sx_run (by rfl) (.bool bno) (by rfl) ?_
            simp only [Act.put, List.setIfInBounds_toArray, List.set_cons_zero, List.set_cons_succ]
            iterate 8 (refine wpList_skip (by subst hbno; rfl) ?_; simp only [Act.put, List.setIfInBounds_toArray, List.set_cons_zero, List.set_cons_succ])
            refine sx_run (by rfl) (.bool bno) (by subst hbno; rfl) ?_
            simp only [Act.put, List.setIfInBounds_toArray, List.set_cons_zero, List.set_cons_succ]
            subst hbno
            go_wp2_with fail
            go_ret
            exact ⟨_, rfl, lr, HS.out.sub (List.sublist_append_left _ _), HR4.out⟩
end Go.Proofs.YtnfkplohpjfocaaGreat
