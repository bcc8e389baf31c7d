/-
  The walk of WaitsExact: whatever the table, the request and the choices, it returns true.
-/
import Derived.ChangeKeysEq
import Derived.Test.YtnfkplohpjfocaaGreatRhU
import Derived.Test.YtnfkplohpjfocaaGreatRhO
import Derived.Test.YtnfkplohpjfocaaGreatLawC
set_option linter.unusedVariables false
set_option linter.unusedSimpArgs false
namespace Go.Proofs.YtnfkplohpjfocaaGreat
open Go.RowKit
theorem build_locks2 (a b c d : Value) (ha : a.cells = #[a]) (hb : b.cells = #[b]) (hc : c.cells = #[c]) (hd : d.cells = #[d]) (w : World) : (Instr.buildSlice 34 2 ([(0, .agg #[a, b]), (1, .agg #[c, d])] : List (Nat × Value)).toArray).run Tryz.prog w = .ok (.slice (some ⟨w.heap.size, 0, none⟩) 2 2) (w.alloc (.cells [a, b, c, d].toArray 25)) := by
  cases hie : Tryz.prog.info? 25 with
  | none => have h := zr25; rw [hie] at h; cases h
  | some ie =>
    have h1 := zr25
    have h2 : (Tryz.prog.info? 25).map (fun i => (i.size, Nat.ble i.bytes 1000000)) = some (2, true) := by kernel_rfl
    rw [hie] at h1 h2
    simp at h2
    refine run_buildSlice w 34 25 2 _ _ ie _ Tryz.underlying34 hie h1 (by rw [h2.1]; decide) (by rw [h2.1]; decide) ?_
    rw [h2.1]
    have hr : Array.range (2 * 2) = #[0, 1, 2, 3] := by decide
    rw [hr]
    simp [Instr.fill, Value.cells]
theorem build_grants2 (x y : G) (w : World) : (Instr.buildSlice 23 2 ([(0, .agg x.arr), (1, .agg y.arr)] : List (Nat × Value)).toArray).run Tryz.prog w = .ok (.slice (some ⟨w.heap.size, 0, none⟩) 2 2) (w.alloc (.cells (gL [x, y]).toArray 29)) := by
  obtain ⟨ie, hie, hz, hs, _⟩ := info_grant
  refine run_buildSlice w 23 29 2 _ _ ie _ Tryz.underlying23 hie hz (by rw [hs]; decide) (by rw [hs]; decide) ?_
  rw [hs]
  have hr : Array.range (2 * 4) = #[0, 1, 2, 3, 4, 5, 6, 7] := by decide
  rw [hr]
  simp [Instr.fill, Value.cells, G.lst, gL]
def six (tx : Int) : List Int := [tx, 1, 2, 3, 4, 5]
theorem build_six (tx : Int) (w : World) : (Instr.buildSlice 38 6 ([(0, .int .i64 tx), (1, .int .i64 1), (2, .int .i64 2), (3, .int .i64 3), (4, .int .i64 4), (5, .int .i64 5)] : List (Nat × Value)).toArray).run Tryz.prog w = .ok (.slice (some ⟨w.heap.size, 0, none⟩) 6 6) (w.alloc (.cells ((six tx).map iV).toArray 3)) :=
  run_slice_cells 38 3 6 (by omega) (by omega) Tryz.underlying38 (by kernel_rfl) ((six tx).map iV) rfl (by intro v hv; obtain ⟨n, _, rfl⟩ := List.mem_map.1 hv; rfl) w
theorem equal_pair (d : Nat) (a b : Int) (w : World) : (Op.equalIn (d + 1 + 1) 37 (.agg #[.int .i64 a, .int .i64 b]) (.agg #[.int .i64 a, .int .i64 b])).run Tryz.prog w = .ok true w := by
  obtain ⟨ie, hie, hiz, his, _⟩ := info_int
  have h := run_equalIn_array (P := Tryz.prog) (w := w) (d + 1) (t := 37) (n := 2) #[.int .i64 a, .int .i64 b] #[.int .i64 a, .int .i64 b] Tryz.underlying37 hie
  have hc : Tryz.prog.cellsOf 3 = 1 := by kernel_rfl
  have hr : List.range 2 = [0, 1] := by decide
  have h2 : ∀ n : Int, (Op.equalIn (d + 1) 3 (.int .i64 n) (.int .i64 n)).run Tryz.prog w = .ok true w := fun n => by
    simp [Op.equalIn, run_underlying Tryz.underlying3]
  have hp0 : (part 3 #[.int .i64 a, .int .i64 b] 0).run Tryz.prog w = .ok (.int .i64 a) w := by simp [part, isAgg, run_underlying Tryz.underlying3]
  have hp1 : (part 3 #[.int .i64 a, .int .i64 b] 1).run Tryz.prog w = .ok (.int .i64 b) w := by simp [part, isAgg, run_underlying Tryz.underlying3]
  refine h.trans ?_
  rw [hc, hr]
  simp [Op.eqItems, hp0, hp1, h2]
theorem neq_pair (a b : Int) (w : World) : (binOp .neq 37 (.agg #[.int .i64 a, .int .i64 b]) (.agg #[.int .i64 a, .int .i64 b])).run Tryz.prog w = .ok (.bool false) w := by
  have e : (Op.equalIn 10000 37 (.agg #[.int .i64 a, .int .i64 b]) (.agg #[.int .i64 a, .int .i64 b])).run Tryz.prog w = .ok true w := equal_pair 9998 a b w
  simp [go_sem, e]
/-- The grants of a table, wherever these blocks are as said. -/
def TabK (w0 : World) (lr : List (Nat × TypeId × List Value)) (v : Value) (gs : List G) : Prop := ∀ (w' : World) (M' : List (Nat × TypeId × List Value)), St none default w0 w' M' → (∀ e ∈ lr, e ∈ M') → GsAt w' v gs
theorem TabK.one {w0 w : World} {lr M : List (Nat × TypeId × List Value)} {v : Value} {gs : List G} (h : TabK w0 lr v gs) (k : St none default w0 w M) (hm : ∀ e ∈ lr, e ∈ M) : v.oneCell' = true := (h w M k hm).one
theorem one_cells {v : Value} (h : v.oneCell' = true) : v.cells = #[v] := by cases v <;> first | rfl | cases h
/-- A part of what the law holds true. -/
def IntsR (ns : List Int) (w0 : World) (L : List (Nat × TypeId × List Value)) (w : World) (v : Value) (w' : World) : Prop := St none default w0 w' L ∧ Ext w w' ∧ IsAt w' v ns
theorem IntsR.of_new {ns : List Int} {w0 w w' : World} {L : List (Nat × TypeId × List Value)} {v : Value} (k : St none default w0 w L) (h : IntsNew ns w v w') : IntsR ns w0 L w v w' := by
  have h1 := h.is
  exact ⟨k.ext h1.2, h1.2, h1.1⟩
theorem IntsR.of_is {ns : List Int} {w0 w w' : World} {L : List (Nat × TypeId × List Value)} {v : Value} (k : St none default w0 w L) (h : Ext w w') (h2 : IsAt w' v ns) : IntsR ns w0 L w v w' := ⟨k.ext h, h, h2⟩
set_option maxHeartbeats 16000000 in
set_option maxRecDepth 100000 in
theorem exact_walk (a : Option Addr) (len cap : Nat) (w0 : World) (hb : BytesIn w0 a len) (hlc : len ≤ cap) (hmax : cap ≤ maxLen) (vh vw : Value) (hs ws : List G) (tx : Int) (g : G) (h1 : GsAt w0 vh hs) (h2 : GsAt w0 vw ws) :
    Calls Tryz.prog 3 #[.slice a len cap, .agg #[vh, vw], .int .i64 tx, .agg g.arr] w0 fun e w' => e = .returned (.bool true) ∧ Ext w0 w' := by
  have HB := Lib.hid hb
  have HM := Lib.hid hmax
  clear hb hmax
  have HGh := Lib.hid h1
  obtain ⟨aoh, cph, rfl, hch1, hch2, -⟩ := h1.get
  obtain ⟨nh, hnh⟩ : ∃ n, n = hs.length := ⟨_, rfl⟩
  rw [← hnh] at HGh hch1 ⊢
  have HNh := Lib.hid hnh
  clear hnh h1
  have HGw := Lib.hid h2
  obtain ⟨aow, cpw, rfl, hcw1, hcw2, -⟩ := h2.get
  obtain ⟨nw, hnw⟩ : ∃ n, n = ws.length := ⟨_, rfl⟩
  rw [← hnw] at HGw hcw1 ⊢
  have HNw := Lib.hid hnw
  clear hnw h2
  have HS : Hid (St none default w0 w0 []) := St.start w0
  go_enter Tryz.func3, Tryz.ntmps3
  go_wp2_with (first | (refine sx_box HS rfl 25 (.tmp 1) rfl [.slice aoh nh cph, .slice aow nw cpw] rfl ?_; clear HS; intro w b5 HS) | (refine sx_box HS rfl 29 (.tmp 3) rfl g.lst rfl ?_; clear HS; intro w b7 HS))
  replace HS : Hid (St none default w0 w [(b7, 29, g.lst), (b5, 25, [.slice aoh nh cph, .slice aow nw cpw])]) := HS
  refine (awake_any _).mono ?_
  rintro e w1 ⟨rfl, hx1⟩
  replace HS := Lib.hid (HS.out.ext hx1)
  clear hx1
  by_cases hbh : 30 < nh
  · skip
    go_wp2_with (first | (refine sx_load HS (by rfl) 23 _ rfl 1 _ _ _ rfl 0 rfl _ sh23 (.slice aoh nh cph) rfl ?_) | (refine sx_load HS (by rfl) 23 _ rfl 1 _ _ _ rfl 1 rfl _ sh23 (.slice aow nw cpw) rfl ?_))
    go_ret
    exact ⟨rfl, HS.out.isExt⟩
  · skip
    have d1 : decide ((30 : Int) < (nh : Int)) = false := by simp; omega
    have d1b : decide ((nh : Int) > 30) = false := by simp; omega
    have d1c : ¬ ((30 : Int) < (nh : Int)) := by omega
    by_cases hbw : 8 < nw
    · skip
      go_wp2_with (first | (refine sx_load HS (by rfl) 23 _ rfl 1 _ _ _ rfl 0 rfl _ sh23 (.slice aoh nh cph) rfl ?_) | (refine sx_load HS (by rfl) 23 _ rfl 1 _ _ _ rfl 1 rfl _ sh23 (.slice aow nw cpw) rfl ?_))
      go_ret
      exact ⟨rfl, HS.out.isExt⟩
    · skip
      have hbh2 : nh ≤ 30 := by omega
      have hbw2 : nw ≤ 8 := by omega
      have d2 : decide ((8 : Int) < (nw : Int)) = false := by simp; omega
      have d2b : decide ((nw : Int) > 8) = false := by simp; omega
      have d2c : ¬ ((8 : Int) < (nw : Int)) := by omega
      go_wp2_with (first | (refine sx_load HS (by rfl) 23 _ rfl 1 _ _ _ rfl 0 rfl _ sh23 (.slice aoh nh cph) rfl ?_) | (refine sx_load HS (by rfl) 23 _ rfl 1 _ _ _ rfl 1 rfl _ sh23 (.slice aow nw cpw) rfl ?_))
      try clear hbh hbw
      refine (new_own 200 (by omega) (by omega) a len cap w0 w1 [(b7, 29, g.lst), (b5, 25, [.slice aoh nh cph, .slice aow nw cpw])] HS.out hlc HM.out).mono ?_
      rintro e w2 ⟨c, n, rfl, hn1, hn2, hst⟩
      clear HS
      have HS := Lib.hid hst
      clear hst
      have HBN : Hid (BytesIn w0 a n) := Lib.hid (fun h0 => by
        obtain ⟨blk, off, ha, hi⟩ := HB.out (by omega)
        exact ⟨blk, off, ha, fun i hil => hi i (by omega)⟩)
      clear HB
      have hnl : n ≤ 65536 := by omega
      go_wp2_with fail
      refine (draw_locks w0 _ [(b7, 29, g.lst), (b5, 25, [.slice aoh nh cph, .slice aow nw cpw])] a n cap 0 c HS.out HBN.out (Nat.zero_le _) hnl).mono ?_
      rintro e w3 ⟨uh, uw, hs1, ws1, lr, p, rfl, hp, hl1, ho1, ho2, hst⟩
      replace HS : Hid (St none default w0 w3 ((b7, 29, g.lst) :: (b5, 25, [.slice aoh nh cph, .slice aow nw cpw]) :: (c, 47, codL a n cap p) :: lr)) := Lib.hid (hst.perm (List.Perm.trans (by simpa using List.perm_append_comm (l₁ := [(b7, 29, g.lst), (b5, 25, [.slice aoh nh cph, .slice aow nw cpw])]) (l₂ := (c, 47, codL a n cap p) :: lr)) (List.Perm.refl _)))
      have HO1 := Lib.hid ho1
      have HO2 := Lib.hid ho2
      have HOC : Hid (uh.oneCell' = true ∧ uw.oneCell' = true) := Lib.hid ⟨ho1.one, ho2.one⟩
      clear ho1 ho2 hst
      go_wp2_with (first | (refine sx_alloc HS rfl 25 rfl _ zr25 ?_; clear HS; intro w b10 HS) | (refine sx_store_all HS (by rfl) 25 _ _ rfl rfl 0 _ _ _ rfl rfl [uh, uw] rfl 2 sh25 rfl rfl (by simp [HOC.out.1, HOC.out.2]) ?_; clear HS; intro w HS) | (refine sx_loads HS (by rfl) 25 (.tmp 5) rfl 2 _ _ _ rfl 0 rfl 2 sh25 [.slice aoh nh cph, .slice aow nw cpw] rfl ⟨rfl, rfl, trivial⟩ ?_) | (refine sx_loads HS (by rfl) 25 (.tmp 10) rfl 0 _ _ _ rfl 0 rfl 2 sh25 [uh, uw] rfl ⟨rfl, rfl, trivial⟩ ?_) | (refine sx_build HS (by rfl) 34 25 2 [(0, .tmp 52), (1, .tmp 53)] rfl [(0, .agg #[.slice aoh nh cph, .slice aow nw cpw]), (1, .agg #[uh, uw])] rfl [.slice aoh nh cph, .slice aow nw cpw, uh, uw] (fun w => build_locks2 _ _ _ _ rfl rfl (one_cells HOC.out.1) (one_cells HOC.out.2) w) ?_; clear HS; intro w b54 HS))
      replace HS : Hid (St none default w0 w ((b54, 25, [.slice aoh nh cph, .slice aow nw cpw, uh, uw]) :: (b7, 29, g.lst) :: (c, 47, codL a n cap p) :: lr)) := Lib.hid (HS.out.sub (List.Sublist.cons_cons _ (List.Sublist.cons _ (List.Sublist.cons_cons _ (List.Sublist.cons _ (List.Sublist.refl _))))))
      have HT1 : Hid (TabK w0 lr (.slice aoh nh cph) hs ∧ TabK w0 lr (.slice aow nw cpw) ws) := Lib.hid ⟨fun w M k _ => HGh.out.ext k.isExt, fun w M k _ => HGw.out.ext k.isExt⟩
      have HT2 : Hid (TabK w0 lr uh hs1 ∧ TabK w0 lr uw ws1) := Lib.hid ⟨fun w M k hm => HO1.out.at k hm, fun w M k hm => HO2.out.at k hm⟩
      have hl1a : hs1.length ≤ 40 := by omega
      have hl1b : ws1.length ≤ 40 := by omega
      have hl0a : hs.length ≤ 40 := by rw [← HNh.out]; omega
      have hl0b : ws.length ≤ 40 := by rw [← HNw.out]; omega
      have HLN : Hid (hs.length ≤ 40 ∧ ws.length ≤ 40 ∧ hs1.length ≤ 40 ∧ ws1.length ≤ 40) := Lib.hid ⟨hl0a, hl0b, hl1a, hl1b⟩
      clear hl0a hl0b hl1a hl1b hl1 HGh HGw HO1 HO2
      go_loopw [56] (fun s56 wr => ∃ i p : Nat, i ≤ 2 ∧ s56 = .int .i64 i ∧ p ≤ n ∧ Hid (St none default w0 wr ((b54, 25, [.slice aoh nh cph, .slice aow nw cpw, uh, uw]) :: (b7, 29, g.lst) :: (c, 47, codL a n cap p) :: lr))) (fun s56 _ => 2 - (intOf s56).toNat)
      case atStart => exact ⟨0, p, by omega, rfl, hp, HS⟩
      case round =>
        clear HS hp
        obtain ⟨i, p, hi, rfl, hp, HS⟩ := hrel
        by_cases hlt : i < 2
        · skip
          obtain ⟨xh, xw, xs, ys, hcx, hTx, hxs, hys, hox⟩ : ∃ (xh xw : Value) (xs ys : List G), cellsAt [.slice aoh nh cph, .slice aow nw cpw, uh, uw] (i * 2) [xh, xw] ∧ (TabK w0 lr xh xs ∧ TabK w0 lr xw ys) ∧ xs.length ≤ 40 ∧ ys.length ≤ 40 ∧ (xh.oneCell' = true ∧ xw.oneCell' = true) := by
            rcases (show i = 0 ∨ i = 1 by omega) with rfl | rfl
            · exact ⟨_, _, hs, ws, ⟨rfl, rfl, trivial⟩, HT1.out, HLN.out.1, HLN.out.2.1, rfl, rfl⟩
            · exact ⟨_, _, hs1, ws1, ⟨rfl, rfl, trivial⟩, HT2.out, HLN.out.2.2.1, HLN.out.2.2.2, HOC.out⟩
          have HCX := Lib.hid hcx
          have HT := Lib.hid hTx
          have HOX := Lib.hid hox
          clear hcx hTx hox
          go_wp2_with (first | (refine sx_loads HS (by rfl) 25 (.tmp 58) rfl 0 _ _ _ rfl (i * 2) rfl 2 sh25 [xh, xw] rfl HCX.out ?_) | (refine sx_alloc HS rfl 25 rfl _ zr25 ?_; clear HS; intro w b12 HS) | (refine sx_store_all HS (by rfl) 25 _ _ rfl rfl 0 _ _ _ rfl rfl [xh, xw] rfl 2 sh25 rfl rfl (by simp [HOX.out.1, HOX.out.2]) ?_; clear HS; intro w HS))
          replace HS : Hid (St none default w0 w ((b12, 25, [xh, xw]) :: (b54, 25, [.slice aoh nh cph, .slice aow nw cpw, uh, uw]) :: (b7, 29, g.lst) :: (c, 47, codL a n cap p) :: lr)) := HS
          refine hg_begin [(b12, 25, [xh, xw])] HS (by kernel_rfl) ?_
          clear HS; intro w HS
          refine hg_loads 0 (some 60) rfl rfl (by kernel_rfl) (by kernel_rfl) (by kernel_rfl) (fun _ _ _ _ h => h) HS (List.Sublist.cons_cons _ (List.nil_sublist _)) rfl 25 _ rfl 0 _ _ _ rfl 0 rfl 2 sh25 [xh, xw] rfl ⟨rfl, rfl, trivial⟩ ?_
          try simp only [Act.put, List.setIfInBounds_toArray, List.set_cons_zero, List.set_cons_succ]
          refine hg_loads 2 (some 62) rfl rfl (by kernel_rfl) (by kernel_rfl) (by kernel_rfl) (fun _ _ _ _ h => h) HS (List.Sublist.cons_cons _ (List.nil_sublist _)) rfl 25 _ rfl 0 _ _ _ rfl 0 rfl 2 sh25 [xh, xw] rfl ⟨rfl, rfl, trivial⟩ ?_
          try simp only [Act.put, List.setIfInBounds_toArray, List.set_cons_zero, List.set_cons_succ]
          refine hk_x1 1 (by kernel_rfl) ?_
          refine hg_callT 1 (some 61) rfl rfl rfl 7 _ _ rfl Tryz.func7 (by kernel_rfl) rfl [.agg #[xh, xw]] (fun v w2 => St none default w0 w2 ((b12, 25, [xh, xw]) :: (b54, 25, [.slice aoh nh cph, .slice aow nw cpw, uh, uw]) :: (b7, 29, g.lst) :: (c, 47, codL a n cap p) :: lr) ∧ Ext w w2 ∧ PsAt w2 v (edgesR xs ys)) ((wt_edges _ xh xw xs ys (HT.out.1 _ _ HS.out (fun e he => by simp [he])) (HT.out.2 _ _ HS.out (fun e he => by simp [he])) (by omega) (by omega)).mono (fun e w1 h => by obtain ⟨v, rfl, hx, hv⟩ := h; exact ⟨v, rfl, HS.out.ext hx, hx, hv⟩)) (fun v w2 h => h.1.sub (List.Sublist.cons_cons _ (List.nil_sublist _))) rfl ?_
          clear HS; rintro v61 w61 ⟨hst, hx, hv⟩
          have HS := Lib.hid hst
          have HP61 := Lib.hid hv
          clear hst hx hv
          try simp only [Act.put, List.setIfInBounds_toArray, List.set_cons_zero, List.set_cons_succ]
          refine hk_x1 3 (by kernel_rfl) ?_
          refine hg_callT 3 (some 63) rfl rfl rfl 8 _ _ rfl Tryz.func8 (by kernel_rfl) rfl [.agg #[xh, xw]] (fun v w2 => St none default w0 w2 ((b12, 25, [xh, xw]) :: (b54, 25, [.slice aoh nh cph, .slice aow nw cpw, uh, uw]) :: (b7, 29, g.lst) :: (c, 47, codL a n cap p) :: lr) ∧ Ext w61 w2 ∧ PsAt w2 v (edgesR xs ys)) ((rf_edges _ xh xw xs ys (HT.out.1 _ _ HS.out (fun e he => by simp [he])) (HT.out.2 _ _ HS.out (fun e he => by simp [he])) (by omega) (by omega)).mono (fun e w1 h => by obtain ⟨v, rfl, hx, hv⟩ := h; exact ⟨v, rfl, HS.out.ext hx, hx, hv⟩)) (fun v w2 h => h.1.sub (List.Sublist.cons_cons _ (List.nil_sublist _))) rfl ?_
          clear HS; rintro v63 w63 ⟨hst, hx, hv⟩
          have HS := Lib.hid hst
          have HP63 := Lib.hid hv
          replace HP61 : Hid (PsAt w63 v61 (edgesR xs ys)) := Lib.hid (SlAt.ext HP61.out hx)
          clear hst hx hv
          try simp only [Act.put, List.setIfInBounds_toArray, List.set_cons_zero, List.set_cons_succ]
          refine hg_reg 4 (some 13) rfl rfl (by kernel_rfl) (by kernel_rfl) (by kernel_rfl) (fun _ _ _ _ h => h) HS (List.Sublist.cons_cons _ (List.nil_sublist _)) (v61) rfl (fun _ => by rfl) ?_
          try simp only [Act.put, List.setIfInBounds_toArray, List.set_cons_zero, List.set_cons_succ]
          refine hg_reg 5 (some 14) rfl rfl (by kernel_rfl) (by kernel_rfl) (by kernel_rfl) (fun _ _ _ _ h => h) HS (List.Sublist.cons_cons _ (List.nil_sublist _)) (v63) rfl (fun _ => by rfl) ?_
          try simp only [Act.put, List.setIfInBounds_toArray, List.set_cons_zero, List.set_cons_succ]
          refine hk_done (by kernel_rfl) ?_
          obtain ⟨ps, hps⟩ : ∃ ps, ps = edgesR xs ys := ⟨_, rfl⟩
          rw [← hps] at HP61 HP63
          clear hps
          obtain ⟨aoa, cpa, rfl, ha1, ha2, hata⟩ := SlAt.get HP61.out
          obtain ⟨aob, cpb, rfl, hb1, hb2, hatb⟩ := SlAt.get HP63.out
          obtain ⟨np, hnp⟩ : ∃ n, n = (ps.map pLst).length := ⟨_, rfl⟩
          rw [← hnp] at ha1 hata hb1 hatb ⊢
          have HNP : Hid (np = ps.length) := Lib.hid (by rw [hnp, List.length_map])
          have HATA := Lib.hid hata
          have HATB := Lib.hid hatb
          clear hata hatb hnp HP61 HP63
          obtain ⟨w8, hw8⟩ : ∃ w8 : World, w8 = w63 := ⟨_, rfl⟩
          rw [← hw8] at HATA HATB
          have HE8 : Hid (Ext w8 w63) := Lib.hid (by rw [hw8]; exact Ext.refl _)
          clear hw8
          go_wp2_with fail
          go_loopw [15] (fun s15 wx => ∃ j : Nat, j ≤ np ∧ s15 = .int .i64 j ∧ Hid (Ext w8 wx) ∧ Hid (St none default w0 wx ((b12, 25, [xh, xw]) :: (b54, 25, [.slice aoh nh cph, .slice aow nw cpw, uh, uw]) :: (b7, 29, g.lst) :: (c, 47, codL a n cap p) :: lr))) (fun s15 _ => np - (intOf s15).toNat)
          case atStart => exact ⟨0, Nat.zero_le _, rfl, HE8, HS⟩
          case round =>
            clear HS HE8
            obtain ⟨j, hj, rfl, HE8, HS⟩ := hrel
            by_cases hlt2 : j < np
            · skip
              obtain ⟨pr, hpr⟩ := list_get_of_lt ps j np HNP.out.symm hlt2
              obtain ⟨ga, oa, rfl, hca⟩ := HATA.out (by omega)
              obtain ⟨gb, ob, rfl, hcb⟩ := HATB.out (by omega)
              have hrow : (ps.map pLst)[j]? = some (pLst pr) := by rw [List.getElem?_map, hpr]; rfl
              have Ca0 := Lib.hid (fun (w9 : World) (h9 : Ext w8 w9) => hca j (pLst pr) hrow w9 h9 0 (.int .i64 pr.1) rfl)
              have Ca1 := Lib.hid (fun (w9 : World) (h9 : Ext w8 w9) => hca j (pLst pr) hrow w9 h9 1 (.int .i64 pr.2) rfl)
              have Cb0 := Lib.hid (fun (w9 : World) (h9 : Ext w8 w9) => hcb j (pLst pr) hrow w9 h9 0 (.int .i64 pr.1) rfl)
              have Cb1 := Lib.hid (fun (w9 : World) (h9 : Ext w8 w9) => hcb j (pLst pr) hrow w9 h9 1 (.int .i64 pr.2) rfl)
              clear hca hcb hrow hpr
              have hq := neq_pair pr.1 pr.2
              go_wp2_with fail
              have c0 : wr.cell? ⟨ga, oa + j * 2, none⟩ = some (.int .i64 pr.1) := Ca0.out wr HE8.out
              have c1 : wr.cell? ⟨ga, oa + j * 2 + 1, none⟩ = some (.int .i64 pr.2) := Ca1.out wr HE8.out
              have c2 : wr.cell? ⟨gb, ob + j * 2, none⟩ = some (.int .i64 pr.1) := Cb0.out wr HE8.out
              have c3 : wr.cell? ⟨gb, ob + j * 2 + 1, none⟩ = some (.int .i64 pr.2) := Cb1.out wr HE8.out
              go_quiet (fail)
              replace HS := Lib.hid (HS.out.drewN nq)
              replace HE8 := Lib.hid (HE8.out.drewN nq)
              clear c0 c1 c2 c3 hq
              go_wp2_with fail
              go_roundw
              case rel => exact ⟨j + 1, by omega, by go_num, HE8, HS⟩
              case measure => simp [intOf]; omega
            · skip
              have hjn : j = np := by omega
              subst hjn
              go_wp2_with (first | (refine sx_build HS (by rfl) 38 3 6 [(0, .tmp 84), (1, .const (.int .i64 1)), (2, .const (.int .i64 2)), (3, .const (.int .i64 3)), (4, .const (.int .i64 4)), (5, .const (.int .i64 5))] rfl [(0, .int .i64 tx), (1, .int .i64 1), (2, .int .i64 2), (3, .int .i64 3), (4, .int .i64 4), (5, .int .i64 5)] rfl ((six tx).map iV) (fun w => build_six tx w) ?_; clear HS; intro w b85 HS))
              clear HATA HATB HE8 HNP
              go_loopw [87] (fun s87 wy => ∃ k : Nat, k ≤ 6 ∧ s87 = .int .i64 k ∧ Hid (St none default w0 wy ((b85, 3, (six tx).map iV) :: (b12, 25, [xh, xw]) :: (b54, 25, [.slice aoh nh cph, .slice aow nw cpw, uh, uw]) :: (b7, 29, g.lst) :: (c, 47, codL a n cap p) :: lr))) (fun s87 _ => 6 - (intOf s87).toNat)
              case atStart => exact ⟨0, by omega, rfl, HS⟩
              case round =>
                clear HS
                obtain ⟨k, hk, rfl, HS⟩ := hrel
                by_cases hlt3 : k < 6
                · skip
                  obtain ⟨y, hy⟩ : ∃ y, (six tx)[k]? = some y := ⟨_, List.getElem?_eq_getElem (by exact hlt3)⟩
                  have HY : Hid (((six tx).map iV)[k]? = some (.int .i64 y)) := Lib.hid (by rw [List.getElem?_map, hy]; rfl)
                  clear hy
                  go_wp2_with (first | (refine sx_load HS (by rfl) 3 (.tmp 89) rfl 0 _ _ _ rfl k rfl _ sh3 (.int .i64 y) HY.out ?_))
                  refine hg_begin [(b12, 25, [xh, xw])] HS (by kernel_rfl) ?_
                  clear HS; intro w HS
                  refine hg_loads 0 (some 91) rfl rfl (by kernel_rfl) (by kernel_rfl) (by kernel_rfl) (fun _ _ _ _ h => h) HS (List.Sublist.cons _ (List.Sublist.cons_cons _ (List.nil_sublist _))) rfl 25 _ rfl 0 _ _ _ rfl 0 rfl 2 sh25 [xh, xw] rfl ⟨rfl, rfl, trivial⟩ ?_
                  try simp only [Act.put, List.setIfInBounds_toArray, List.set_cons_zero, List.set_cons_succ]
                  refine hg_reg 1 (some 92) rfl rfl (by kernel_rfl) (by kernel_rfl) (by kernel_rfl) (fun _ _ _ _ h => h) HS (List.Sublist.cons _ (List.Sublist.cons_cons _ (List.nil_sublist _))) (.int .i64 y) rfl (fun _ => by rfl) ?_
                  try simp only [Act.put, List.setIfInBounds_toArray, List.set_cons_zero, List.set_cons_succ]
                  refine hg_loads 3 (some 94) rfl rfl (by kernel_rfl) (by kernel_rfl) (by kernel_rfl) (fun _ _ _ _ h => h) HS (List.Sublist.cons _ (List.Sublist.cons_cons _ (List.nil_sublist _))) rfl 25 _ rfl 0 _ _ _ rfl 0 rfl 2 sh25 [xh, xw] rfl ⟨rfl, rfl, trivial⟩ ?_
                  try simp only [Act.put, List.setIfInBounds_toArray, List.set_cons_zero, List.set_cons_succ]
                  refine hg_reg 4 (some 95) rfl rfl (by kernel_rfl) (by kernel_rfl) (by kernel_rfl) (fun _ _ _ _ h => h) HS (List.Sublist.cons _ (List.Sublist.cons_cons _ (List.nil_sublist _))) (.int .i64 y) rfl (fun _ => by rfl) ?_
                  try simp only [Act.put, List.setIfInBounds_toArray, List.set_cons_zero, List.set_cons_succ]
                  refine hk_x1 2 (by kernel_rfl) ?_
                  refine hg_callT 2 (some 93) rfl rfl rfl 10 _ _ rfl Tryz.func10 (by kernel_rfl) rfl [.agg #[xh, xw], .int .i64 y] (fun v w2 => IntsR (forF xs ys y) w0 ((b85, 3, (six tx).map iV) :: (b12, 25, [xh, xw]) :: (b54, 25, [.slice aoh nh cph, .slice aow nw cpw, uh, uw]) :: (b7, 29, g.lst) :: (c, 47, codL a n cap p) :: lr) w v w2) ((wt_for _ xh xw xs ys y (HT.out.1 _ _ HS.out (fun e he => by simp [he])) (HT.out.2 _ _ HS.out (fun e he => by simp [he])) (by omega) (by omega)).mono (fun e w1 h => by obtain ⟨v, rfl, hn⟩ := h; exact ⟨v, rfl, IntsR.of_new HS.out hn⟩)) (fun v w2 h => h.1.sub (List.Sublist.cons _ (List.Sublist.cons_cons _ (List.nil_sublist _)))) rfl ?_
                  clear HS; rintro v93 w93 ⟨hst, hx, hv⟩
                  have HS := Lib.hid hst
                  have HI93 := Lib.hid hv
                  clear hst hx hv
                  try simp only [Act.put, List.setIfInBounds_toArray, List.set_cons_zero, List.set_cons_succ]
                  refine hk_x1 5 (by kernel_rfl) ?_
                  refine hg_callT 5 (some 96) rfl rfl rfl 11 _ _ rfl Tryz.func11 (by kernel_rfl) rfl [.agg #[xh, xw], .int .i64 y] (fun v w2 => IntsR (forF xs ys y) w0 ((b85, 3, (six tx).map iV) :: (b12, 25, [xh, xw]) :: (b54, 25, [.slice aoh nh cph, .slice aow nw cpw, uh, uw]) :: (b7, 29, g.lst) :: (c, 47, codL a n cap p) :: lr) w93 v w2) ((rf_forF _ xh xw xs ys (HT.out.1 _ _ HS.out (fun e he => by simp [he])) (HT.out.2 _ _ HS.out (fun e he => by simp [he])) (by omega) (by omega) y).mono (fun e w1 h => by obtain ⟨v, rfl, hn⟩ := h; exact ⟨v, rfl, IntsR.of_new HS.out hn⟩)) (fun v w2 h => h.1.sub (List.Sublist.cons _ (List.Sublist.cons_cons _ (List.nil_sublist _)))) rfl ?_
                  clear HS; rintro v96 w96 ⟨hst, hx, hv⟩
                  have HS := Lib.hid hst
                  have HI96 := Lib.hid hv
                  replace HI93 := Lib.hid (HI93.out.ext hx)
                  clear hst hx hv
                  try simp only [Act.put, List.setIfInBounds_toArray, List.set_cons_zero, List.set_cons_succ]
                  refine hk_x1 6 (by kernel_rfl) ?_
                  refine hg_call 6 (some 97) rfl rfl rfl HS (List.Sublist.cons _ (List.Sublist.cons_cons _ (List.nil_sublist _))) 9 _ _ rfl Tryz.func9 (by kernel_rfl) rfl _ (fun v => v = .bool true) ((rf_ints _ v93 v96 (forF xs ys y) (forF xs ys y) HI93.out HI96.out).mono (fun e w1 h => by obtain ⟨rfl, hx⟩ := h; exact ⟨_, rfl, by simp, HS.out.ext hx⟩)) rfl ?_
                  clear HS HI93 HI96; rintro _ w97 rfl HS
                  try simp only [Act.put, List.setIfInBounds_toArray, List.set_cons_zero, List.set_cons_succ]
                  refine hg_reg 7 (some 98) rfl rfl (by kernel_rfl) (by kernel_rfl) (by kernel_rfl) (fun _ _ _ _ h => h) HS (List.Sublist.cons _ (List.Sublist.cons_cons _ (List.nil_sublist _))) (.bool false) rfl (fun _ => by rfl) ?_
                  try simp only [Act.put, List.setIfInBounds_toArray, List.set_cons_zero, List.set_cons_succ]
                  refine hg_reg 8 (some 99) rfl rfl (by kernel_rfl) (by kernel_rfl) (by kernel_rfl) (fun _ _ _ _ h => h) HS (List.Sublist.cons _ (List.Sublist.cons_cons _ (List.nil_sublist _))) (.bool false) rfl (fun _ => by rfl) ?_
                  try simp only [Act.put, List.setIfInBounds_toArray, List.set_cons_zero, List.set_cons_succ]
                  refine hg_loads 9 (some 100) rfl rfl (by kernel_rfl) (by kernel_rfl) (by kernel_rfl) (fun _ _ _ _ h => h) HS (List.Sublist.cons _ (List.Sublist.cons_cons _ (List.nil_sublist _))) rfl 25 _ rfl 0 _ _ _ rfl 0 rfl 2 sh25 [xh, xw] rfl ⟨rfl, rfl, trivial⟩ ?_
                  try simp only [Act.put, List.setIfInBounds_toArray, List.set_cons_zero, List.set_cons_succ]
                  refine hg_reg 10 (some 101) rfl rfl (by kernel_rfl) (by kernel_rfl) (by kernel_rfl) (fun _ _ _ _ h => h) HS (List.Sublist.cons _ (List.Sublist.cons_cons _ (List.nil_sublist _))) (.int .i64 y) rfl (fun _ => by rfl) ?_
                  try simp only [Act.put, List.setIfInBounds_toArray, List.set_cons_zero, List.set_cons_succ]
                  refine hg_loads 12 (some 103) rfl rfl (by kernel_rfl) (by kernel_rfl) (by kernel_rfl) (fun _ _ _ _ h => h) HS (List.Sublist.cons _ (List.Sublist.cons_cons _ (List.nil_sublist _))) rfl 25 _ rfl 0 _ _ _ rfl 0 rfl 2 sh25 [xh, xw] rfl ⟨rfl, rfl, trivial⟩ ?_
                  try simp only [Act.put, List.setIfInBounds_toArray, List.set_cons_zero, List.set_cons_succ]
                  refine hg_reg 13 (some 104) rfl rfl (by kernel_rfl) (by kernel_rfl) (by kernel_rfl) (fun _ _ _ _ h => h) HS (List.Sublist.cons _ (List.Sublist.cons_cons _ (List.nil_sublist _))) (.int .i64 y) rfl (fun _ => by rfl) ?_
                  try simp only [Act.put, List.setIfInBounds_toArray, List.set_cons_zero, List.set_cons_succ]
                  refine hk_x1 11 (by kernel_rfl) ?_
                  refine hg_callT 11 (some 102) rfl rfl rfl 12 _ _ rfl Tryz.func12 (by kernel_rfl) rfl [.agg #[xh, xw], .int .i64 y] (fun v w2 => IntsR (cycR xs ys y) w0 ((b85, 3, (six tx).map iV) :: (b12, 25, [xh, xw]) :: (b54, 25, [.slice aoh nh cph, .slice aow nw cpw, uh, uw]) :: (b7, 29, g.lst) :: (c, 47, codL a n cap p) :: lr) w97 v w2) ((wt_cycle _ xh xw xs ys y (HT.out.1 _ _ HS.out (fun e he => by simp [he])) (HT.out.2 _ _ HS.out (fun e he => by simp [he])) (by omega) (by omega)).mono (fun e w1 h => by obtain ⟨v, l9, rfl, h1, h2⟩ := h; rw [← cyc_ref] at h2; exact ⟨v, rfl, IntsR.of_new HS.out ⟨l9, h1, h2⟩⟩)) (fun v w2 h => h.1.sub (List.Sublist.cons _ (List.Sublist.cons_cons _ (List.nil_sublist _)))) rfl ?_
                  clear HS; rintro v102 w102 ⟨hst, hx, hv⟩
                  have HS := Lib.hid hst
                  have HI102 := Lib.hid hv
                  clear hst hx hv
                  try simp only [Act.put, List.setIfInBounds_toArray, List.set_cons_zero, List.set_cons_succ]
                  refine hk_x1 14 (by kernel_rfl) ?_
                  refine hg_callT 14 (some 105) rfl rfl rfl 13 _ _ rfl Tryz.func13 (by kernel_rfl) rfl [.agg #[xh, xw], .int .i64 y] (fun v w2 => IntsR (cycR xs ys y) w0 ((b85, 3, (six tx).map iV) :: (b12, 25, [xh, xw]) :: (b54, 25, [.slice aoh nh cph, .slice aow nw cpw, uh, uw]) :: (b7, 29, g.lst) :: (c, 47, codL a n cap p) :: lr) w102 v w2) ((rf_cycle _ xh xw xs ys (HT.out.1 _ _ HS.out (fun e he => by simp [he])) (HT.out.2 _ _ HS.out (fun e he => by simp [he])) (by omega) (by omega) y).mono (fun e w1 h => by obtain ⟨v, rfl, hx, hv⟩ := h; exact ⟨v, rfl, IntsR.of_is HS.out hx hv⟩)) (fun v w2 h => h.1.sub (List.Sublist.cons _ (List.Sublist.cons_cons _ (List.nil_sublist _)))) rfl ?_
                  clear HS; rintro v105 w105 ⟨hst, hx, hv⟩
                  have HS := Lib.hid hst
                  have HI105 := Lib.hid hv
                  replace HI102 := Lib.hid (HI102.out.ext hx)
                  clear hst hx hv
                  try simp only [Act.put, List.setIfInBounds_toArray, List.set_cons_zero, List.set_cons_succ]
                  refine hk_x1 15 (by kernel_rfl) ?_
                  refine hg_call 15 (some 106) rfl rfl rfl HS (List.Sublist.cons _ (List.Sublist.cons_cons _ (List.nil_sublist _))) 9 _ _ rfl Tryz.func9 (by kernel_rfl) rfl _ (fun v => v = .bool true) ((rf_ints _ v102 v105 (cycR xs ys y) (cycR xs ys y) HI102.out HI105.out).mono (fun e w1 h => by obtain ⟨rfl, hx⟩ := h; exact ⟨_, rfl, by simp, HS.out.ext hx⟩)) rfl ?_
                  clear HS HI102 HI105; rintro _ w106 rfl HS
                  try simp only [Act.put, List.setIfInBounds_toArray, List.set_cons_zero, List.set_cons_succ]
                  refine hg_reg 16 (some 107) rfl rfl (by kernel_rfl) (by kernel_rfl) (by kernel_rfl) (fun _ _ _ _ h => h) HS (List.Sublist.cons _ (List.Sublist.cons_cons _ (List.nil_sublist _))) (.bool false) rfl (fun _ => by rfl) ?_
                  try simp only [Act.put, List.setIfInBounds_toArray, List.set_cons_zero, List.set_cons_succ]
                  refine hg_reg 17 (some 108) rfl rfl (by kernel_rfl) (by kernel_rfl) (by kernel_rfl) (fun _ _ _ _ h => h) HS (List.Sublist.cons _ (List.Sublist.cons_cons _ (List.nil_sublist _))) (.bool false) rfl (fun _ => by rfl) ?_
                  try simp only [Act.put, List.setIfInBounds_toArray, List.set_cons_zero, List.set_cons_succ]
                  refine hk_done (by kernel_rfl) ?_
                  go_wp2_with fail
                  go_roundw
                  case rel => exact ⟨k + 1, by omega, by go_num, HS⟩
                  case measure => simp [intOf]; omega
                · skip
                  have hk6 : k = 6 := by omega
                  subst hk6
                  rw [show ((6 : Nat) : Int) = 6 from rfl]
                  replace HS : Hid (St none default w0 _ ((b12, 25, [xh, xw]) :: (b54, 25, [.slice aoh nh cph, .slice aow nw cpw, uh, uw]) :: (b7, 29, g.lst) :: (c, 47, codL a n cap p) :: lr)) := Lib.hid (HS.out.drop 1)
                  go_wp2_with fail
                  refine hg_begin [(b7, 29, g.lst)] HS (by kernel_rfl) ?_
                  clear HS; intro w HS
                  refine hg_loads 0 (some 110) rfl rfl (by kernel_rfl) (by kernel_rfl) (by kernel_rfl) (fun _ _ _ _ h => h) HS (List.Sublist.cons _ (List.Sublist.cons _ (List.Sublist.cons_cons _ (List.nil_sublist _)))) rfl 29 _ rfl 0 _ _ _ rfl 0 rfl 4 sh29 [.int .i64 g.tx, .int .i64 g.page, .int .i64 g.slot, .int .i64 g.mode] rfl ⟨rfl, rfl, rfl, rfl, trivial⟩ ?_
                  try simp only [Act.put, List.setIfInBounds_toArray, List.set_cons_zero, List.set_cons_succ]
                  refine hg_reg 1 (some 111) rfl rfl (by kernel_rfl) (by kernel_rfl) (by kernel_rfl) (fun _ _ _ _ h => h) HS (List.Sublist.cons _ (List.Sublist.cons _ (List.Sublist.cons_cons _ (List.nil_sublist _)))) (.pointer (some ⟨c, 0, none⟩)) rfl (fun _ => by rfl) ?_
                  try simp only [Act.put, List.setIfInBounds_toArray, List.set_cons_zero, List.set_cons_succ]
                  refine hg_reg 5 (some 115) rfl rfl (by kernel_rfl) (by kernel_rfl) (by kernel_rfl) (fun _ _ _ _ h => h) HS (List.Sublist.cons _ (List.Sublist.cons _ (List.Sublist.cons_cons _ (List.nil_sublist _)))) (.int .i64 0) rfl (fun _ => by rfl) ?_
                  try simp only [Act.put, List.setIfInBounds_toArray, List.set_cons_zero, List.set_cons_succ]
                  refine hk_x1 2 (by kernel_rfl) ?_
                  refine hg_callT 2 (some 112) rfl rfl rfl 14 _ _ rfl Tryz.func14 (by kernel_rfl) rfl [.pointer (some ⟨c, 0, none⟩)] (fun v w2 => ∃ (y : G) (p3 : Nat), v = .agg y.arr ∧ p3 ≤ n ∧ St none default w0 w2 ((b12, 25, [xh, xw]) :: (b54, 25, [.slice aoh nh cph, .slice aow nw cpw, uh, uw]) :: (b7, 29, g.lst) :: (c, 47, codL a n cap p3) :: lr)) ((grant_own (front := [(b12, 25, [xh, xw]), (b54, 25, [.slice aoh nh cph, .slice aow nw cpw, uh, uw]), (b7, 29, g.lst)]) (ll := lr) HS.out HBN.out hp hnl).mono (fun e w1 h => by obtain ⟨y, p3, rfl, _, h3, _, _, h5⟩ := h; exact ⟨_, rfl, y, p3, rfl, h3, h5⟩)) (fun v w2 h => by obtain ⟨y, p3, _, _, h5⟩ := h; exact St.sub h5 (List.Sublist.cons _ (List.Sublist.cons _ (List.Sublist.cons_cons _ (List.nil_sublist _))))) rfl ?_
                  clear HS; rintro _ w ⟨y, p3, rfl, hp3, hst⟩
                  have HS := Lib.hid hst
                  replace hp := hp3
                  clear hst hp3
                  try simp only [Act.put, List.setIfInBounds_toArray, List.set_cons_zero, List.set_cons_succ]
                  refine hk_x1 3 (by kernel_rfl) ?_
                  refine hg_build 3 (some 113) rfl rfl rfl HS (List.Sublist.cons _ (List.Sublist.cons _ (List.Sublist.cons_cons _ (List.nil_sublist _)))) 23 29 2 [(0, .tmp 110), (1, .tmp 112)] rfl [(0, .agg g.arr), (1, .agg y.arr)] rfl (gL [g, y]) (fun w => build_grants2 g y w) ?_
                  clear HS; intro w b113 HS
                  try simp only [Act.put, List.setIfInBounds_toArray, List.set_cons_zero, List.set_cons_succ]
                  refine hg_reg 4 (some 114) rfl rfl (by kernel_rfl) (by kernel_rfl) (by kernel_rfl) (fun _ _ _ _ h => h) HS (List.Sublist.cons _ (List.Sublist.cons _ (List.Sublist.cons _ (List.Sublist.cons_cons _ (List.nil_sublist _))))) (.int .i64 2) rfl (fun _ => by go_simp) ?_
                  try simp only [Act.put, List.setIfInBounds_toArray, List.set_cons_zero, List.set_cons_succ]
                  refine hk_done (by kernel_rfl) ?_
                  replace HS : Hid (St none default w0 w ((b113, 29, gL [g, y]) :: (b12, 25, [xh, xw]) :: (b54, 25, [.slice aoh nh cph, .slice aow nw cpw, uh, uw]) :: (b7, 29, g.lst) :: (c, 47, codL a n cap p3) :: lr)) := HS
                  go_wp2_with fail
                  go_loopw [115] (fun s115 wz => ∃ k : Nat, k ≤ 2 ∧ s115 = .int .i64 k ∧ Hid (St none default w0 wz ((b113, 29, gL [g, y]) :: (b12, 25, [xh, xw]) :: (b54, 25, [.slice aoh nh cph, .slice aow nw cpw, uh, uw]) :: (b7, 29, g.lst) :: (c, 47, codL a n cap p3) :: lr))) (fun s115 _ => 2 - (intOf s115).toNat)
                  case atStart => exact ⟨0, by omega, rfl, HS⟩
                  case round =>
                    clear HS
                    obtain ⟨k, hk, rfl, HS⟩ := hrel
                    by_cases hlt3 : k < 2
                    · skip
                      obtain ⟨z, hz⟩ : ∃ z, [g, y][k]? = some z := ⟨_, List.getElem?_eq_getElem (by exact hlt3)⟩
                      have HZ := Lib.hid hz
                      clear hz
                      go_wp2_with (first | (refine sx_loadsC (by rfl) 29 (.tmp 117) rfl b113 (k * 4) rfl 4 sh29 z.lst rfl (fun j u hj => (HS.out.box (i := 0) rfl).cell (gL_get HZ.out hj)) ?_) | (refine sx_alloc HS rfl 29 rfl _ zr29 ?_; clear HS; intro w b19 HS) | (refine sx_store_all HS (by rfl) 29 _ _ rfl rfl 0 _ _ _ rfl rfl z.lst rfl 4 sh29 rfl rfl rfl ?_; clear HS; intro w HS) | (refine sx_loads HS (by rfl) 25 (.tmp 12) rfl 2 _ _ _ rfl 0 rfl 2 sh25 [xh, xw] rfl ⟨rfl, rfl, trivial⟩ ?_) | (refine sx_load_all HS (by rfl) 29 (.tmp 19) rfl 0 _ _ _ rfl rfl 4 sh29 rfl ?_))
                      refine (wt_would _ xh xw xs ys z (HT.out.1 _ _ HS.out (fun e he => by simp [he])) (HT.out.2 _ _ HS.out (fun e he => by simp [he])) (by omega) (by omega)).mono ?_
                      obtain ⟨E, hE⟩ : ∃ E, E = reqE xs ys z := ⟨_, rfl⟩
                      have HEQ := Lib.hid hE
                      clear hE
                      rintro e wq hwo
                      obtain ⟨vl, ns, rfl, hlx, hli, hqn⟩ : ∃ (vl : Value) (ns : List Int), e = .returned (.tuple #[vl, .int .i64 E]) ∧ Ext w wq ∧ IsAt wq vl ns ∧ ((reqF xs ys z = none ∧ ns = []) ∨ ∃ u v b, reqF xs ys z = some (u, v, b) ∧ ns = cycR u v z.tx) := by
                        rcases hwo with ⟨hF, _, he, hx⟩ | ⟨u, v, b, vl, hF, hE0, he, hn⟩
                        · exact ⟨_, [], by rw [he, HEQ.out], hx, IsAt.nil _, .inl ⟨hF, rfl⟩⟩
                        · exact ⟨vl, _, by rw [he, HEQ.out, hE0], hn.is.2, by rw [cyc_ref]; exact hn.is.1, .inr ⟨u, v, b, hF, rfl⟩⟩
                      replace HS := Lib.hid (HS.out.ext hlx)
                      have HLI := Lib.hid hli
                      have HQN := Lib.hid hqn
                      clear hwo hlx hli hqn
                      go_wp2_with (first | (refine sx_loads HS (by rfl) 25 (.tmp 12) rfl 2 _ _ _ rfl 0 rfl 2 sh25 [xh, xw] rfl ⟨rfl, rfl, trivial⟩ ?_) | (refine sx_load_all HS (by rfl) 29 (.tmp 19) rfl 0 _ _ _ rfl rfl 4 sh29 rfl ?_))
                      refine (rf_would _ xh xw xs ys z (HT.out.1 _ _ HS.out (fun e he => by simp [he])) (HT.out.2 _ _ HS.out (fun e he => by simp [he])) (by omega) (by omega)).mono ?_
                      rintro e wv hwo
                      obtain ⟨vm, rfl, hmx, hmi⟩ : ∃ vm : Value, e = .returned (.tuple #[vm, .int .i64 E]) ∧ Ext wq wv ∧ IsAt wv vm ns := by
                        rcases hwo with ⟨hF, _, he, hx⟩ | ⟨u, v, b, vl, hF, hE0, he, hx, hv⟩
                        · rcases HQN.out with ⟨_, rfl⟩ | ⟨u2, v2, b2, hF2, _⟩
                          · exact ⟨_, by rw [he, HEQ.out], hx, IsAt.nil _⟩
                          · rw [hF] at hF2; cases hF2
                        · rcases HQN.out with ⟨hF2, _⟩ | ⟨u2, v2, b2, hF2, rfl⟩
                          · rw [hF] at hF2; cases hF2
                          · rw [hF] at hF2
                            cases hF2
                            exact ⟨vl, by rw [he, HEQ.out, hE0], hx, hv⟩
                      replace HS := Lib.hid (HS.out.ext hmx)
                      replace HLI := Lib.hid (HLI.out.ext hmx)
                      have HMI := Lib.hid hmi
                      clear hwo hmx hmi
                      have hee : (E != E) = false := by simp
                      go_wp2_with fail
                      refine (rf_ints _ vl vm ns ns HLI.out HMI.out).mono ?_
                      rintro e wu ⟨he, hx⟩
                      have he2 : e = .returned (.bool true) := by rw [he]; simp
                      clear he
                      subst he2
                      replace HS : Hid (St none default w0 wu ((b113, 29, gL [g, y]) :: (b12, 25, [xh, xw]) :: (b54, 25, [.slice aoh nh cph, .slice aow nw cpw, uh, uw]) :: (b7, 29, g.lst) :: (c, 47, codL a n cap p3) :: lr)) := Lib.hid ((HS.out.ext hx).drop 1)
                      clear hx hee
                      go_wp2_with fail
                      go_roundw
                      case rel => exact ⟨k + 1, by omega, by go_num, HS⟩
                      case measure => simp [intOf]; omega
                    · skip
                      have hk2 : k = 2 := by omega
                      subst hk2
                      replace HS : Hid (St none default w0 _ ((b54, 25, [.slice aoh nh cph, .slice aow nw cpw, uh, uw]) :: (b7, 29, g.lst) :: (c, 47, codL a n cap p3) :: lr)) := Lib.hid (HS.out.drop 2)
                      go_wp2_with fail
                      go_roundw
                      case rel => exact ⟨i + 1, p3, by omega, by go_num, hp, HS⟩
                      case measure => simp [intOf]; omega
        · skip
          have hi2 : i = 2 := by omega
          subst hi2
          go_wp2_with fail
          go_ret
          exact ⟨rfl, HS.out.isExt⟩
end Go.Proofs.YtnfkplohpjfocaaGreat
