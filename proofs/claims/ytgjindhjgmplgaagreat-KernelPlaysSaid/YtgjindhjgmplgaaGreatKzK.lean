/-
  KernelPlays: contracts of transactions.Valid, Find.
-/
import Derived.Test.YtgjindhjgmplgaaGreatKzH
set_option linter.unusedVariables false
set_option linter.unusedSimpArgs false
section
set_option maxRecDepth 100000
namespace Go.Proofs.YtgjindhjgmplgaaGreat
open Wp
def txF (tx : Int) (gs : List G) : List G := gs.filter fun g => !txB tx g
def keyF (tx page slot : Int) (gs : List G) : List G := gs.filter fun g => !keyB tx page slot g
def g209 (vs : List V) (E : Mem) (nx : Nat) (k : KVk) : Prop := match vs, E, nx with
  | [.c (.ow 0), .c (.fn f [])], [(0, .W e r)], 1 => fk (inB f [176, 213] && shEq e shG) (∃ gs : List G, gs.length ≤ 1024 ∧ r = gsR gs ∧ k (.c (.ow 1)) [(1, .W shG (gsR gs))] 2) False
  | [.c (.ow 0), .c (.fn f [1])], [(0, .W e r), (1, .R s c)], 2 => fk (inB f [177, 193] && (shEq e shG && shEq s shInt)) (∃ gs : List G, gs.length ≤ 1024 ∧ r = gsR gs ∧ k (.c (.ow 2)) [(2, .W shG (gsR (txF (ri c 0) gs))), (1, .R shInt c)] 3) False
  | [.c (.ow 0), .c (.fn f [1, 2])], [(0, .W e r), (1, .R s c), (2, .R s2 d)], 3 => fk (inB f [212] && (shEq e shG && (shEq s shInt && shEq s2 [.i .i64, .i .i64]))) (∃ gs : List G, gs.length ≤ 1024 ∧ r = gsR gs ∧ k (.c (.ow 3)) [(3, .W shG (gsR (keyF (ri c 0) (ri d 0) (ri d 1) gs))), (1, .R shInt c), (2, .R [.i .i64, .i .i64] d)] 4) False
  | _, _, _ => False
def T209 : Ct := (209, g209) :: T212
theorem vc209a (gs : List G) (k : KVk) : dbody Tryz.prog (dcall Tryz.prog T212 clF 5) dfL false 209 [.c (.ow 0), .c (.fn 176 [])] [(0, .W shG (gsR
  gs))] 1 k = (∃ (I : Nat → Prop) (μ : Nat → Nat), (∃ j, I j ∧ (0 = Int.ofNat j ∧ True) ∧ (gsR gs = gsR gs ∧ True) ∧ True) ∧ ∀ (j : Nat), I j → fk (ilt (Int.ofNat j) (ln (gsR gs))) (fk (inR (Int.ofNat j) (ln (gsR gs)))
  (fk (nlt (tn (Int.ofNat j)) (gsR gs)) (∃ j', I j' ∧ lessN (μ j') (μ j) ∧ (wr .i64 (xadd (Int.ofNat j) 1) = Int.ofNat j' ∧ True) ∧ (gsR gs = gsR gs ∧ True) ∧ True) False) False) (k (.c (.ow 0)) [(0, .W [.i .i64, .i
  .i64, .i .i64, .i .i64] (gsR gs))] 1)) := by kernel_rfl
theorem vc209b (gs : List G) (k : KVk) : dbody Tryz.prog (dcall Tryz.prog T212 clF 5) dfL false 209 [.c (.ow 0), .c (.fn 213 [])] [(0, .W shG (gsR gs))]
  1 k = (∃ (I : Nat → Prop) (μ : Nat → Nat), (∃ j, I j ∧ (0 = Int.ofNat j ∧ True) ∧ (gsR gs = gsR gs ∧ True) ∧ True) ∧ ∀ (j : Nat), I j → fk (ilt (Int.ofNat j) (ln (gsR gs))) (fk (inR (Int.ofNat j) (ln (gsR gs))) (fk
  (nlt (tn (Int.ofNat j)) (gsR gs)) (∃ j', I j' ∧ lessN (μ j') (μ j) ∧ (wr .i64 (xadd (Int.ofNat j) 1) = Int.ofNat j' ∧ True) ∧ (gsR gs = gsR gs ∧ True) ∧ True) False) False) (k (.c (.ow 0)) [(0, .W [.i .i64, .i .i64, .i
  .i64, .i .i64] (gsR gs))] 1)) := by kernel_rfl
theorem ok209 : CtOk Tryz.prog T209 := by
  refine ok212.cons fun vs E nx k h => ?_
  unfold g209 at h
  split at h
  · rename_i f e r
    obtain ⟨h1, gs, hl, rfl, hk⟩ := fk_yes h
    obtain ⟨h2, h3⟩ := and2 h1
    have := shEq_eq _ _ h3
    subst this
    have h2 := inB_iff.1 h2
    simp only [List.mem_cons, List.not_mem_nil, or_false] at h2
    rcases h2 with rfl | rfl
    · refine CallG.fresh (dbody_ok (dcall_ok ok212 (LT := clF) 5) (lp := dfL) (fz := false) ?_)
      rw [vc209a]
      refine ⟨fun j => j ≤ gs.length ∧ True, fun j => gs.length - j, range_e (ln_gs gs) ⟨rfl, trivial⟩ (by omega) trivial (fun j hj _ nx => ?_) fun _ => .inr ⟨0, shG, gsR gs, [], rfl, rfl, (fun y B hy => (by cases hy)), hk⟩⟩
      exact fk_t (by unfold nlt; rw [gs_len]; exact decide_eq_true hj) (nx trivial)
    · refine CallG.fresh (dbody_ok (dcall_ok ok212 (LT := clF) 5) (lp := dfL) (fz := false) ?_)
      rw [vc209b]
      refine ⟨fun j => j ≤ gs.length ∧ True, fun j => gs.length - j, range_e (ln_gs gs) ⟨rfl, trivial⟩ (by omega) trivial (fun j hj _ nx => ?_) fun _ => .inr ⟨0, shG, gsR gs, [], rfl, rfl, (fun y B hy => (by cases hy)), hk⟩⟩
      exact fk_t (by unfold nlt; rw [gs_len]; exact decide_eq_true hj) (nx trivial)
  · rename_i f e r s c
    obtain ⟨h1, gs, hl, rfl, hk⟩ := fk_yes h
    obtain ⟨h2, h3⟩ := and2 h1
    obtain ⟨h3, h4⟩ := and2 h3
    have := shEq_eq _ _ h3
    subst this
    have := shEq_eq _ _ h4
    subst this
    have h2 := inB_iff.1 h2
    simp only [List.mem_cons, List.not_mem_nil, or_false] at h2
    rcases h2 with rfl | rfl
    · refine CallG.fresh (dbody_ok (dcall_ok ok212 (LT := clF) 5) (lp := dfL) (fz := false) ?_)
      rw [vcDfTx2]
      refine dfVC_ok ⟨rfl, trivial⟩ (by omega) (fun e => ?_) (.inl hk)
      have e : txF (ri c 0) gs = gs := e
      rw [e] at hk
      exact .inr ⟨0, shG, gsR gs, [(1, .R shInt c)], rfl, rfl, (fun y B hy => by
        by_cases h : y = 1
        · subst h; exact ⟨by decide, hy⟩
        · rw [look_ne (fun e => h e.symm)] at hy; cases hy), hk⟩
    · refine CallG.fresh (dbody_ok (dcall_ok ok212 (LT := clF) 5) (lp := dfL) (fz := false) ?_)
      rw [vcDfTx]
      refine dfVC_ok ⟨rfl, trivial⟩ (by omega) (fun e => ?_) (.inl hk)
      have e : txF (ri c 0) gs = gs := e
      rw [e] at hk
      exact .inr ⟨0, shG, gsR gs, [(1, .R shInt c)], rfl, rfl, (fun y B hy => by
        by_cases h : y = 1
        · subst h; exact ⟨by decide, hy⟩
        · rw [look_ne (fun e => h e.symm)] at hy; cases hy), hk⟩
  · rename_i f e r s c s2 d
    obtain ⟨h1, gs, hl, rfl, hk⟩ := fk_yes h
    obtain ⟨h2, h3⟩ := and2 h1
    obtain ⟨h3, h4⟩ := and2 h3
    obtain ⟨h4, h5⟩ := and2 h4
    have := shEq_eq _ _ h3
    subst this
    have := shEq_eq _ _ h4
    subst this
    have := shEq_eq _ _ h5
    subst this
    have h2 := inB_iff.1 h2
    simp only [List.mem_cons, List.not_mem_nil, or_false] at h2
    subst h2
    refine CallG.fresh (dbody_ok (dcall_ok ok212 (LT := clF) 5) (lp := dfL) (fz := false) ?_)
    rw [vcDfKey]
    refine dfVC_ok ⟨rfl, rfl, trivial⟩ (by omega) (fun e => ?_) (.inl hk)
    have e : keyF (ri c 0) (ri d 0) (ri d 1) gs = gs := e
    rw [e] at hk
    exact .inr ⟨0, shG, gsR gs, [(1, .R shInt c), (2, .R [.i .i64, .i .i64] d)], rfl, rfl, (fun y B hy => by
      by_cases h : y = 1
      · subst h; exact ⟨by decide, hy⟩
      · rw [look_ne (fun e => h e.symm)] at hy
        by_cases h2 : y = 2
        · subst h2; exact ⟨by decide, hy⟩
        · rw [look_ne (fun e => h2 e.symm)] at hy; cases hy), hk⟩
  · exact h.elim
end Go.Proofs.YtgjindhjgmplgaaGreat
end
section
set_option maxRecDepth 100000
namespace Go.Proofs.YtgjindhjgmplgaaGreat
open Wp
def woF : Nat → Lp := fun f => bif inB f [122, 209] then [(0, .u 0)] else []
def g138 (rs : List Row) (k : V → Prop) : Prop := ∃ (hs ws : List G) (tx : Int), LkV hs ws ∧ rs = [lkR hs ws, [.i tx]] ∧ k (.r shLk (lkR (setH (txF tx hs) (txF tx ws)) (setW (txF tx hs) (txF tx ws))))
def g126 (rs : List Row) (k : V → Prop) : Prop := ∃ (hs ws : List G) (tx : Int), LkV hs ws ∧ rs = [lkR hs ws, [.i tx]] ∧ k (.r shLk (lkR (setH hs (txF tx ws)) (setW hs (txF tx ws))))
def g180 (rs : List Row) (k : V → Prop) : Prop := ∃ (hs ws : List G) (tx page slot : Int), LkV hs ws ∧ rs = [lkR hs ws, [.i tx], [.i page, .i slot]] ∧ k (.r shLk (lkR (setH (keyF tx page slot hs) ws) (setW (keyF tx page slot hs) ws)))
def T138 : Ct := (138, ctF (psF Tryz.prog 138) g138) :: T209
def T126 : Ct := (126, ctF (psF Tryz.prog 126) g126) :: T138
def T180 : Ct := (180, ctF (psF Tryz.prog 180) g180) :: T126
theorem vc138 (hs ws : List G) (tx : Int) (k : KVk) : dbody Tryz.prog (dcall Tryz.prog T209 woF 5) [] true 138 (argVs (psF Tryz.prog 138) [lkR hs ws, [.i tx]]) [] 0 k = (∃ hs_1 ws_1, LkV hs_1 ws_1
  ∧ [[DV.sl (gsR hs), DV.sl (gsR ws)]] = [[DV.sl (gsR hs_1), DV.sl (gsR ws_1)]] ∧ fk (apOk 32 [] (gsR hs)) (fk (apOk 32 [] (gsR ws)) (∃ gs, gs.length.le 1024 ∧ gsR hs = gsR gs ∧ ∃ gs_1, gs_1.length.le 1024 ∧ gsR ws = gsR
  gs_1 ∧ ∃ hs ws, SetV hs ws ∧ gsR (txF tx gs) = gsR hs ∧ gsR (txF tx gs_1) = gsR ws ∧ k (.r [.sl [.i .i64, .i .i64, .i .i64, .i .i64], .sl [.i .i64, .i .i64, .i .i64, .i .i64]] [DV.sl (gsR (setH hs ws)), DV.sl (gsR
  (setW hs ws))]) [] 0) False) False) := by kernel_rfl
theorem vc126 (hs ws : List G) (tx : Int) (k : KVk) : dbody Tryz.prog (dcall Tryz.prog T138 woF 5) [] true 126 (argVs (psF Tryz.prog 126) [lkR hs ws, [.i tx]]) [] 0 k = (∃ hs_1 ws_1, LkV hs_1 ws_1 ∧
  [[DV.sl (gsR hs), DV.sl (gsR ws)]] = [[DV.sl (gsR hs_1), DV.sl (gsR ws_1)]] ∧ fk (apOk 32 [] (gsR hs)) (fk (apOk 32 [] (gsR ws)) (∃ gs, gs.length.le 1024 ∧ gsR hs = gsR gs ∧ ∃ gs_1, gs_1.length.le 1024 ∧ gsR ws = gsR
  gs_1 ∧ ∃ hs ws, SetV hs ws ∧ gsR gs = gsR hs ∧ gsR (txF tx gs_1) = gsR ws ∧ k (.r [.sl [.i .i64, .i .i64, .i .i64, .i .i64], .sl [.i .i64, .i .i64, .i .i64, .i .i64]] [DV.sl (gsR (setH hs ws)), DV.sl (gsR (setW hs
  ws))]) [] 0) False) False) := by kernel_rfl
theorem vc180 (hs ws : List G) (tx page slot : Int) (k : KVk) : dbody Tryz.prog (dcall Tryz.prog T126 woF 5) [] true 180 (argVs (psF Tryz.prog 180) [lkR hs ws, [.i tx], [.i page, .i slot]]) [] 0 k = (∃
  hs_1 ws_1, LkV hs_1 ws_1 ∧ [[DV.sl (gsR hs), DV.sl (gsR ws)]] = [[DV.sl (gsR hs_1), DV.sl (gsR ws_1)]] ∧ fk (apOk 32 [] (gsR hs)) (fk (apOk 32 [] (gsR ws)) (∃ gs, gs.length.le 1024 ∧ gsR hs = gsR gs ∧ ∃ gs_1,
  gs_1.length.le 1024 ∧ gsR ws = gsR gs_1 ∧ ∃ hs ws, SetV hs ws ∧ gsR (keyF tx page slot gs) = gsR hs ∧ gsR gs_1 = gsR ws ∧ k (.r [.sl [.i .i64, .i .i64, .i .i64, .i .i64], .sl [.i .i64, .i .i64, .i .i64, .i .i64]]
  [DV.sl (gsR (setH hs ws)), DV.sl (gsR (setW hs ws))]) [] 0) False) False) := by kernel_rfl
theorem apOk_of {l : List G} (h : l.length ≤ 1024) : apOk 32 [] (gsR l) = true := by
  unfold apOk
  rw [gs_len]
  simp only [Bool.and_eq_true, decide_eq_true_eq, List.length_nil]
  omega
theorem fl_len (l : List G) : ∀ p : G → Bool, (l.filter p).length ≤ l.length := fun p => List.length_filter_le p l
theorem ok138 : CtOk Tryz.prog T138 := by
  refine ct_cons ok209 (fz := true) fun rs k h => ?_
  obtain ⟨hs, ws, tx, hv, rfl, hk⟩ := h
  have hl := hv.len
  refine ⟨_, _, _, (vc138 hs ws tx k).mpr ⟨hs, ws, hv, rfl, fk_t (apOk_of (by omega)) (fk_t (apOk_of (by omega)) ⟨hs, (by omega : hs.length ≤ 1024), rfl, ws, (by omega : ws.length ≤ 1024), rfl, _, _, ⟨hv.tv.srt.filter _, ?_⟩, rfl, rfl, hk⟩)⟩⟩
  have h1 := fl_len hs
  have h2 := fl_len ws
  have a := h1 (fun g => !txB tx g); have b := h2 (fun g => !txB tx g); unfold txF; omega
theorem ok126 : CtOk Tryz.prog T126 := by
  refine ct_cons ok138 (fz := true) fun rs k h => ?_
  obtain ⟨hs, ws, tx, hv, rfl, hk⟩ := h
  have hl := hv.len
  refine ⟨_, _, _, (vc126 hs ws tx k).mpr ⟨hs, ws, hv, rfl, fk_t (apOk_of (by omega)) (fk_t (apOk_of (by omega)) ⟨hs, (by omega : hs.length ≤ 1024), rfl, ws, (by omega : ws.length ≤ 1024), rfl, _, _, ⟨hv.tv.srt, ?_⟩, rfl, rfl, hk⟩)⟩⟩
  have h1 := fl_len hs
  have h2 := fl_len ws
  have b := h2 (fun g => !txB tx g); unfold txF; omega
theorem ok180 : CtOk Tryz.prog T180 := by
  refine ct_cons ok126 (fz := true) fun rs k h => ?_
  obtain ⟨hs, ws, tx, page, slot, hv, rfl, hk⟩ := h
  have hl := hv.len
  refine ⟨_, _, _, (vc180 hs ws tx page slot k).mpr ⟨hs, ws, hv, rfl, fk_t (apOk_of (by omega)) (fk_t (apOk_of (by omega)) ⟨hs, (by omega : hs.length ≤ 1024), rfl, ws, (by omega : ws.length ≤ 1024), rfl, _, _, ⟨hv.tv.srt.filter _, ?_⟩, rfl, rfl, hk⟩)⟩⟩
  have h1 := fl_len hs
  have h2 := fl_len ws
  have a := h1 (fun g => !keyB tx page slot g); omega
end Go.Proofs.YtgjindhjgmplgaaGreat
end
section
set_option maxRecDepth 100000
namespace Go.Proofs.YtgjindhjgmplgaaGreat
open Wp
structure TxV (t : TxR) : Prop where
  id0 : 1 ≤ t.id
  id1 : t.id ≤ 1073741824
  st : t.state = 1 ∨ t.state = 3
  last0 : 0 ≤ t.last
  last1 : t.last ≤ 1099511627776
  pl : t.pend.length ≤ 4096
  ps : t.pend.Pairwise (· < ·)
  pr : ∀ x ∈ t.pend, 1 ≤ x ∧ x ≤ t.last
  sl : t.saves.length ≤ 8
  ss : t.saves.Pairwise (· ≤ ·)
  sr : ∀ x ∈ t.saves, 0 ≤ x ∧ x ≤ t.last
structure TxsV (ts : List TxR) : Prop where
  each : ∀ t ∈ ts, TxV t
  srt : ts.Pairwise fun a b => a.id < b.id
  len : ts.length ≤ 64
structure AscV (l : List Int) (least most step : Int) : Prop where
  rng : ∀ x ∈ l, least ≤ x ∧ x ≤ most
  srt : l.Pairwise fun a b => a + step ≤ b
  len : l.length ≤ 4096
  lst : 0 ≤ least
  mst : most ≤ 1099511627776
  stp : 0 ≤ step ∧ step ≤ 1
def g159 (rs : List Row) (k : V → Prop) : Prop := ∃ (l : List Int) (least most step : Int), AscV l least most step ∧ rs = [[.sl (isR l)], [.i least], [.i most], [.i step]] ∧ k (.c (.b true))
def g103 (rs : List Row) (k : V → Prop) : Prop := ∃ t : TxR, TxV t ∧ rs = [txR t] ∧ k (.c (.b true))
def g43 (rs : List Row) (k : V → Prop) : Prop := ∃ ts : List TxR, TxsV ts ∧ rs = [[.sl (txsR ts)]] ∧ k (.c (.b true))
def T159 : Ct := (159, ctF (psF Tryz.prog 159) g159) :: T180
def T103 : Ct := (103, ctF (psF Tryz.prog 103) g103) :: T159
def T43 : Ct := (43, ctF (psF Tryz.prog 43) g43) :: T103
theorem vc159 (l : List Int) (least most step : Int) (k : KVk) : dbody Tryz.prog (dcall Tryz.prog T180 (fun _ => []) 5) [(3, lpI 13)] true 159 (argVs (psF Tryz.prog 159) [[.sl
  (isR l)], [.i least], [.i most], [.i step]]) [] 0 k = (∃ (I : Nat → Prop) (μ : Nat → Nat), (∃ j, I j ∧ (0 = Int.ofNat j ∧ True) ∧ True ∧ True) ∧ ∀ (j : Nat), I j → fk (ilt (Int.ofNat j) (ln (isR l))) (fk (inR
  (Int.ofNat j) (ln (isR l))) (fk (ilt (ri (rw' (isR l) (tn (Int.ofNat j))) 0) least) (k (.c (.b false)) [] 0) (fk (ilt most (ri (rw' (isR l) (tn (Int.ofNat j))) 0)) (k (.c (.b false)) [] 0) (fk (ilt 0 (Int.ofNat j)) (fk
  (inR (wr .i64 (xsub (Int.ofNat j) 1)) (ln (isR l))) (fk (ilt (ri (rw' (isR l) (tn (Int.ofNat j))) 0) (wr .i64 (xadd (ri (rw' (isR l) (tn (wr .i64 (xsub (Int.ofNat j) 1)))) 0) step))) (k (.c (.b false)) [] 0) (∃ j', I
  j' ∧ lessN (μ j') (μ j) ∧ (wr .i64 (xadd (Int.ofNat j) 1) = Int.ofNat j' ∧ True) ∧ True ∧ True)) False) (∃ j', I j' ∧ lessN (μ j') (μ j) ∧ (wr .i64 (xadd (Int.ofNat j) 1) = Int.ofNat j' ∧ True) ∧ True ∧ True)))) False)
  (k (.c (.b true)) [] 0)) := by kernel_rfl
theorem vc103 (t : TxR) (k : KVk) : dbody Tryz.prog (dcall Tryz.prog T159 (fun _ => []) 5) [] true 103 (argVs (psF Tryz.prog 103) [txR t]) [] 0 k = (fk (ieq 0 0) (fk (ile 1 t.id) (fk
  (ile t.id 1073741824) (fk (ile 1 t.state) (fk (ile t.state 3) (fk (ile 0 t.last) (fk (ile t.last 1099511627776) (fk (ile (ln (isR t.pend)) 4096) (∃ l least most step, AscV l least most step ∧ [[DV.sl (isR t.pend)],
  [DV.i 1], [DV.i t.last], [DV.i 1]] = [[DV.sl (isR l)], [DV.i least], [DV.i most], [DV.i step]] ∧ fk (ile (ln (isR t.saves)) 8) (∃ l least most step, AscV l least most step ∧ [[DV.sl (isR t.saves)], [DV.i 0], [DV.i
  t.last], [DV.i 0]] = [[DV.sl (isR l)], [DV.i least], [DV.i most], [DV.i step]] ∧ k (.c (.b true)) [] 0) (k (.c (.b false)) [] 0)) (k (.c (.b false)) [] 0)) (k (.c (.b false)) [] 0)) (k (.c (.b false)) [] 0)) (k (.c (.b
  false)) [] 0)) (k (.c (.b false)) [] 0)) (k (.c (.b false)) [] 0)) (k (.c (.b false)) [] 0)) (fk (ieq t.state 2) (fk (ilt 0 0) (fk (ile 1 t.id) (fk (ile t.id 1073741824) (fk (ile 1 t.state) (fk (ile t.state 3) (fk (ile
  0 t.last) (fk (ile t.last 1099511627776) (fk (ile 0 t.last) (fk (ile (ln (isR t.pend)) 4096) (∃ l least most step, AscV l least most step ∧ [[DV.sl (isR t.pend)], [DV.i 1], [DV.i t.last], [DV.i 1]] = [[DV.sl (isR l)],
  [DV.i least], [DV.i most], [DV.i step]] ∧ fk (ile (ln (isR t.saves)) 8) (∃ l least most step, AscV l least most step ∧ [[DV.sl (isR t.saves)], [DV.i 0], [DV.i t.last], [DV.i 0]] = [[DV.sl (isR l)], [DV.i least], [DV.i
  most], [DV.i step]] ∧ k (.c (.b true)) [] 0) (k (.c (.b false)) [] 0)) (k (.c (.b false)) [] 0)) (k (.c (.b false)) [] 0)) (k (.c (.b false)) [] 0)) (k (.c (.b false)) [] 0)) (k (.c (.b false)) [] 0)) (k (.c (.b
  false)) [] 0)) (k (.c (.b false)) [] 0)) (k (.c (.b false)) [] 0)) (fk (ile 1 t.id) (fk (ile t.id 1073741824) (fk (ile 1 t.state) (fk (ile t.state 3) (fk (ile 0 t.last) (fk (ile t.last 1099511627776) (k (.c (.b false))
  [] 0) (k (.c (.b false)) [] 0)) (k (.c (.b false)) [] 0)) (k (.c (.b false)) [] 0)) (k (.c (.b false)) [] 0)) (k (.c (.b false)) [] 0)) (k (.c (.b false)) [] 0))) (fk (ile 1 t.id) (fk (ile t.id 1073741824) (fk (ile 1
  t.state) (fk (ile t.state 3) (fk (ile 0 t.last) (fk (ile t.last 1099511627776) (k (.c (.b false)) [] 0) (k (.c (.b false)) [] 0)) (k (.c (.b false)) [] 0)) (k (.c (.b false)) [] 0)) (k (.c (.b false)) [] 0)) (k (.c (.b
  false)) [] 0)) (k (.c (.b false)) [] 0)))) := by kernel_rfl
theorem vc43 (ts : List TxR) (k : KVk) : dbody Tryz.prog (dcall Tryz.prog T103 (fun _ => []) 5) [(5, lpI 10)] true 43 (argVs (psF Tryz.prog 43) [[.sl (txsR ts)]]) [] 0 k = (fk (ilt 64
  (ln (txsR ts))) (k (.c (.b false)) [] 0) (∃ (I : Nat → Prop) (μ : Nat → Nat), (∃ j, I j ∧ (0 = Int.ofNat j ∧ True) ∧ True ∧ True) ∧ ∀ (j : Nat), I j → fk (ilt (Int.ofNat j) (ln (txsR ts))) (fk (inR (Int.ofNat j) (ln
  (txsR ts))) (∃ t, TxV t ∧ [rw' (txsR ts) (tn (Int.ofNat j))] = [[DV.i t.id, DV.i t.state, DV.i t.last, DV.i 0, DV.sl (isR t.pend), DV.sl (isR t.saves)]] ∧ fk (ilt 0 (Int.ofNat j)) (fk (inR (wr .i64 (xsub (Int.ofNat j)
  1)) (ln (txsR ts))) (fk (ile (ri (rw' (txsR ts) (tn (Int.ofNat j))) 0) (ri (rw' (txsR ts) (tn (wr .i64 (xsub (Int.ofNat j) 1)))) 0)) (k (.c (.b false)) [] 0) (∃ j', I j' ∧ lessN (μ j') (μ j) ∧ (wr .i64 (xadd (Int.ofNat
  j) 1) = Int.ofNat j' ∧ True) ∧ True ∧ True)) False) (∃ j', I j' ∧ lessN (μ j') (μ j) ∧ (wr .i64 (xadd (Int.ofNat j) 1) = Int.ofNat j' ∧ True) ∧ True ∧ True)) False) (k (.c (.b true)) [] 0))) := by kernel_rfl
theorem pred_i {i : Nat} (h0 : 0 < i) (h1 : i ≤ 1048576) : wr .i64 (xsub (Int.ofNat i) 1) = ((i - 1 : Nat) : Int) := by
  unfold xsub
  rw [wr_id (by simp; omega) (by simp; omega)]
  simp; omega
theorem ok159 : CtOk Tryz.prog T159 := by
  refine ct_cons ok180 (fz := true) fun rs k h => ?_
  obtain ⟨l, least, most, step, hv, rfl, hk⟩ := h
  have hl := hv.len
  have h0 := hv.lst
  have h9 := hv.mst
  have hst := hv.stp
  refine ⟨_, _, _, (vc159 l least most step k).mpr ?_⟩
  refine ⟨fun j => j ≤ l.length ∧ True, fun j => l.length - j, range_e (ln_is l) (X := True) trivial (by omega) trivial (fun i hi _ nx => ?_) fun _ => hk⟩
  obtain ⟨x, hx⟩ := at_lt hi
  have nx := nx trivial
  have hr := hv.rng x (List.mem_of_getElem? hx)
  rw [tn_ofNat, is_at hx, i1R_0]
  refine fk_n (by (first | rfl | (simp (disch := omega) only [FS, eq_self, List.length_cons, List.length_nil, true_and, and_true, ssz, xadd, xsub, xmul, xmin, xmax] <;> omega) | omega)) (fk_n (by (first | rfl | (simp (disch := omega) only [FS, eq_self, List.length_cons, List.length_nil, true_and, and_true, ssz, xadd, xsub, xmul, xmin, xmax] <;> omega) | omega)) (fk_of (fun e => ?_) fun _ => nx))
  have hp : 0 < i := by have := ilt_t e; simpa using this
  obtain ⟨y, hy⟩ := at_lt (show i - 1 < l.length by omega)
  rw [pred_i hp (by omega), tn_cast, is_at hy, i1R_0]
  have hs := List.pairwise_iff_getElem.1 hv.srt (i - 1) i (by omega) hi (by omega)
  rw [(List.getElem?_eq_some_iff.1 hx).2, (List.getElem?_eq_some_iff.1 hy).2] at hs
  have hr2 := hv.rng y (List.mem_of_getElem? hy)
  exact fk_t (by (first | rfl | (simp (disch := omega) only [FS, eq_self, List.length_cons, List.length_nil, true_and, and_true, ssz, xadd, xsub, xmul, xmin, xmax] <;> omega) | omega)) (fk_n (by (first | rfl | (simp (disch := omega) only [FS, eq_self, List.length_cons, List.length_nil, true_and, and_true, ssz, xadd, xsub, xmul, xmin, xmax] <;> omega) | omega)) nx)
theorem ok103 : CtOk Tryz.prog T103 := by
  refine ct_cons ok159 (fz := true) fun rs k h => ?_
  obtain ⟨t, hv, rfl, hk⟩ := h
  refine ⟨_, _, _, (vc103 t k).mpr ?_⟩
  have a1 := hv.id0; have a2 := hv.id1; have a3 := hv.st; have a4 := hv.last0; have a5 := hv.last1; have a6 := hv.pl; have a7 := hv.sl
  repeat (first | (refine fk_t ?_ ?_; focus (first | rfl | (simp (disch := omega) only [FS, eq_self, List.length_cons, List.length_nil, true_and, and_true, ssz, xadd, xsub, xmul, xmin, xmax] <;> omega) | omega)) | (refine fk_n ?_ ?_; focus (first | rfl | (simp (disch := omega) only [FS, eq_self, List.length_cons, List.length_nil, true_and, and_true, ssz, xadd, xsub, xmul, xmin, xmax] <;> omega) | omega)))
  refine ⟨t.pend, 1, t.last, 1, ⟨hv.pr, hv.ps.imp fun {a b} h => by omega, a6, by omega, a5, by omega⟩, rfl, ?_⟩
  repeat (first | (refine fk_t ?_ ?_; focus (first | rfl | (simp (disch := omega) only [FS, eq_self, List.length_cons, List.length_nil, true_and, and_true, ssz, xadd, xsub, xmul, xmin, xmax] <;> omega) | omega)) | (refine fk_n ?_ ?_; focus (first | rfl | (simp (disch := omega) only [FS, eq_self, List.length_cons, List.length_nil, true_and, and_true, ssz, xadd, xsub, xmul, xmin, xmax] <;> omega) | omega)))
  exact ⟨t.saves, 0, t.last, 0, ⟨hv.sr, hv.ss.imp fun {a b} h => by omega, by omega, by omega, a5, by omega⟩, rfl, hk⟩
theorem ok43 : CtOk Tryz.prog T43 := by
  refine ct_cons ok103 (fz := true) fun rs k h => ?_
  obtain ⟨ts, hv, rfl, hk⟩ := h
  have hl := hv.len
  refine ⟨_, _, _, (vc43 ts k).mpr ?_⟩
  repeat (first | (refine fk_t ?_ ?_; focus (first | rfl | (simp (disch := omega) only [FS, eq_self, List.length_cons, List.length_nil, true_and, and_true, ssz, xadd, xsub, xmul, xmin, xmax] <;> omega) | omega)) | (refine fk_n ?_ ?_; focus (first | rfl | (simp (disch := omega) only [FS, eq_self, List.length_cons, List.length_nil, true_and, and_true, ssz, xadd, xsub, xmul, xmin, xmax] <;> omega) | omega)))
  refine ⟨fun j => j ≤ ts.length ∧ True, fun j => ts.length - j, range_e (ln_txs ts) (X := True) trivial (by omega) trivial (fun i hi _ nx => ?_) fun _ => hk⟩
  obtain ⟨x, hx⟩ := at_lt hi
  have nx := nx trivial
  rw [tn_ofNat, txs_at hx]
  refine ⟨x, hv.each x (List.mem_of_getElem? hx), rfl, fk_of (fun e => ?_) fun _ => nx⟩
  have hp : 0 < i := by have := ilt_t e; simpa using this
  obtain ⟨y, hy⟩ := at_lt (show i - 1 < ts.length by omega)
  rw [pred_i hp (by omega), tn_cast, txs_at hy]
  have hs := List.pairwise_iff_getElem.1 hv.srt (i - 1) i (by omega) hi (by omega)
  rw [(List.getElem?_eq_some_iff.1 hx).2, (List.getElem?_eq_some_iff.1 hy).2] at hs
  exact fk_t (by (first | rfl | (simp (disch := omega) only [FS, eq_self, List.length_cons, List.length_nil, true_and, and_true, ssz, xadd, xsub, xmul, xmin, xmax] <;> omega) | omega)) (fk_n (by (first | rfl | (simp (disch := omega) only [FS, eq_self, List.length_cons, List.length_nil, true_and, and_true, ssz, xadd, xsub, xmul, xmin, xmax] <;> omega) | omega)) nx)
end Go.Proofs.YtgjindhjgmplgaaGreat
end
