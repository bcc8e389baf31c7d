/-
  KernelPlays: contracts of locks.Request, Cancel, Drop, Release.
-/
import Derived.Test.YtgjindhjgmplgaaGreatKzF
set_option linter.unusedVariables false
set_option linter.unusedSimpArgs false
set_option maxRecDepth 100000
namespace Go.Proofs.YtgjindhjgmplgaaGreat
open Wp
def stF : Nat → Lp := fun f => bif Nat.beq f 122 then [(0, .u 0)] else []
def reqH (hs ws : List G) (g : G) : List G := match reqF hs ws g with | some x => x.1 | none => []
def reqW (hs ws : List G) (g : G) : List G := match reqF hs ws g with | some x => x.2.1 | none => []
def reqO (hs ws : List G) (g : G) : Bool := match reqF hs ws g with | some x => x.2.2 | none => false
def reqE (hs ws : List G) (g : G) : Bool := match reqF hs ws g with | some x => true | none => false
structure RqV (hs ws : List G) (g : G) : Prop where
  v : LkV hs ws
  g : validB g = true
  len : hs.length + ws.length < 1024
def g64 (rs : List Row) (k : V → Prop) : Prop := ∃ (hs ws : List G) (g : G), RqV hs ws g ∧ rs = [lkR hs ws, gR g] ∧ fk (reqE hs ws g) (k (.t [.r shLk (lkR (reqH hs ws g) (reqW hs ws g)), .c (.b (reqO hs ws g)), .c (.i .i64 0)])) (k (.t [.r shLk (lkR [] []), .c (.b false), .c (.i .i64 15)]))
def T64 : Ct := (64, ctF (psF Tryz.prog 64) g64) :: T122
theorem vc64 (hs ws : List G) (g : G) (k : KVk) : dbody Tryz.prog (dcall Tryz.prog T122 stF 5) [] true 64 (argVs (psF Tryz.prog 64) [lkR hs ws, gR g]) [] 0 k = (∃ hs_1 ws_1, LkV hs_1 ws_1 ∧
  [[DV.sl (gsR hs), DV.sl (gsR ws)]] = [[DV.sl (gsR hs_1), DV.sl (gsR ws_1)]] ∧ ∃ g_1, [[DV.i g.tx, DV.i g.page, DV.i g.slot, DV.i g.mode]] = [[DV.i g_1.tx, DV.i g_1.page, DV.i g_1.slot, DV.i g_1.mode]] ∧ fk (nt (validB
  g_1)) (k (.t [.r [.sl [.i .i64, .i .i64, .i .i64, .i .i64], .sl [.i .i64, .i .i64, .i .i64, .i .i64]] [DV.sl [], DV.sl []], .c (.b false), .c (.i .i64 1)]) [] 0) (∃ hs_2 ws_2 tx, LkV hs_2 ws_2 ∧ [[DV.sl (gsR hs), DV.sl
  (gsR ws)], [DV.i g.tx]] = [[DV.sl (gsR hs_2), DV.sl (gsR ws_2)], [DV.i tx]] ∧ fk (wtB ws_2 tx) (fk (nt (an (ieq (ri (wtR ws_2 tx) 0) g.1) (an (ieq (ri (wtR ws_2 tx) 1) g.2) (an (ieq (ri (wtR ws_2 tx) 2) g.3) (an (ieq
  (ri (wtR ws_2 tx) 3) g.4) true))))) (k (.t [.r [.sl [.i .i64, .i .i64, .i .i64, .i .i64], .sl [.i .i64, .i .i64, .i .i64, .i .i64]] [DV.sl [], DV.sl []], .c (.b false), .c (.i .i64 15)]) [] 0) (fk (wtB ws_2 tx) (k (.t
  [.r [.sl [.i .i64, .i .i64, .i .i64, .i .i64], .sl [.i .i64, .i .i64, .i .i64, .i .i64]] [DV.sl (gsR hs), DV.sl (gsR ws)], .c (.b false), .c (.i .i64 0)]) [] 0) (∃ hs_3 ws_3 t, LkS hs_3 ∧ [[DV.sl (gsR hs), DV.sl (gsR
  ws)], [DV.i g.tx], [DV.i g.page, DV.i g.slot]] = [[DV.sl (gsR hs_3), DV.sl (gsR ws_3)], [DV.i t.tx], [DV.i t.page, DV.i t.slot]] ∧ fk (ile g.mode (modeX hs_3 t)) (k (.t [.r [.sl [.i .i64, .i .i64, .i .i64, .i .i64],
  .sl [.i .i64, .i .i64, .i .i64, .i .i64]] [DV.sl (gsR hs), DV.sl (gsR ws)], .c (.b true), .c (.i .i64 0)]) [] 0) (fk (ieq (wr .i64 (xadd (ln (gsR hs)) (ln (gsR ws)))) 1024) (k (.t [.r [.sl [.i .i64, .i .i64, .i .i64,
  .i .i64], .sl [.i .i64, .i .i64, .i .i64, .i .i64]] [DV.sl [], DV.sl []], .c (.b false), .c (.i .i64 21)]) [] 0) (fk (apOk 32 [] (gsR hs)) (fk (apOk 32 [] (gsR ws)) (∃ hs_4 ws_4 g_2, LkV hs_4 ws_4 ∧ [[DV.sl (gsR hs),
  DV.sl (gsR ws)], [DV.i g.tx, DV.i g.page, DV.i g.slot, DV.i g.mode]] = [[DV.sl (gsR hs_4), DV.sl (gsR ws_4)], [DV.i g_2.tx, DV.i g_2.page, DV.i g_2.slot, DV.i g_2.mode]] ∧ fk (an (ile 0 (Int.ofNat (plcX hs_4 ws_4
  g_2))) (ile (Int.ofNat (plcX hs_4 ws_4 g_2)) (ln (gsR ws)))) (fk (apOk 32 (gsR ws) [[DV.i g.tx, DV.i g.page, DV.i g.slot, DV.i g.mode]]) (∃ hs_5 ws_5, SetV hs_5 ws_5 ∧ gsR hs = gsR hs_5 ∧ lins (gsR ws) (Int.ofNat (plcX
  hs_4 ws_4 g_2)) [DV.i g.tx, DV.i g.page, DV.i g.slot, DV.i g.mode] = gsR ws_5 ∧ ∃ hs ws t, LkS hs ∧ [[DV.sl (gsR (setH hs_5 ws_5)), DV.sl (gsR (setW hs_5 ws_5))], [DV.i g.tx], [DV.i g.page, DV.i g.slot]] = [[DV.sl (gsR
  hs), DV.sl (gsR ws)], [DV.i t.tx], [DV.i t.page, DV.i t.slot]] ∧ k (.t [.r [.sl [.i .i64, .i .i64, .i .i64, .i .i64], .sl [.i .i64, .i .i64, .i .i64, .i .i64]] [DV.sl (gsR (setH hs_5 ws_5)), DV.sl (gsR (setW hs_5
  ws_5))], .c (.b (ile g.mode (modeX hs t))), .c (.i .i64 0)]) [] 0) False) False) False) False))))) (fk (wtB ws_2 tx) (k (.t [.r [.sl [.i .i64, .i .i64, .i .i64, .i .i64], .sl [.i .i64, .i .i64, .i .i64, .i .i64]]
  [DV.sl (gsR hs), DV.sl (gsR ws)], .c (.b false), .c (.i .i64 0)]) [] 0) (∃ hs_3 ws_3 t, LkS hs_3 ∧ [[DV.sl (gsR hs), DV.sl (gsR ws)], [DV.i g.tx], [DV.i g.page, DV.i g.slot]] = [[DV.sl (gsR hs_3), DV.sl (gsR ws_3)],
  [DV.i t.tx], [DV.i t.page, DV.i t.slot]] ∧ fk (ile g.mode (modeX hs_3 t)) (k (.t [.r [.sl [.i .i64, .i .i64, .i .i64, .i .i64], .sl [.i .i64, .i .i64, .i .i64, .i .i64]] [DV.sl (gsR hs), DV.sl (gsR ws)], .c (.b true),
  .c (.i .i64 0)]) [] 0) (fk (ieq (wr .i64 (xadd (ln (gsR hs)) (ln (gsR ws)))) 1024) (k (.t [.r [.sl [.i .i64, .i .i64, .i .i64, .i .i64], .sl [.i .i64, .i .i64, .i .i64, .i .i64]] [DV.sl [], DV.sl []], .c (.b false), .c
  (.i .i64 21)]) [] 0) (fk (apOk 32 [] (gsR hs)) (fk (apOk 32 [] (gsR ws)) (∃ hs_4 ws_4 g_2, LkV hs_4 ws_4 ∧ [[DV.sl (gsR hs), DV.sl (gsR ws)], [DV.i g.tx, DV.i g.page, DV.i g.slot, DV.i g.mode]] = [[DV.sl (gsR hs_4),
  DV.sl (gsR ws_4)], [DV.i g_2.tx, DV.i g_2.page, DV.i g_2.slot, DV.i g_2.mode]] ∧ fk (an (ile 0 (Int.ofNat (plcX hs_4 ws_4 g_2))) (ile (Int.ofNat (plcX hs_4 ws_4 g_2)) (ln (gsR ws)))) (fk (apOk 32 (gsR ws) [[DV.i g.tx,
  DV.i g.page, DV.i g.slot, DV.i g.mode]]) (∃ hs_5 ws_5, SetV hs_5 ws_5 ∧ gsR hs = gsR hs_5 ∧ lins (gsR ws) (Int.ofNat (plcX hs_4 ws_4 g_2)) [DV.i g.tx, DV.i g.page, DV.i g.slot, DV.i g.mode] = gsR ws_5 ∧ ∃ hs ws t, LkS
  hs ∧ [[DV.sl (gsR (setH hs_5 ws_5)), DV.sl (gsR (setW hs_5 ws_5))], [DV.i g.tx], [DV.i g.page, DV.i g.slot]] = [[DV.sl (gsR hs), DV.sl (gsR ws)], [DV.i t.tx], [DV.i t.page, DV.i t.slot]] ∧ k (.t [.r [.sl [.i .i64, .i
  .i64, .i .i64, .i .i64], .sl [.i .i64, .i .i64, .i .i64, .i .i64]] [DV.sl (gsR (setH hs_5 ws_5)), DV.sl (gsR (setW hs_5 ws_5))], .c (.b (ile g.mode (modeX hs t))), .c (.i .i64 0)]) [] 0) False) False) False)
  False)))))) := by kernel_rfl
theorem putF_len (g : G) : ∀ hs : List G, (putF g hs).length ≤ hs.length + 1
  | [] => Nat.le_refl _
  | x :: l => by
    have := putF_len g l
    unfold putF
    split
    · simp only [List.length_cons]; omega
    · split <;> simp only [List.length_cons] <;> omega
theorem Sts_len {hs ws hs' ws' : List G} (h : Sts hs ws hs' ws') : hs'.length + ws'.length ≤ hs.length + ws.length := by
  induction h with
  | refl => exact Nat.le_refl _
  | @step hs p s hs' ws' g hb t ih =>
    have := putF_len g hs
    simp only [List.length_append, List.length_cons] at ih ⊢
    omega
theorem settle_len (hs ws : List G) : (Wp.settle hs ws).1.length + (Wp.settle hs ws).2.length ≤ hs.length + ws.length := Sts_len (settle_sts hs ws)
theorem place_le (hs ws : List G) (g : G) : placeF hs ws g ≤ ws.length := by
  unfold placeF
  split
  · exact Nat.le_refl _
  · cases h : ws.findIdx? (placeP hs g) with
    | none => exact Nat.le_refl _
    | some i => exact Nat.le_of_lt (List.findIdx?_eq_some_iff_getElem.1 h).1
theorem ok64 : CtOk Tryz.prog T64 := by
  refine ct_cons ok122 (fz := true) fun rs k h => ?_
  obtain ⟨hs, ws, g, hv, rfl, hk⟩ := h
  have hl := hv.len
  have tv := hv.v.tv
  have hg : validG g = true := hv.g
  refine ⟨_, _, _, (vc64 hs ws g k).mpr ?_⟩
  have hq : reqF hs ws g = match ws.find? (fun x => x.tx == g.tx) with
    | some w => if sameG w g then some (hs, ws, false) else none
    | none => if g.mode ≤ modeF hs g then some (hs, ws, true) else if hs.length + ws.length = 1024 then none else
      some ((Wp.settle hs (ws.take (placeF hs ws g) ++ g :: ws.drop (placeF hs ws g))).1, (Wp.settle hs (ws.take (placeF hs ws g) ++ g :: ws.drop (placeF hs ws g))).2, decide (g.mode ≤ modeF (Wp.settle hs (ws.take (placeF hs ws g) ++ g :: ws.drop (placeF hs ws g))).1 g)) := by
    unfold reqF
    rw [hv.v.v, hg]
    rfl
  refine ⟨hs, ws, hv.v, rfl, g, rfl, fk_n (by rw [nt_F]; exact hg) ⟨hs, ws, g.tx, hv.v, rfl, ?_⟩⟩
  cases hf : ws.find? (fun x => x.tx == g.tx) with
  | some w =>
    have e1 : wtB ws g.tx = true := List.any_eq_true.2 ⟨w, List.mem_of_find?_eq_some hf, List.find?_some (p := fun x : G => x.tx == g.tx) hf⟩
    have e2 : wtR ws g.tx = gR w := by unfold wtR; rw [hf]
    rw [hf] at hq
    dsimp only at hq
    rw [e1, e2, gR_0, gR_1, gR_2, gR_3]
    have hs' : sameG w g = an (ieq w.tx g.tx) (an (ieq w.page g.page) (an (ieq w.slot g.slot) (an (ieq w.mode g.mode) true))) := by
      unfold sameG sameLock an ieq
      simp only [Bool.and_true, Bool.and_assoc]
      rfl
    refine fk_t rfl (fk_of (fun e => ?_) fun e => fk_t rfl ?_)
    · have e : sameG w g = false := by rw [hs']; exact nt_t e
      rw [if_neg (by rw [e]; exact Bool.false_ne_true)] at hq
      have e3 : reqE hs ws g = false := by unfold reqE; rw [hq]
      rw [e3] at hk; exact hk
    · have e : sameG w g = true := by rw [hs']; exact nt_f e
      rw [if_pos e] at hq
      have e3 : reqE hs ws g = true := by unfold reqE; rw [hq]
      have e4 : reqH hs ws g = hs := by unfold reqH; rw [hq]
      have e5 : reqW hs ws g = ws := by unfold reqW; rw [hq]
      have e6 : reqO hs ws g = false := by unfold reqO; rw [hq]
      rw [e3, e4, e5, e6] at hk; exact hk
  | none =>
    have hno : ∀ x ∈ ws, x.tx ≠ g.tx := fun x hx => by simpa using List.find?_eq_none.1 hf x hx
    have e1 : wtB ws g.tx = false := by
      unfold wtB
      rw [List.any_eq_false]
      intro x hx
      simpa using hno x hx
    rw [hf] at hq
    dsimp only at hq
    have rest : ∀ (R : Prop), R = R → True := fun _ _ => trivial
    have body : ∃ hs_3 ws_3 t, LkS hs_3 ∧ [[DV.sl (gsR hs), DV.sl (gsR ws)], [DV.i g.tx], [DV.i g.page, DV.i g.slot]] = [[DV.sl (gsR hs_3), DV.sl (gsR ws_3)], [DV.i t.tx], [DV.i t.page, DV.i t.slot]] ∧ fk (ile g.mode (modeX hs_3 t)) (k (.t [.r [.sl [.i .i64, .i .i64, .i .i64, .i .i64], .sl [.i .i64, .i .i64, .i .i64, .i .i64]] [DV.sl (gsR hs), DV.sl (gsR ws)], .c (.b true), .c (.i .i64 0)]) [] 0) (fk (ieq (wr .i64 (xadd (ln (gsR hs)) (ln (gsR ws)))) 1024) (k (.t [.r [.sl [.i .i64, .i .i64, .i .i64, .i .i64], .sl [.i .i64, .i .i64, .i .i64, .i .i64]] [DV.sl [], DV.sl []], .c (.b false), .c (.i .i64 21)]) [] 0) (fk (apOk 32 [] (gsR hs)) (fk (apOk 32 [] (gsR ws)) (∃ hs_4 ws_4 g_2, LkV hs_4 ws_4 ∧ [[DV.sl (gsR hs), DV.sl (gsR ws)], [DV.i g.tx, DV.i g.page, DV.i g.slot, DV.i g.mode]] = [[DV.sl (gsR hs_4), DV.sl (gsR ws_4)], [DV.i g_2.tx, DV.i g_2.page, DV.i g_2.slot, DV.i g_2.mode]] ∧ fk (an (ile 0 (Int.ofNat (plcX hs_4 ws_4 g_2))) (ile (Int.ofNat (plcX hs_4 ws_4 g_2)) (ln (gsR ws)))) (fk (apOk 32 (gsR ws) [[DV.i g.tx, DV.i g.page, DV.i g.slot, DV.i g.mode]]) (∃ hs_5 ws_5, SetV hs_5 ws_5 ∧ gsR hs = gsR hs_5 ∧ lins (gsR ws) (Int.ofNat (plcX hs_4 ws_4 g_2)) [DV.i g.tx, DV.i g.page, DV.i g.slot, DV.i g.mode] = gsR ws_5 ∧ ∃ hs ws t, LkS hs ∧ [[DV.sl (gsR (setH hs_5 ws_5)), DV.sl (gsR (setW hs_5 ws_5))], [DV.i g.tx], [DV.i g.page, DV.i g.slot]] = [[DV.sl (gsR hs), DV.sl (gsR ws)], [DV.i t.tx], [DV.i t.page, DV.i t.slot]] ∧ k (.t [.r [.sl [.i .i64, .i .i64, .i .i64, .i .i64], .sl [.i .i64, .i .i64, .i .i64, .i .i64]] [DV.sl (gsR (setH hs_5 ws_5)), DV.sl (gsR (setW hs_5 ws_5))], .c (.b (ile g.mode (modeX hs t))), .c (.i .i64 0)]) [] 0) False) False) False) False)) := by
      refine ⟨hs, ws, g, hv.v.s, rfl, fk_of (fun e => ?_) fun e => ?_⟩
      · have e : g.mode ≤ modeF hs g := ile_t e
        rw [if_pos e] at hq
        have e3 : reqE hs ws g = true := by unfold reqE; rw [hq]
        have e4 : reqH hs ws g = hs := by unfold reqH; rw [hq]
        have e5 : reqW hs ws g = ws := by unfold reqW; rw [hq]
        have e6 : reqO hs ws g = true := by unfold reqO; rw [hq]
        rw [e3, e4, e5, e6] at hk; exact hk
      · have e : modeF hs g < g.mode := ile_f e
        rw [if_neg (Int.not_le.2 e), if_neg (by omega)] at hq
        have hpl := place_le hs ws g
        have hlen : (ws.take (placeF hs ws g) ++ g :: ws.drop (placeF hs ws g)).length = ws.length + 1 := by
          rw [List.length_append, List.length_cons, List.length_take, List.length_drop]; omega
        have t2 : TV hs (ws.take (placeF hs ws g) ++ g :: ws.drop (placeF hs ws g)) := TV.ins (by rw [List.take_append_drop]; exact tv) hg e fun x hx => by
          rw [List.take_append_drop] at hx
          exact hno x hx
        have sl := settle_len hs (ws.take (placeF hs ws g) ++ g :: ws.drop (placeF hs ws g))
        have e3 : reqE hs ws g = true := by unfold reqE; rw [hq]
        have e4 : reqH hs ws g = setH hs (ws.take (placeF hs ws g) ++ g :: ws.drop (placeF hs ws g)) := by unfold reqH; rw [hq]; rfl
        have e5 : reqW hs ws g = setW hs (ws.take (placeF hs ws g) ++ g :: ws.drop (placeF hs ws g)) := by unfold reqW; rw [hq]; rfl
        have e6 : reqO hs ws g = ile g.mode (modeF (setH hs (ws.take (placeF hs ws g) ++ g :: ws.drop (placeF hs ws g))) g) := by unfold reqO; rw [hq]; rfl
        rw [e3, e4, e5, e6] at hk
        refine fk_n (by (first | rfl | (simp (disch := omega) only [FS, eq_self, List.length_cons, List.length_nil, true_and, and_true, ssz, xadd, xsub, xmul, xmin, xmax] <;> omega) | omega)) (fk_t ?_ (fk_t ?_ ⟨hs, ws, g, hv.v, rfl, fk_t ?_ (fk_t ?_ ⟨hs, _, ⟨tv.srt, by omega⟩, rfl, gs_ins ws (placeF hs ws g) g, _, _, g, ⟨(settle_tv t2).srt, by show (Wp.settle _ _).1.length ≤ _; omega⟩, rfl, hk⟩)⟩))
        · unfold apOk; rw [gs_len]; simp only [Bool.and_eq_true, decide_eq_true_eq, List.length_nil]; omega
        · unfold apOk; rw [gs_len]; simp only [Bool.and_eq_true, decide_eq_true_eq, List.length_nil]; omega
        · show an (ile 0 (Int.ofNat (placeF hs ws g))) (ile (Int.ofNat (placeF hs ws g)) (ln (gsR ws))) = true
          (first | rfl | (simp (disch := omega) only [FS, eq_self, List.length_cons, List.length_nil, true_and, and_true, ssz, xadd, xsub, xmul, xmin, xmax] <;> omega) | omega)
        · unfold apOk; rw [gs_len]; simp only [Bool.and_eq_true, decide_eq_true_eq, List.length_cons, List.length_nil]; omega
    rw [e1]
    refine fk_n rfl (fk_n rfl body)
end Go.Proofs.YtgjindhjgmplgaaGreat
