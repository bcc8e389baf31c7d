/-
  The law's last check, at each state; the check whether codes are left.
-/
import Derived.Test.YtjnfgapfhpihmaaGreatSeA
import Derived.Test.YtjnfgapfhpihmaaGreatSfV
set_option linter.unusedVariables false
set_option linter.unusedSimpArgs false
section
set_option maxRecDepth 100000
namespace Go.Proofs.YtjnfgapfhpihmaaGreat
open Go.RowKit
noncomputable def tblP2 : Tab := tabOf [(⟨.x0, .x6, .x5⟩, c101), (⟨.x0, .xb, .x5⟩, c181), (⟨.x0, .xb, .x6⟩, c182), (⟨.x0, .xf, .x4⟩, c244)]
theorem tblP2_ok {E : Env} : TabOk Tryz.prog E tblP2 := tab_cons (tab_cons (tab_cons (tab_cons tab_nil e244) e182) e181) e101
def FP2 : List Fc := [.rng (.v (nat_lit 0)) 0 63, .rng (.v (nat_lit 1)) 1 4000]
theorem runP2a : isTrue (callBy tblP2 (aev Tryz.prog (envR FP) tblP2 (nat_lit 60)) ⟨.x0, .x6, .x5⟩ [.a pgS] hp0) = true := by kernel_rfl
theorem runP2b : isTrue (callBy tblP2 (aev Tryz.prog (envR FP2) tblP2 (nat_lit 60)) ⟨.x0, .x6, .x5⟩ [.a pgU] hp0) = true := by kernel_rfl
theorem runP2c : isTrue (callBy tblP2 (aev Tryz.prog (envR [.rng (.v (nat_lit 0)) 0 63]) tblP2 (nat_lit 60)) ⟨.x0, .x6, .x5⟩ [.a (pgA (.si .i64 (.v (nat_lit 0))) (.i .i64 (.ofNat (nat_lit 0))) (.b false) (.s []))] hp0) = true := by kernel_rfl
theorem natP2_ok (F : List Fc) : NatOk Tryz.prog (envR F) 101 (natCs7 F) := by
  intro vs v hv ρ φ h w us he hr hu
  have hp := envR_prop he
  unfold natCs7 at hv
  split at hv
  · rename_i l
    cases hb : page7 F l with
    | false => rw [hb] at hv; cases hv
    | true =>
      rw [hb] at hv
      cases hv
      cases hu with
      | cons a1 t1 =>
        cases t1
        obtain ⟨xs, rfl, hx⟩ := a1
        obtain ⟨id, lsn, bb, ss, rfl, h0, h1, hc⟩ := page7_ok hp.1 hp.2 hb hx
        rcases hc with ⟨g1, g2, rfl, rfl⟩ | ⟨g1, g2, rfl, g3⟩
        · by_cases hz : lsn = 0
          · subst hz
            exact true_run (b := bP id 0 ⟨#[]⟩) (g := gIf) (eval_ok tblP2_ok mixedS (nat_lit 60)) runP2c hr (facts_cons ⟨h0, h1⟩ facts_nil) (.cons ⟨_, rfl, pgA_all rfl rfl rfl ⟨⟨#[]⟩, rfl, rfl⟩⟩ .nil)
          · exact true_run (b := bP id lsn ⟨#[]⟩) (g := gIf) (eval_ok tblP2_ok mixedS (nat_lit 60)) runP2b hr (facts_cons ⟨h0, h1⟩ (facts_cons ⟨(by show (1 : Int) ≤ lsn; omega), g2⟩ facts_nil)) (.cons ⟨_, rfl, pgA_all rfl rfl rfl ⟨⟨#[]⟩, rfl, rfl⟩⟩ .nil)
        · exact true_run (b := bP id lsn ss) (g := gIf) (eval_ok tblP2_ok mixedS (nat_lit 60)) runP2a hr (FP_ok h0 h1 g1 g2 g3) (.cons ⟨_, rfl, pgA_all rfl rfl rfl rfl⟩ .nil)
  · cases hv
def uCells : List AC := [.i .i64 (.ofNat (nat_lit 1)), .i .i64 (.ofNat (nat_lit 1)), .si .i64 (.v (nat_lit 1)), .i .i64 (.ofNat (nat_lit 0)), .ds shI (.v (nat_lit 0)), .sn]
def uS0 : Lit := ⟨[(.x0, .x0, .a uCells)], [], bN .x0⟩
def uS1 : Lit := ⟨[(.x0, .x1, .c (.p (bN .x0) (nat_lit 0))), (.x0, .x2, .c (.b false))], [(bN .x0, .cells uCells)], bN .x1⟩
def uSH : Lit := ⟨[(.x0, .x1, .c (.p (bN .x0) (nat_lit 0))), (.x0, .x2, .c (.b false)), (.x0, .x3, .c (.si .i64 (.v (nat_lit 2))))], [(bN .x0, .cells uCells)], bN .x1⟩
def uSE : Lit := ⟨[(.x0, .x2, .c (.b true))], [], bN .x0⟩
def uR1 : Rn := ⟨[(1, .v 1)], [], [], [(0, .v 0)], []⟩
def uR2 : Rn := ⟨[(1, .v 1), (2, .num (.ofNat 0))], [], [], [(0, .v 0)], []⟩
def uRA : Rn := ⟨[(1, .v 1), (2, .num (.ofNat 1))], [], [], [(0, .v 0)], []⟩
def uRB : Rn := ⟨[(1, .v 1), (2, .f2 1000 (.v 2) (.num (.ofNat 1)))], [], [], [(0, .v 0)], []⟩
def uRE : Rn := ⟨[], [], [], [], []⟩
def uF : List Fc := [.rng (.f1 5 (.v 0)) 0 4000, .rng (.v 1) 0 4000]
def uC (t : Nm) : Nm := .f2 100 (.v 0) t
def uP : Nm := .f2 1000 (.v 2) (.num (-1))
def uG0 : List Fc := [.dif (.v 2) (.f1 5 (.v 0)) (-4000) (-1), .rng (uC (.v 2)) 1 4000, .dif (uC (.v 2)) (.v 1) (-4000) 0]
def uGA : List Fc := .rng (.v 2) 0 0 :: uG0
def uGB : List Fc := .rng (.v 2) 1 4000 :: (uG0 ++ [.rng (uC uP) 1 4000, .dif (uC uP) (uC (.v 2)) (-4000) (-1)])
def uGx : List Fc := [.rng (.v 2) 0 4000, .dif (.v 2) (.f1 5 (.v 0)) 0 0]
def uBody : ACd := bodyA c106
def uRes : List AR := resA c106
def uX : ACd := cutR 3 uBody
def uRi : ACd := fstA (fstA uX)
def uB : ACd := innA (innA (sndA (fstA uX)))
def uRe : ACd := sndA uX
theorem uX_eq : uX = .seq (.seq uRi (.block (nat_lit 0) (.loop uB))) uRe := by kernel_rfl
theorem uCut : cutA 3 uBody = some (cutL 3 uBody, uX) := by kernel_rfl
noncomputable def tbl0 : Tab := tabOf []
theorem tbl0_ok {E : Env} : TabOk Tryz.prog E tbl0 := tab_nil
theorem code0 (F : List Fc) (n : Nat) : CodeOk Tryz.prog (envR F) tbl0 n := code_ok tbl0_ok (draw_ok mixedS) n
theorem uRun1 : endsX .nrm uR1.nms uS1 (runL Tryz.prog (envR uF) tbl0 (nat_lit 60) (cutL 3 uBody) uS0.frame uS0.hp) = true := by kernel_rfl
theorem uRun2 : endsX .nrm uR2.nms uSH (aev Tryz.prog (envR uF) tbl0 (nat_lit 60) uRi uS1.frame uS1.hp) = true := by kernel_rfl
theorem uRunA : endsX .nrm uRA.nms uSH (aev Tryz.prog (envR (uF ++ uGA)) tbl0 (nat_lit 60) uB uSH.frame uSH.hp) = true := by kernel_rfl
theorem uRunB : endsX .nrm uRB.nms uSH (aev Tryz.prog (envR (uF ++ uGB)) tbl0 (nat_lit 60) uB uSH.frame uSH.hp) = true := by kernel_rfl
theorem uRunX : endsX (.ex (nat_lit 0)) uR1.nms uS1 (aev Tryz.prog (envR (uF ++ uGx)) tbl0 (nat_lit 60) uB uSH.frame uSH.hp) = true := by kernel_rfl
theorem uRunE : endsX .ret uRE.nms uSE (aev Tryz.prog (envR uF) tbl0 (nat_lit 60) uRe uS1.frame uS1.hp) = true := by kernel_rfl
theorem uSays : saysTrue uRes uSE = true := by kernel_rfl
section
variable {w0 : World} {N : Nat} {g : Nm → Value} {z : Nat → Option Obj} {d : List (List DV)} {top : Int} {b : Nat → MV}
structure UJ (d : List (List DV)) (top : Int) (b : Nat → MV) : Prop where
  y : (b 0).d = d
  m : (b 1).i = top
structure UH (d : List (List DV)) (top : Int) (b : Nat → MV) : Prop extends UJ d top b where
  i0 : 0 ≤ (b 2).i
  i1 : (b 2).i ≤ d.length
theorem uF_ok (hd : Asc d top) (hm : 0 ≤ top) (h : UJ d top b) : ∀ f ∈ uF, f.holds QR (vb b g z) := by
  have hl := hd.1
  have ht := hd.2.1
  have h0 := h.y
  have h1 := h.m
  exact facts_cons (f := .rng (.f1 5 (.v 0)) 0 4000) ⟨Int.natCast_nonneg _, (by show (((b 0).d.length : Nat) : Int) ≤ 4000; rw [h0]; omega)⟩ (facts_cons (f := .rng (.v 1) 0 4000) (show 0 ≤ (b 1).i ∧ (b 1).i ≤ 4000 by omega) facts_nil)
theorem uRound (hd : Asc d top) (hm : 0 ≤ top) (b : Nat → MV) : Tri Tryz.prog N uB (fun a w => UH d top b ∧ At w0 N (vb b g z) uSH a w) fun e a w => (e = .normal ∧ ∃ b', d.length - (b' 2).i.toNat < d.length - (b 2).i.toNat ∧ UH d top b' ∧ At w0 N (vb b' g z) uSH a w) ∨ (e ≠ .normal ∧ (e = .exit 0 ∧ ∃ b', UJ d top b' ∧ At w0 N (vb b' g z) uS1 a w)) := by
  refine Tri.imp fun h => ?_
  have base := uF_ok (g := g) (z := z) hd hm h.toUJ
  obtain ⟨hl, ht, ns, hns, hp, hb⟩ := hd
  have hi0 := h.i0
  have hi1 := h.i1
  have hmm := h.m
  obtain ⟨i, hi⟩ := Int.eq_ofNat_of_zero_le h.i0
  have hlen : ns.length = d.length := by rw [hns, List.length_map]
  by_cases hlt : (b 2).i < d.length
  · have hin : i < ns.length := by omega
    have hrow : d[i]? = some [DV.i ns[i]] := by rw [hns, List.getElem?_map, List.getElem?_eq_getElem hin]; rfl
    have hy : ((vb b g z).d (.v 0))[i]? = some [DV.i ns[i]] := (congrArg (fun x : List (List DV) => x[i]?) h.y).trans hrow
    have hi' : (vb b g z).i (.v 2) = i := hi
    have hc0 : (vb b g z).i (uC (.v 2)) = ns[i] := ci_row hy hi' 0 (by decide) rfl
    have hbi := hb ns[i] (List.getElem_mem hin)
    have f1 : ∀ f ∈ uG0, f.holds QR (vb b g z) := facts_cons (f := .dif (.v 2) (.f1 5 (.v 0)) (-4000) (-1)) (show (-4000 : Int) ≤ (b 2).i - (((b 0).d.length : Nat) : Int) ∧ (b 2).i - (((b 0).d.length : Nat) : Int) ≤ -1 by rw [h.y]; omega)
      (facts_cons (f := .rng (uC (.v 2)) 1 4000) (show (1 : Int) ≤ (vb b g z).i (uC (.v 2)) ∧ (vb b g z).i (uC (.v 2)) ≤ 4000 by rw [hc0]; omega) (facts_cons (f := .dif (uC (.v 2)) (.v 1) (-4000) 0) (show (-4000 : Int) ≤ (vb b g z).i (uC (.v 2)) - (b 1).i ∧ (vb b g z).i (uC (.v 2)) - (b 1).i ≤ 0 by rw [hc0]; omega) facts_nil))
    by_cases h0 : i = 0
    · subst h0
      refine (Tri.runX (code0 _ _) (envR_ok (facts_app base (G := uGA) (facts_cons (f := .rng (.v 2) 0 0) (show 0 ≤ (b 2).i ∧ (b 2).i ≤ 0 by omega) f1))) uRunA (ren_nb (by decide))).post fun e a w hq => .inl ⟨hq.1, nb b uRA, ?_, ⟨⟨h.y, h.m⟩, (by show (0 : Int) ≤ 1; omega), (by show (1 : Int) ≤ d.length; omega)⟩, hq.2⟩
      have : (nb b uRA 2).i = 1 := rfl
      rw [this]; omega
    · have hin' : i - 1 < ns.length := by omega
      have hrow' : d[i - 1]? = some [DV.i ns[i - 1]] := by rw [hns, List.getElem?_map, List.getElem?_eq_getElem hin']; rfl
      have hy' : ((vb b g z).d (.v 0))[i - 1]? = some [DV.i ns[i - 1]] := (congrArg (fun x : List (List DV) => x[i - 1]?) h.y).trans hrow'
      have hi2 : (vb b g z).i uP = ((i - 1 : Nat) : Int) := by show (b 2).i + -1 = _; omega
      have hc1 : (vb b g z).i (uC uP) = ns[i - 1] := ci_row hy' hi2 0 (by decide) rfl
      have hbj := hb ns[i - 1] (List.getElem_mem hin')
      have hpp : ns[i - 1] < ns[i] := List.pairwise_iff_getElem.1 hp (i - 1) i hin' hin (by omega)
      refine (Tri.runX (code0 _ _) (envR_ok (facts_app base (G := uGB) (facts_cons (f := .rng (.v 2) 1 4000) (show 1 ≤ (b 2).i ∧ (b 2).i ≤ 4000 by omega) (facts_app f1 (facts_cons (f := .rng (uC uP) 1 4000) (show (1 : Int) ≤ (vb b g z).i (uC uP) ∧ (vb b g z).i (uC uP) ≤ 4000 by rw [hc1]; omega) (facts_cons (f := .dif (uC uP) (uC (.v 2)) (-4000) (-1)) (show (-4000 : Int) ≤ (vb b g z).i (uC uP) - (vb b g z).i (uC (.v 2)) ∧ (vb b g z).i (uC uP) - (vb b g z).i (uC (.v 2)) ≤ -1 by rw [hc0, hc1]; omega) facts_nil)))))) uRunB (ren_nb (by decide))).post fun e a w hq => .inl ⟨hq.1, nb b uRB, ?_, ⟨⟨h.y, h.m⟩, (by show 0 ≤ (b 2).i + 1; omega), (by show (b 2).i + 1 ≤ d.length; omega)⟩, hq.2⟩
      have : (nb b uRB 2).i = (b 2).i + 1 := rfl
      rw [this]; omega
  · exact (Tri.runX (code0 _ _) (envR_ok (facts_app base (G := uGx) (facts_cons (f := .rng (.v 2) 0 4000) (show 0 ≤ (b 2).i ∧ (b 2).i ≤ 4000 by omega) (facts_cons (f := .dif (.v 2) (.f1 5 (.v 0)) 0 0) (show (0 : Int) ≤ (b 2).i - (((b 0).d.length : Nat) : Int) ∧ (b 2).i - (((b 0).d.length : Nat) : Int) ≤ 0 by rw [h.y]; omega) facts_nil)))) uRunX (ren_nb (by decide))).post fun e a w hq => .inr ⟨by rw [hq.1]; exact fun h => (nomatch h), hq.1, nb b uR1, ⟨h.y, h.m⟩, hq.2⟩
theorem v12_tri (hd : Asc d top) (hm : 0 ≤ top) (h : UJ d top b) : Tri Tryz.prog N uBody (At w0 N (vb b g z) uS0) fun e a w => e = .ret ∧ ∃ ρ' s', saysTrue uRes s' = true ∧ At w0 N ρ' s' a w := by
  refine Tri.pre_runX (code0 _ _) (envR_ok (uF_ok hd hm h)) uCut uRun1 (ren_nb (by decide)) ?_
  have hj : UJ d top (nb b uR1) := ⟨h.y, h.m⟩
  rw [uX_eq]
  refine Tri.seq (Mid := fun a w => ∃ b', UJ d top b' ∧ At w0 N (vb b' g z) uS1 a w) ?_ ?_
  · refine Tri.seq (Mid := fun a w => ∃ b', UH d top b' ∧ At w0 N (vb b' g z) uSH a w) ?_ ?_
    · exact (Tri.runX (code0 _ _) (envR_ok (uF_ok hd hm hj)) uRun2 (ren_nb (by decide))).post fun e a w hq => .inl ⟨hq.1, nb (nb b uR1) uR2, ⟨⟨hj.y, hj.m⟩, (by show (0 : Int) ≤ 0; decide), (by show (0 : Int) ≤ d.length; omega)⟩, hq.2⟩
    · refine (Tri.block (Post := fun e a w => e = .normal ∧ ∃ b', UJ d top b' ∧ At w0 N (vb b' g z) uS1 a w) ?_).post fun e a w hq => .inl hq
      exact (Tri.loop (fun b : Nat → MV => d.length - (b 2).i.toNat) (fun b a w => UH d top b ∧ At w0 N (vb b g z) uSH a w) fun b => uRound hd hm b).post fun e a w hq => .inl ⟨.inr hq.1, rfl, hq.2⟩
  · refine Tri.ex fun b' => Tri.imp fun hb' => ?_
    exact (Tri.runX (code0 _ _) (envR_ok (uF_ok hd hm hb')) uRunE (ren_nb (by decide))).post fun e a w hq => ⟨hq.1, _, _, uSays, hq.2⟩
end
def natV12 (F : List Fc) : List AV → Option AV
  | [.a [t, s, m, u, .ds e y, .sn]] => (match nmI m with
    | some x => bif (decide (t = .i .i64 (.ofNat 1)) && (decide (s = .i .i64 (.ofNat 1)) && (decide (u = .i .i64 (.ofNat 0)) && decide (e = shI)))) && ((isI64 x.1 && fdP F 3 [y, x.2]) && numIn F m 0 4000) then some (.c (.b true)) else none
    | none => none)
  | _ => none
theorem natV12_ok (F : List Fc) : NatOk Tryz.prog (envR F) 106 (natV12 F) := by
  intro vs v hv ρ φ h w us he hr hu
  have hp := envR_prop he
  unfold natV12 at hv
  split at hv
  · rename_i t s m u e y
    split at hv
    · rename_i x hx
      cases hc : ((decide (t = .i .i64 (.ofNat 1)) && (decide (s = .i .i64 (.ofNat 1)) && (decide (u = .i .i64 (.ofNat 0)) && decide (e = shI)))) && ((isI64 x.1 && fdP F 3 [y, x.2]) && numIn F m 0 4000)) with
      | false => rw [hc] at hv; cases hv
      | true =>
        rw [hc] at hv
        cases hv
        simp only [Bool.and_eq_true, decide_eq_true_eq] at hc
        obtain ⟨⟨rfl, rfl, rfl, rfl⟩, ⟨k1, k2⟩, k3⟩ := hc
        have hasc : Asc (ρ.d y) (ρ.i x.2) := fdP_ok hp.2 k2
        cases hu with
        | cons a1 t1 =>
          cases t1
          obtain ⟨xs, rfl, hxs⟩ := a1
          cases hxs with
          | cons y1 t1 =>
            cases t1 with
            | cons y2 t2 =>
              cases t2 with
              | cons y3 t3 =>
                cases t3 with
                | cons y4 t4 =>
                  cases t4 with
                  | cons y5 t5 =>
                    cases t5 with
                    | cons y6 t6 =>
                      cases t6
                      obtain ⟨mi, rfl, m0, m1⟩ := numIn_ok hp.1 hp.2 k3 y3
                      have em : mi = ρ.i x.2 := by
                        have := nmI_ok hp.1.toStdA hx y3
                        injection this
                      exact true_of (b := fun j => if j = 0 then { d := ρ.d y } else { i := ρ.i x.2 }) (g := gIf) (s0 := uS0) (ac := uBody) (res := uRes) (args := [.a uCells]) Tryz.func106 (by kernel_rfl) ⟨_, rfl, rfl⟩ rfl hr (.cons ⟨_, rfl, .cons y1 (.cons y2 (.cons (by rw [em]; rfl) (.cons y4 (.cons y5 (.cons y6 .nil)))))⟩ .nil) (v12_tri hasc (by omega) ⟨rfl, rfl⟩)
    · cases hv
  · cases hv
end Go.Proofs.YtjnfgapfhpihmaaGreat
end
section
set_option maxRecDepth 100000
namespace Go.Proofs.YtjnfgapfhpihmaaGreat
open Go.RowKit
theorem entJ6 (args : Array Value) (w : World) : (callFunc 41 args).run Tryz.prog w = .ok (.enter 41 args) w := enter_run Tryz.func41 (by kernel_rfl) rfl args w
theorem entV12 (args : Array Value) (w : World) : (callFunc 106 args).run Tryz.prog w = .ok (.enter 106 args) w := enter_run Tryz.func106 (by kernel_rfl) rfl args w
theorem entP2 (args : Array Value) (w : World) : (callFunc 101 args).run Tryz.prog w = .ok (.enter 101 args) w := enter_run Tryz.func101 (by kernel_rfl) rfl args w
noncomputable def tblF (F : List Fc) : Tab := tabOf [(⟨.x0, .x2, .x9⟩, .nat (natJV F)), (⟨.x0, .x6, .xa⟩, .nat (natV12 F)), (⟨.x0, .x2, .xb⟩, .nat (natLV F)), (⟨.x0, .x6, .x5⟩, .nat (natCs7 F)), (⟨.x0, .x0, .xb⟩, c11), (⟨.x0, .x1, .x4⟩, c20), (⟨.x0, .x1, .x5⟩, c21), (⟨.x0, .x2, .xa⟩, c42), (⟨.x0, .x2, .xc⟩, c44), (⟨.x0, .x2, .xd⟩, c45), (⟨.x0, .x2, .xe⟩, c46), (⟨.x0, .x6, .xb⟩, c107), (⟨.x0, .x0, .x8⟩, c8)]
theorem tblF_ok (F : List Fc) : TabOk Tryz.prog (envR F) (tblF F) := tab_cons (tab_cons (tab_cons (tab_cons (tab_cons (tab_cons (tab_cons (tab_cons (tab_cons (tab_cons (tab_cons (tab_cons (tab_cons tab_nil e8) e107) e46) e45) e44) e42) e21) e20) e11) (nat_ok entP2 (natP2_ok F))) (nat_ok entRV (natRV_ok F))) (nat_ok entV12 (natV12_ok F))) (nat_ok entJ6 (natJV6_ok F))
theorem codeF (F : List Fc) (n : Nat) : CodeOk Tryz.prog (envR F) (tblF F) n := code_ok (tblF_ok F) (draw_ok mixedS) n
def c0 (n k q : Nat) : Cs := ⟨n, k, q, 0, 0, 0⟩
noncomputable def fEnd (n k q L : Nat) : List Fc := factsH (.v 7) (.ofNat (Nat.pred n)) L ++ fHead (c0 n k q)
def sTrue : Lit := ⟨[(.x0, .x4, .c (.b true))], [], bN .x0⟩
theorem mSays : saysTrue mRes sTrue = true := by kernel_rfl
noncomputable def runE (n k q L : Nat) : Bool := endsX .ret (Rn.nms ⟨[], [], [], [], []⟩) sTrue (aev Tryz.prog (envR (fEnd n k q L)) (tblF (fEnd n k q L)) (nat_lit 300) mEnd (headS n k q).frame (headS n k q).hp)
noncomputable def runEs (n k q m : Nat) : Bool := @Nat.rec (fun _ => Bool) true (fun L ih => runE n k q L && ih) m
theorem runEs_at {n k q : Nat} : ∀ {m : Nat}, runEs n k q m = true → ∀ L, L < m → runE n k q L = true
  | 0, _, L, hL => absurd hL (Nat.not_lt_zero _)
  | m + 1, h, L, hL => by
    have h' : (runE n k q m && runEs n k q m) = true := h
    rw [Bool.and_eq_true] at h'
    by_cases e : L = m
    · rw [e]; exact h'.1
    · exact runEs_at h'.2 L (by omega)
noncomputable def rnI (n : Nat) : Rn := ⟨[(2, .v 2), (3, .v 3), (4, .v 4), (5, .v 5), (6, .v 6), (8, .v 8)] ++ upN (fun i => (Nat.add 100 i, nX i)) n, (10, .v 10) :: (upN (fun i => (Nat.add 110 i, nV i)) n ++ upN (fun i => (Nat.add 130 i, nD i)) n), upN (fun i => (Nat.add 120 i, nC i)) n, [(0, .v 0), (1, .v 1), (7, .v 7), (11, .v 11), (50, .v 50)], []⟩
def fNone : List Fc := [.rng (.f2 1 (.f1 5 (.v 50)) (.v 8)) 0 0]
noncomputable def runX (n k q : Nat) : Bool := ((rnI n).ok && (rnI n).idEx []) && endsX (.ex (nat_lit 0)) (rnI n).nms (headS n k q) (aev Tryz.prog (envR fNone) (tblF fNone) (nat_lit 300) mLB (headS n k q).frame (headS n k q).hp)
noncomputable def runZ (n k q : Nat) : Bool := runX n k q && runEs n k q (Nat.succ n)
theorem z2000 : runZ 2 0 0 = true := by kernel_rfl
theorem z7200 : runZ 7 2 0 = true := by kernel_rfl
theorem z7100 : runZ 7 1 0 = true := by kernel_rfl
end Go.Proofs.YtjnfgapfhpihmaaGreat
end
