/-
  Contracts: pagemendref02.ValidCell, pagemendref06.Valid (printed by a program).
-/
import Derived.Test.YtjnfgapfhpihmaaGreatSt
import Derived.Test.YtjnfgapfhpihmaaGreatSeJ
import Derived.Test.YtjnfgapfhpihmaaGreatKV0
set_option linter.unusedVariables false
set_option linter.unusedSimpArgs false
set_option maxRecDepth 100000
namespace Go.Proofs.YtjnfgapfhpihmaaGreat
open Go.RowKit
noncomputable def tblVd : Tab := tabOf [(B0f4, c244)]
theorem tblVd_ok {E : Env} : TabOk Tryz.prog E tblVd := tab_cons tab_nil e244
theorem runD1 : isTrue (callBy tblVd (aev Tryz.prog (envR FV) tblVd M50) B0f4 [.a [.b true, .ss (.v M0)]] hp0) = true := by kernel_rfl
theorem runD2 : isTrue (callBy tblVd (aev Tryz.prog (envR FV) tblVd M50) B0f4 [.a [.b false, .s []]] hp0) = true := by kernel_rfl
theorem natVD_ok (F : List Fc) : NatOk Tryz.prog (envR F) 244 (natVC F) := by
  intro vs v hv ρ φ h w us he hr hu
  have hp := envR_prop he
  unfold natVC at hv
  split at hv
  · rename_i b d
    cases hc : cellB F b d with
    | false => rw [hc] at hv; cases hv
    | true =>
      rw [hc] at hv
      cases hv
      cases hu with
      | cons a1 t1 =>
        cases t1
        obtain ⟨xs, rfl, hx⟩ := a1
        cases hx with
        | cons x1 t2 =>
          cases t2 with
          | cons x2 t3 =>
            cases t3
            obtain ⟨bb, ss, rfl, rfl, hv⟩ := cellB_ok hp.1 hp.2 hc x1 x2
            have hF : ∀ f ∈ FV, f.holds QR (vb (fun _ => { s := ss }) (fun _ => .bool false) φ.z) := facts_cons ⟨Int.natCast_nonneg _, (by show (ss.size : Int) ≤ 12; have := hv.1; omega)⟩ facts_nil
            cases bb with
            | true => exact true_run (eval_ok tblVd_ok mixedR M50) runD1 hr hF (.cons ⟨_, rfl, .cons rfl (.cons rfl .nil)⟩ .nil)
            | false =>
              rw [hv.2 rfl]
              exact true_run (eval_ok tblVd_ok mixedR M50) runD2 hr hF (.cons ⟨_, rfl, .cons rfl (.cons ⟨⟨#[]⟩, rfl, rfl⟩ .nil)⟩ .nil)
  · cases hv
noncomputable def tblGv (F : List Fc) : Tab := tabOf [(B0f4, .nat (natVC F)), (B063, c99), (B064, c100), (B0b3, c179), (B0b4, c180), (B0f3, c243)]
theorem tblGv_ok (F : List Fc) : TabOk Tryz.prog (envR F) (tblGv F) := tab_cons (tab_cons (tab_cons (tab_cons (tab_cons (tab_cons (tab_nil) e243) e180) e179) e100) e99) (nat_ok (fun args w => (e244 (E := envR F)).1 args w) (natVD_ok F))
theorem codeGv (F : List Fc) (n : Nat) : CodeOk Tryz.prog (envR F) (tblGv F) n := code_ok (tblGv_ok F) (draw_ok mixedR) n
def vS0 : Lit := ⟨[(.x0, .x0, (.a [Z1, .ds (.i .i64 (.i .i64 (.i .i64 (.i .i64 (.i .i64 (.i .i64 (.i .i64 (.i .i64 (.b (.s (.b (.s (.s .nil))))))))))))) (.v M0), .si .i64 (.v M1)]))], [], B000⟩
def vS1 : Lit := ⟨[(.x0, .x1, (.c (.p B000 M0))), (.x0, .x2, (.c (.b false)))], [(B000, (.cells [Z1, .ds (.i .i64 (.i .i64 (.i .i64 (.i .i64 (.i .i64 (.i .i64 (.i .i64 (.i .i64 (.b (.s (.b (.s (.s .nil))))))))))))) (.v M0), .si .i64 (.v M1)]))], B001⟩
def vSH : Lit := ⟨[(.x0, .x1, (.c (.p B000 M0))), (.x0, .x2, (.c (.b false))), (.x0, .x3, (.c (.si .i64 (.v M2))))], [(B000, (.cells [Z1, .ds (.i .i64 (.i .i64 (.i .i64 (.i .i64 (.i .i64 (.i .i64 (.i .i64 (.i .i64 (.b (.s (.b (.s (.s .nil))))))))))))) (.v M0), .si .i64 (.v M1)]))], B001⟩
def vSE : Lit := ⟨[(.x0, .x2, (.c (.b true)))], [], B000⟩
def vF : List Fc := [.rng (.f1 M5 (.v M0)) J0 J4000, .rng (.v M1) J0 J4000, .dif (.v M1) (.f1 M5 (.v M0)) (Int.negSucc M3999) J0]
def vBody : ACd := bodyA c41
def vRes : List AR := resA c41
def vX : ACd := cutR 2 vBody
def vRi : ACd := fstA (fstA vX)
def vB : ACd := innA (innA (sndA (fstA vX)))
def vRe : ACd := sndA vX
theorem vX_eq : vX = .seq (.seq vRi (.block M0 (.loop vB))) vRe := by kernel_rfl
theorem vCut : cutA 2 vBody = some (cutL 2 vBody, vX) := by kernel_rfl
def vR_p : Rn := ⟨[(M1, (.v M1))], [], [], [(M0, (.v M0))], []⟩
def vR_r : Rn := ⟨[(M1, (.v M1)), (M2, (.num J0))], [], [], [(M0, (.v M0))], []⟩
def vR_k1 : Rn := ⟨[(M1, (.v M1)), (M2, (.f2 M1000 (.v M2) (.num J1)))], [], [], [(M0, (.v M0))], []⟩
def vR_x : Rn := ⟨[(M1, (.v M1))], [], [], [(M0, (.v M0))], []⟩
def vR_e : Rn := ⟨[], [], [], [], []⟩
theorem vRun_p : endsAt .nrm [(B000, B000)] vR_p.nms vS1 (runL Tryz.prog (envR vF) (tblGv vF) M60 (cutL 2 vBody) vS0.frame vS0.hp) = true := by kernel_rfl
theorem vRun_r : endsAt .nrm [(B000, B000)] vR_r.nms vSH (aev Tryz.prog (envR vF) (tblGv vF) M60 vRi vS1.frame vS1.hp) = true := by kernel_rfl
def vG1 : List Fc := [.rng (.v M2) J0 J4000, .dif (.v M2) (.f1 M5 (.v M0)) (Int.negSucc M3999) (Int.negSucc M0), .dif (.f2 M100 (.v M0) (.v M2)) (.v M2) J1 J1, .rng (.f2 M100 (.v M0) (.v M2)) J1 J4000, .rng (.f2 M101 (.v M0) (.v M2)) J1 J1, .rng (.f2 M102 (.v M0) (.v M2)) J1 J1, .rng (.f2 M103 (.v M0) (.v M2)) J0 J4000, .dif (.f2 M103 (.v M0) (.v M2)) (.f2 M100 (.v M0) (.v M2)) (Int.negSucc M3999) (Int.negSucc M0), .rng (.f2 M104 (.v M0) (.v M2)) J0 J4000, .dif (.f2 M104 (.v M0) (.v M2)) (.f2 M100 (.v M0) (.v M2)) (Int.negSucc M3999) (Int.negSucc M0), .rng (.f2 M105 (.v M0) (.v M2)) J0 J0, .rng (.f2 M106 (.v M0) (.v M2)) J0 J63, .rng (.f2 M107 (.v M0) (.v M2)) J0 J15, .pr M2 [(.f2 M108 (.v M0) (.v M2)), (.f2 M109 (.v M0) (.v M2))], .pr M2 [(.f2 M110 (.v M0) (.v M2)), (.f2 M111 (.v M0) (.v M2))], .seq (.f2 M112 (.v M0) (.v M2)) (.lit []) true, .rng (.f1 M6 (.f2 M112 (.v M0) (.v M2))) J0 J0, .seq (.lit []) (.f2 M112 (.v M0) (.v M2)) true]
theorem vRun_1 : endsAt .nrm [(B000, B000)] vR_k1.nms vSH (aev Tryz.prog (envR (vF ++ vG1)) (tblGv (vF ++ vG1)) M60 vB vSH.frame vSH.hp) = true := by kernel_rfl
def vG7 : List Fc := [.rng (.v M2) J0 J4000, .dif (.v M2) (.f1 M5 (.v M0)) (Int.negSucc M3999) (Int.negSucc M0), .dif (.f2 M100 (.v M0) (.v M2)) (.v M2) J1 J1, .rng (.f2 M100 (.v M0) (.v M2)) J1 J4000, .rng (.f2 M101 (.v M0) (.v M2)) J7 J7, .rng (.f2 M102 (.v M0) (.v M2)) J0 J0, .rng (.f2 M103 (.v M0) (.v M2)) J0 J0, .rng (.f2 M104 (.v M0) (.v M2)) J0 J0, .rng (.f2 M105 (.v M0) (.v M2)) J0 J4000, .dif (.f2 M105 (.v M0) (.v M2)) (.f2 M100 (.v M0) (.v M2)) (Int.negSucc M3999) (Int.negSucc M0), .rng (.f2 M106 (.v M0) (.v M2)) J0 J63, .rng (.f2 M107 (.v M0) (.v M2)) J0 J0, .bv (.f2 M108 (.v M0) (.v M2)) false, .seq (.f2 M109 (.v M0) (.v M2)) (.lit []) true, .bv (.f2 M110 (.v M0) (.v M2)) false, .seq (.f2 M111 (.v M0) (.v M2)) (.lit []) true, .seq (.f2 M112 (.v M0) (.v M2)) (.lit []) true, .rng (.f1 M6 (.f2 M112 (.v M0) (.v M2))) J0 J0, .seq (.lit []) (.f2 M112 (.v M0) (.v M2)) true, .seq (.lit []) (.f2 M109 (.v M0) (.v M2)) true, .seq (.lit []) (.f2 M111 (.v M0) (.v M2)) true]
theorem vRun_7 : endsAt .nrm [(B000, B000)] vR_k1.nms vSH (aev Tryz.prog (envR (vF ++ vG7)) (tblGv (vF ++ vG7)) M60 vB vSH.frame vSH.hp) = true := by kernel_rfl
def vGx : List Fc := [.rng (.v M2) J0 J4000, .dif (.v M2) (.f1 M5 (.v M0)) J0 J0]
theorem vRun_x : endsAt (.ex M0) [(B000, B000)] vR_x.nms vS1 (aev Tryz.prog (envR (vF ++ vGx)) (tblGv (vF ++ vGx)) M60 vB vSH.frame vSH.hp) = true := by kernel_rfl
theorem vRun_e : endsAt .ret [] vR_e.nms vSE (aev Tryz.prog (envR vF) (tblGv vF) M60 vRe vS1.frame vS1.hp) = true := by kernel_rfl
theorem vSays : saysTrue vRes vSE = true := by kernel_rfl
section
variable {w0 : World} {N : Nat} {g : Nm → Value} {z : Nat → Option Obj} {d : List (List DV)} {b : Nat → MV}
structure VJ (d : List (List DV)) (b : Nat → MV) : Prop where
  y : (b 0).d = d
  d0 : 0 ≤ (b 1).i
  d1 : (b 1).i ≤ d.length
structure VH (d : List (List DV)) (b : Nat → MV) : Prop extends VJ d b where
  i0 : 0 ≤ (b 2).i
  i1 : (b 2).i ≤ d.length
theorem vF_ok (hd : JV d) (h : VJ d b) : ∀ f ∈ vF, f.holds QR (vb b g z) := by
  have hl := hd.1
  have h0 := h.y
  have h1 := h.d0
  have h2 := h.d1
  exact facts_cons ⟨Int.natCast_nonneg _, (by show (((b 0).d.length : Nat) : Int) ≤ 4000; rw [h0]; omega)⟩ (facts_cons ⟨h1, (by show (b 1).i ≤ 4000; omega)⟩ (facts_cons ⟨(by show (-4000 : Int) ≤ (b 1).i - (((b 0).d.length : Nat) : Int); rw [h0]; omega), (by show (b 1).i - (((b 0).d.length : Nat) : Int) ≤ 0; rw [h0]; omega)⟩ facts_nil))
theorem vRound (hd : JV d) (b : Nat → MV) : Tri Tryz.prog N vB (fun a w => VH d b ∧ At w0 N (vb b g z) vSH a w) fun e a w => (e = .normal ∧ ∃ b', d.length - (b' 2).i.toNat < d.length - (b 2).i.toNat ∧ VH d b' ∧ At w0 N (vb b' g z) vSH a w) ∨ (e ≠ .normal ∧ (e = .exit 0 ∧ ∃ b', VJ d b' ∧ At w0 N (vb b' g z) vS1 a w)) := by
  refine Tri.imp fun h => ?_
  have hl := hd.1
  have base := vF_ok (g := g) (z := z) hd h.toVJ
  have hi0 := h.i0
  have hi1 := h.i1
  obtain ⟨i, hi⟩ := Int.eq_ofNat_of_zero_le h.i0
  by_cases hlt : (b 2).i < d.length
  · obtain ⟨row, hrow⟩ := list_cases (d := d) (i := i) (by omega)
    obtain ⟨kind, tx, ptx, pp, ref, pg, sl, bs, bd, az, ad, rfl, q1, q2, q3, q4, q5, q6, hk⟩ := hd.2 i row hrow
    have hy : ((vb b g z).d (.v 0))[i]? = some _ := (congrArg (fun x : List (List DV) => x[i]?) h.y).trans hrow
    have hi : (vb b g z).i (.v 2) = i := hi
    have nxt : VH d (nb b vR_k1) := ⟨⟨h.y, h.d0, h.d1⟩, (by show 0 ≤ (b 2).i + 1; omega), (by show (b 2).i + 1 ≤ d.length; omega)⟩
    have hμ : (d.length - (nb b vR_k1 2).i.toNat) < (d.length - (b 2).i.toNat) := by
      have : (nb b vR_k1 2).i = (b 2).i + 1 := rfl
      rw [this]; omega
    have fin : ∀ (G : List Fc), (∀ f ∈ G, f.holds QR (vb b g z)) → endsAt .nrm [(B000, B000)] vR_k1.nms vSH (aev Tryz.prog (envR (vF ++ G)) (tblGv (vF ++ G)) M60 vB vSH.frame vSH.hp) = true → Tri Tryz.prog N vB (At w0 N (vb b g z) vSH) fun e a w => (e = .normal ∧ ∃ b', d.length - (b' 2).i.toNat < d.length - (b 2).i.toNat ∧ VH d b' ∧ At w0 N (vb b' g z) vSH a w) ∨ (e ≠ .normal ∧ (e = .exit 0 ∧ ∃ b', VJ d b' ∧ At w0 N (vb b' g z) vS1 a w)) := fun G hG hr =>
      (Tri.run (codeGv _ _) (envR_ok (facts_app base hG)) hr (ren_nb (by decide))).post fun e a w hq => .inl ⟨hq.1, nb b vR_k1, hμ, nxt, hq.2⟩
    rcases hk with ⟨rfl, rfl, k2, c1, c2, c3, c4, c5, c6⟩ | ⟨rfl, rfl, k2, k3, k4, k5, c1, c2, c3, c4, c5, c6⟩
    · exact fin vG1 (facts_cons ⟨hi0, (by show (b 2).i ≤ 4000; omega)⟩ (facts_cons ⟨(by show (-4000 : Int) ≤ (b 2).i - (((b 0).d.length : Nat) : Int); rw [h.y]; omega), (by show (b 2).i - (((b 0).d.length : Nat) : Int) ≤ -1; rw [h.y]; omega)⟩ (facts_cons (by show (1 : Int) ≤ (vb b g z).i (.f2 (100 + 0) (.v 0) (.v 2)) - (vb b g z).i (.v 2) ∧ (vb b g z).i (.f2 (100 + 0) (.v 0) (.v 2)) - (vb b g z).i (.v 2) ≤ 1; rw [(ci_row hy hi 0 (by decide) (n := ((i : Int) + 1)) rfl), hi]; omega) (facts_cons (by show (1 : Int) ≤ (vb b g z).i (.f2 (100 + 0) (.v 0) (.v 2)) ∧ (vb b g z).i (.f2 (100 + 0) (.v 0) (.v 2)) ≤ 4000; rw [(ci_row hy hi 0 (by decide) (n := ((i : Int) + 1)) rfl)]; omega) (facts_cons (by show (1 : Int) ≤ (vb b g z).i (.f2 (100 + 1) (.v 0) (.v 2)) ∧ (vb b g z).i (.f2 (100 + 1) (.v 0) (.v 2)) ≤ 1; rw [(ci_row hy hi 1 (by decide) (n := 1) rfl)]; omega) (facts_cons (by show (1 : Int) ≤ (vb b g z).i (.f2 (100 + 2) (.v 0) (.v 2)) ∧ (vb b g z).i (.f2 (100 + 2) (.v 0) (.v 2)) ≤ 1; rw [(ci_row hy hi 2 (by decide) (n := 1) rfl)]; omega) (facts_cons (by show (0 : Int) ≤ (vb b g z).i (.f2 (100 + 3) (.v 0) (.v 2)) ∧ (vb b g z).i (.f2 (100 + 3) (.v 0) (.v 2)) ≤ 4000; rw [(ci_row hy hi 3 (by decide) (n := ptx) rfl)]; omega) (facts_cons (by show (-4000 : Int) ≤ (vb b g z).i (.f2 (100 + 3) (.v 0) (.v 2)) - (vb b g z).i (.f2 (100 + 0) (.v 0) (.v 2)) ∧ (vb b g z).i (.f2 (100 + 3) (.v 0) (.v 2)) - (vb b g z).i (.f2 (100 + 0) (.v 0) (.v 2)) ≤ -1; rw [(ci_row hy hi 3 (by decide) (n := ptx) rfl), (ci_row hy hi 0 (by decide) (n := ((i : Int) + 1)) rfl)]; omega) (facts_cons (by show (0 : Int) ≤ (vb b g z).i (.f2 (100 + 4) (.v 0) (.v 2)) ∧ (vb b g z).i (.f2 (100 + 4) (.v 0) (.v 2)) ≤ 4000; rw [(ci_row hy hi 4 (by decide) (n := pp) rfl)]; omega) (facts_cons (by show (-4000 : Int) ≤ (vb b g z).i (.f2 (100 + 4) (.v 0) (.v 2)) - (vb b g z).i (.f2 (100 + 0) (.v 0) (.v 2)) ∧ (vb b g z).i (.f2 (100 + 4) (.v 0) (.v 2)) - (vb b g z).i (.f2 (100 + 0) (.v 0) (.v 2)) ≤ -1; rw [(ci_row hy hi 4 (by decide) (n := pp) rfl), (ci_row hy hi 0 (by decide) (n := ((i : Int) + 1)) rfl)]; omega) (facts_cons (by show (0 : Int) ≤ (vb b g z).i (.f2 (100 + 5) (.v 0) (.v 2)) ∧ (vb b g z).i (.f2 (100 + 5) (.v 0) (.v 2)) ≤ 0; rw [(ci_row hy hi 5 (by decide) (n := ref) rfl)]; omega) (facts_cons (by show (0 : Int) ≤ (vb b g z).i (.f2 (100 + 6) (.v 0) (.v 2)) ∧ (vb b g z).i (.f2 (100 + 6) (.v 0) (.v 2)) ≤ 63; rw [(ci_row hy hi 6 (by decide) (n := pg) rfl)]; omega) (facts_cons (by show (0 : Int) ≤ (vb b g z).i (.f2 (100 + 7) (.v 0) (.v 2)) ∧ (vb b g z).i (.f2 (100 + 7) (.v 0) (.v 2)) ≤ 15; rw [(ci_row hy hi 7 (by decide) (n := sl) rfl)]; omega) (facts_cons (show VCell ((vb b g z).b (.f2 (100 + 8) (.v 0) (.v 2))) ((vb b g z).s (.f2 (100 + 9) (.v 0) (.v 2))) from by rw [(cb_row hy hi 8 (by decide) (n := bs) rfl), (cs_row hy hi 9 (by decide) (n := bd) rfl)]; exact c5) (facts_cons (show VCell ((vb b g z).b (.f2 (100 + 10) (.v 0) (.v 2))) ((vb b g z).s (.f2 (100 + 11) (.v 0) (.v 2))) from by rw [(cb_row hy hi 10 (by decide) (n := az) rfl), (cs_row hy hi 11 (by decide) (n := ad) rfl)]; exact c6) (facts_cons (show ((((vb b g z).s (.f2 (100 + 12) (.v 0) (.v 2))).toList == ((vb b g z).s (.lit [])).toList) = true) from by rw [(cs_row hy hi 12 (by decide) (n := ⟨#[]⟩) rfl)]; exact beq_self_eq_true (ByteArray.toList ⟨#[]⟩)) (facts_cons ⟨Int.natCast_nonneg _, (by show ((((vb b g z).s (.f2 (100 + 12) (.v 0) (.v 2))).size : Nat) : Int) ≤ 0; rw [(cs_row hy hi 12 (by decide) (n := ⟨#[]⟩) rfl)]; decide)⟩ (facts_cons (show ((((vb b g z).s (.lit [])).toList == ((vb b g z).s (.f2 (100 + 12) (.v 0) (.v 2))).toList) = true) from by rw [(cs_row hy hi 12 (by decide) (n := ⟨#[]⟩) rfl)]; exact beq_self_eq_true (ByteArray.toList ⟨#[]⟩)) (facts_nil))))))))))))))))))) vRun_1
    · exact fin vG7 (facts_cons ⟨hi0, (by show (b 2).i ≤ 4000; omega)⟩ (facts_cons ⟨(by show (-4000 : Int) ≤ (b 2).i - (((b 0).d.length : Nat) : Int); rw [h.y]; omega), (by show (b 2).i - (((b 0).d.length : Nat) : Int) ≤ -1; rw [h.y]; omega)⟩ (facts_cons (by show (1 : Int) ≤ (vb b g z).i (.f2 (100 + 0) (.v 0) (.v 2)) - (vb b g z).i (.v 2) ∧ (vb b g z).i (.f2 (100 + 0) (.v 0) (.v 2)) - (vb b g z).i (.v 2) ≤ 1; rw [(ci_row hy hi 0 (by decide) (n := ((i : Int) + 1)) rfl), hi]; omega) (facts_cons (by show (1 : Int) ≤ (vb b g z).i (.f2 (100 + 0) (.v 0) (.v 2)) ∧ (vb b g z).i (.f2 (100 + 0) (.v 0) (.v 2)) ≤ 4000; rw [(ci_row hy hi 0 (by decide) (n := ((i : Int) + 1)) rfl)]; omega) (facts_cons (by show (7 : Int) ≤ (vb b g z).i (.f2 (100 + 1) (.v 0) (.v 2)) ∧ (vb b g z).i (.f2 (100 + 1) (.v 0) (.v 2)) ≤ 7; rw [(ci_row hy hi 1 (by decide) (n := 7) rfl)]; omega) (facts_cons (by show (0 : Int) ≤ (vb b g z).i (.f2 (100 + 2) (.v 0) (.v 2)) ∧ (vb b g z).i (.f2 (100 + 2) (.v 0) (.v 2)) ≤ 0; rw [(ci_row hy hi 2 (by decide) (n := 0) rfl)]; omega) (facts_cons (by show (0 : Int) ≤ (vb b g z).i (.f2 (100 + 3) (.v 0) (.v 2)) ∧ (vb b g z).i (.f2 (100 + 3) (.v 0) (.v 2)) ≤ 0; rw [(ci_row hy hi 3 (by decide) (n := ptx) rfl)]; omega) (facts_cons (by show (0 : Int) ≤ (vb b g z).i (.f2 (100 + 4) (.v 0) (.v 2)) ∧ (vb b g z).i (.f2 (100 + 4) (.v 0) (.v 2)) ≤ 0; rw [(ci_row hy hi 4 (by decide) (n := pp) rfl)]; omega) (facts_cons (by show (0 : Int) ≤ (vb b g z).i (.f2 (100 + 5) (.v 0) (.v 2)) ∧ (vb b g z).i (.f2 (100 + 5) (.v 0) (.v 2)) ≤ 4000; rw [(ci_row hy hi 5 (by decide) (n := ref) rfl)]; omega) (facts_cons (by show (-4000 : Int) ≤ (vb b g z).i (.f2 (100 + 5) (.v 0) (.v 2)) - (vb b g z).i (.f2 (100 + 0) (.v 0) (.v 2)) ∧ (vb b g z).i (.f2 (100 + 5) (.v 0) (.v 2)) - (vb b g z).i (.f2 (100 + 0) (.v 0) (.v 2)) ≤ -1; rw [(ci_row hy hi 5 (by decide) (n := ref) rfl), (ci_row hy hi 0 (by decide) (n := ((i : Int) + 1)) rfl)]; omega) (facts_cons (by show (0 : Int) ≤ (vb b g z).i (.f2 (100 + 6) (.v 0) (.v 2)) ∧ (vb b g z).i (.f2 (100 + 6) (.v 0) (.v 2)) ≤ 63; rw [(ci_row hy hi 6 (by decide) (n := pg) rfl)]; omega) (facts_cons (by show (0 : Int) ≤ (vb b g z).i (.f2 (100 + 7) (.v 0) (.v 2)) ∧ (vb b g z).i (.f2 (100 + 7) (.v 0) (.v 2)) ≤ 0; rw [(ci_row hy hi 7 (by decide) (n := sl) rfl)]; omega) (facts_cons (show (vb b g z).b (.f2 (100 + 8) (.v 0) (.v 2)) = false from by rw [(cb_row hy hi 8 (by decide) (n := bs) rfl)]; exact c3) (facts_cons (show ((((vb b g z).s (.f2 (100 + 9) (.v 0) (.v 2))).toList == ((vb b g z).s (.lit [])).toList) = true) from by rw [(cs_row hy hi 9 (by decide) (n := bd) rfl), c4]; exact beq_self_eq_true (ByteArray.toList ⟨#[]⟩)) (facts_cons (show (vb b g z).b (.f2 (100 + 10) (.v 0) (.v 2)) = false from by rw [(cb_row hy hi 10 (by decide) (n := az) rfl)]; exact c5) (facts_cons (show ((((vb b g z).s (.f2 (100 + 11) (.v 0) (.v 2))).toList == ((vb b g z).s (.lit [])).toList) = true) from by rw [(cs_row hy hi 11 (by decide) (n := ad) rfl), c6]; exact beq_self_eq_true (ByteArray.toList ⟨#[]⟩)) (facts_cons (show ((((vb b g z).s (.f2 (100 + 12) (.v 0) (.v 2))).toList == ((vb b g z).s (.lit [])).toList) = true) from by rw [(cs_row hy hi 12 (by decide) (n := ⟨#[]⟩) rfl)]; exact beq_self_eq_true (ByteArray.toList ⟨#[]⟩)) (facts_cons ⟨Int.natCast_nonneg _, (by show ((((vb b g z).s (.f2 (100 + 12) (.v 0) (.v 2))).size : Nat) : Int) ≤ 0; rw [(cs_row hy hi 12 (by decide) (n := ⟨#[]⟩) rfl)]; decide)⟩ (facts_cons (show ((((vb b g z).s (.lit [])).toList == ((vb b g z).s (.f2 (100 + 12) (.v 0) (.v 2))).toList) = true) from by rw [(cs_row hy hi 12 (by decide) (n := ⟨#[]⟩) rfl)]; exact beq_self_eq_true (ByteArray.toList ⟨#[]⟩)) (facts_cons (show ((((vb b g z).s (.lit [])).toList == ((vb b g z).s (.f2 (100 + 9) (.v 0) (.v 2))).toList) = true) from by rw [(cs_row hy hi 9 (by decide) (n := bd) rfl), c4]; exact beq_self_eq_true (ByteArray.toList ⟨#[]⟩)) (facts_cons (show ((((vb b g z).s (.lit [])).toList == ((vb b g z).s (.f2 (100 + 11) (.v 0) (.v 2))).toList) = true) from by rw [(cs_row hy hi 11 (by decide) (n := ad) rfl), c6]; exact beq_self_eq_true (ByteArray.toList ⟨#[]⟩)) (facts_nil)))))))))))))))))))))) vRun_7
  · refine (Tri.run (codeGv _ _) (envR_ok (facts_app base (G := vGx) (facts_cons ⟨hi0, (by show (b 2).i ≤ 4000; omega)⟩ (facts_cons ⟨(by show (0 : Int) ≤ (b 2).i - (((b 0).d.length : Nat) : Int); rw [h.y]; omega), (by show (b 2).i - (((b 0).d.length : Nat) : Int) ≤ 0; rw [h.y]; omega)⟩ facts_nil)))) vRun_x (ren_nb (by decide))).post fun e a w hq => .inr ⟨by rw [hq.1]; exact fun h => (nomatch h), hq.1, nb b vR_x, ⟨h.y, h.d0, h.d1⟩, hq.2⟩
theorem jv6_tri (hd : JV d) (h0 : (b 0).d = d) (h1 : 0 ≤ (b 1).i) (h2 : (b 1).i ≤ d.length) : Tri Tryz.prog N vBody (At w0 N (vb b g z) vS0) fun e a w => e = .ret ∧ ∃ ρ' s', saysTrue vRes s' = true ∧ At w0 N ρ' s' a w := by
  have base := vF_ok (g := g) (z := z) hd ⟨h0, h1, h2⟩
  refine Tri.pre_run (codeGv _ _) (envR_ok base) vCut vRun_p (ren_nb (by decide)) ?_
  have hj : VJ d (nb b vR_p) := ⟨h0, h1, h2⟩
  rw [vX_eq]
  refine Tri.seq (Mid := fun a w => ∃ b', VJ d b' ∧ At w0 N (vb b' g z) vS1 a w) ?_ ?_
  · refine Tri.seq (Mid := fun a w => ∃ b', VH d b' ∧ At w0 N (vb b' g z) vSH a w) ?_ ?_
    · exact (Tri.run (codeGv _ _) (envR_ok (vF_ok hd hj)) vRun_r (ren_nb (by decide))).post fun e a w hq => .inl ⟨hq.1, nb (nb b vR_p) vR_r, ⟨⟨hj.y, hj.d0, hj.d1⟩, (by show (0 : Int) ≤ 0; decide), (by show (0 : Int) ≤ d.length; omega)⟩, hq.2⟩
    · refine (Tri.block (Post := fun e a w => e = .normal ∧ ∃ b', VJ d b' ∧ At w0 N (vb b' g z) vS1 a w) ?_).post fun e a w hq => .inl hq
      exact (Tri.loop (fun b : Nat → MV => d.length - (b 2).i.toNat) (fun b a w => VH d b ∧ At w0 N (vb b g z) vSH a w) fun b => vRound hd b).post fun e a w hq => .inl ⟨.inr hq.1, rfl, hq.2⟩
  · refine Tri.ex fun b' => Tri.imp fun hb' => ?_
    exact (Tri.run (codeGv _ _) (envR_ok (vF_ok hd hb')) vRun_e (ren_nb (by decide))).post fun e a w hq => ⟨hq.1, _, _, vSays, hq.2⟩
end
theorem natJV6_ok (F : List Fc) : NatOk Tryz.prog (envR F) 41 (natJV F) := natJV_of Tryz.func41 (by kernel_rfl) ⟨_, rfl, rfl⟩ rfl jv6_tri
end Go.Proofs.YtjnfgapfhpihmaaGreat
