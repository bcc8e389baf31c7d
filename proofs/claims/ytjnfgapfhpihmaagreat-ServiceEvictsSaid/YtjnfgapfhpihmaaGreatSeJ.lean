/-
  Contracts of checks over frozen slices: change.ValidCell, journal.Valid, transactions.ascending (printed by a program).
-/
import Derived.Test.YtjnfgapfhpihmaaGreatSt
import Derived.Test.YtjnfgapfhpihmaaGreatSeQ
import Derived.Test.YtjnfgapfhpihmaaGreatKS0
set_option linter.unusedVariables false
set_option linter.unusedSimpArgs false
set_option maxRecDepth 100000
namespace Go.Proofs.YtjnfgapfhpihmaaGreat
open Go.RowKit
theorem mixedR : Tryz.prog.follows .mixedOrders = true := by kernel_rfl
def natVC (F : List Fc) : List AV → Option AV
  | [.a [b, d]] => bif cellB F b d then some (.c (.b true)) else none
  | _ => none
noncomputable def tblV : Tab := tabOf [(B0dd, c221)]
theorem tblV_ok {E : Env} : TabOk Tryz.prog E tblV := tab_cons tab_nil e221
def FV : List Fc := [.rng (.f1 M6 (.v M0)) (.ofNat 0) (.ofNat 12)]
theorem runV1 : isTrue (callBy tblV (aev Tryz.prog (envR FV) tblV M50) B0dd [.a [.b true, .ss (.v M0)]] hp0) = true := by kernel_rfl
theorem runV2 : isTrue (callBy tblV (aev Tryz.prog (envR FV) tblV M50) B0dd [.a [.b false, .s []]] hp0) = true := by kernel_rfl
theorem natVC_ok (F : List Fc) : NatOk Tryz.prog (envR F) 221 (natVC F) := by
  intro vs v hv ρ φ h w us he hr hu
  have hp : StdF ρ ∧ ∀ f ∈ F, f.holds QR ρ := envR_prop he
  unfold natVC at hv
  split at hv
  · rename_i b d
    cases hc : cellB F b d with
    | false => rw [hc] at hv; cases hv
    | true =>
      rw [hc] at hv
      cases hv
      cases hu with
      | cons a1 t1 =>
        cases t1
        obtain ⟨xs, rfl, hx⟩ := a1
        cases hx with
        | cons x1 t2 =>
          cases t2 with
          | cons x2 t3 =>
            cases t3
            obtain ⟨bb, ss, rfl, rfl, hv⟩ := cellB_ok hp.1 hp.2 hc x1 x2
            have hF : ∀ f ∈ FV, f.holds QR (vb (fun _ => { s := ss }) (fun _ => .bool false) φ.z) := facts_cons ⟨Int.natCast_nonneg _, (by show (ss.size : Int) ≤ 12; have := hv.1; omega)⟩ facts_nil
            cases bb with
            | true => exact true_run (eval_ok tblV_ok mixedR M50) runV1 hr hF (.cons ⟨_, rfl, .cons rfl (.cons rfl .nil)⟩ .nil)
            | false =>
              rw [hv.2 rfl]
              exact true_run (eval_ok tblV_ok mixedR M50) runV2 hr hF (.cons ⟨_, rfl, .cons rfl (.cons ⟨⟨#[]⟩, rfl, rfl⟩ .nil)⟩ .nil)
  · cases hv
noncomputable def tblJ (F : List Fc) : Tab := tabOf [(B0dd, .nat (natVC F)), (B072, c114), (B073, c115), (B0bc, c188), (B0bd, c189), (B0f7, c247), (B0f9, c249), (B0fa, c250), (B0f8, c248), (B098, c152), (B0dc, c220)]
theorem tblJ_ok (F : List Fc) : TabOk Tryz.prog (envR F) (tblJ F) := tab_cons (tab_cons (tab_cons (tab_cons (tab_cons (tab_cons (tab_cons (tab_cons (tab_cons (tab_cons (tab_cons (tab_nil) e220) e152) e248) e250) e249) e247) e189) e188) e115) e114) (nat_ok (fun args w => (e221 (E := envR F)).1 args w) (natVC_ok F))
theorem codeJ (F : List Fc) (n : Nat) : CodeOk Tryz.prog (envR F) (tblJ F) n := code_ok (tblJ_ok F) (draw_ok mixedR) n
def shE : Sh := (.i .i64 (.i .i64 (.i .i64 (.i .i64 (.i .i64 (.i .i64 (.i .i64 (.i .i64 (.b (.s (.b (.s (.s .nil)))))))))))))
def jS0 : Lit := ⟨[(.x0, .x0, (.a [Z1, .ds (.i .i64 (.i .i64 (.i .i64 (.i .i64 (.i .i64 (.i .i64 (.i .i64 (.i .i64 (.b (.s (.b (.s (.s .nil))))))))))))) (.v M0), .si .i64 (.v M1)]))], [], B000⟩
def jS1 : Lit := ⟨[(.x0, .x1, (.c (.p B000 M0))), (.x0, .x2, (.c (.b false)))], [(B000, (.cells [Z1, .ds (.i .i64 (.i .i64 (.i .i64 (.i .i64 (.i .i64 (.i .i64 (.i .i64 (.i .i64 (.b (.s (.b (.s (.s .nil))))))))))))) (.v M0), .si .i64 (.v M1)]))], B001⟩
def jSH : Lit := ⟨[(.x0, .x1, (.c (.p B000 M0))), (.x0, .x2, (.c (.b false))), (.x2, .x3, (.c (.ds (.i .i64 (.i .i64 (.i .i64 (.i .i64 (.i .i64 (.i .i64 (.i .i64 (.i .i64 (.b (.s (.b (.s (.s .nil))))))))))))) (.v M0)))), (.x2, .x4, (.c (.si .i64 (.v M3)))), (.x2, .x5, (.c (.si .i64 (.v M2))))], [(B000, (.cells [Z1, .ds (.i .i64 (.i .i64 (.i .i64 (.i .i64 (.i .i64 (.i .i64 (.i .i64 (.i .i64 (.b (.s (.b (.s (.s .nil))))))))))))) (.v M0), .si .i64 (.v M1)]))], B001⟩
def jF : List Fc := [.rng (.f1 M5 (.v M0)) J0 J4000, .rng (.v M1) J0 J4000, .dif (.v M1) (.f1 M5 (.v M0)) (Int.negSucc M3999) J0]
def jR1 : Rn := ⟨[(M1, (.v M1))], [], [], [(M0, (.v M0))], []⟩
def jR2 : Rn := ⟨[(M1, (.v M1)), (M2, (.num J0)), (M3, (.f1 M5 (.v M0)))], [], [], [(M0, (.v M0))], []⟩
def jBody : ACd := bodyA c50
def jRes : List AR := resA c50
def jX : ACd := cutR 2 jBody
def jRi : ACd := fstA (fstA jX)
def jB : ACd := innA (innA (sndA (fstA jX)))
def jRe : ACd := sndA jX
theorem jX_eq : jX = .seq (.seq jRi (.block M0 (.loop jB))) jRe := by kernel_rfl
theorem jCut : cutA 2 jBody = some (cutL 2 jBody, jX) := by kernel_rfl
theorem jRun1 : endsAt .nrm [(B000, B000)] jR1.nms jS1 (runL Tryz.prog (envR jF) (tblJ jF) M60 (cutL 2 jBody) jS0.frame jS0.hp) = true := by kernel_rfl
theorem jRun2 : endsAt .nrm [(B000, B000)] jR2.nms jSH (aev Tryz.prog (envR jF) (tblJ jF) M60 jRi jS1.frame jS1.hp) = true := by kernel_rfl
def jG1 : List Fc := [.rng (.v M2) J0 J4000, .rng (.v M3) J0 J4000, .dif (.v M2) (.v M3) (Int.negSucc M3999) (Int.negSucc M0), .dif (.v M2) (.f1 M5 (.v M0)) (Int.negSucc M3999) (Int.negSucc M0), .dif (.f2 M100 (.v M0) (.v M2)) (.v M2) J1 J1, .rng (.f2 M100 (.v M0) (.v M2)) J1 J4000, .rng (.f2 M101 (.v M0) (.v M2)) J1 J1, .rng (.f2 M102 (.v M0) (.v M2)) J1 J1, .rng (.f2 M103 (.v M0) (.v M2)) J0 J4000, .dif (.f2 M103 (.v M0) (.v M2)) (.f2 M100 (.v M0) (.v M2)) (Int.negSucc M3999) (Int.negSucc M0), .rng (.f2 M104 (.v M0) (.v M2)) J0 J4000, .dif (.f2 M104 (.v M0) (.v M2)) (.f2 M100 (.v M0) (.v M2)) (Int.negSucc M3999) (Int.negSucc M0), .rng (.f2 M105 (.v M0) (.v M2)) J0 J0, .rng (.f2 M106 (.v M0) (.v M2)) J0 J63, .rng (.f2 M107 (.v M0) (.v M2)) J0 J15, .pr M2 [(.f2 M108 (.v M0) (.v M2)), (.f2 M109 (.v M0) (.v M2))], .pr M2 [(.f2 M110 (.v M0) (.v M2)), (.f2 M111 (.v M0) (.v M2))], .seq (.f2 M112 (.v M0) (.v M2)) (.lit []) true, .rng (.f1 M6 (.f2 M112 (.v M0) (.v M2))) J0 J0]
def jR3 : Rn := ⟨[(M1, (.v M1)), (M2, (.f2 M1000 (.v M2) (.num J1))), (M3, (.v M3))], [], [], [(M0, (.v M0))], []⟩
theorem jRun3_1 : endsAt .nrm [(B000, B000)] jR3.nms jSH (aev Tryz.prog (envR (jF ++ jG1)) (tblJ (jF ++ jG1)) M60 jB jSH.frame jSH.hp) = true := by kernel_rfl
def jG7 : List Fc := [.rng (.v M2) J0 J4000, .rng (.v M3) J0 J4000, .dif (.v M2) (.v M3) (Int.negSucc M3999) (Int.negSucc M0), .dif (.v M2) (.f1 M5 (.v M0)) (Int.negSucc M3999) (Int.negSucc M0), .dif (.f2 M100 (.v M0) (.v M2)) (.v M2) J1 J1, .rng (.f2 M100 (.v M0) (.v M2)) J1 J4000, .rng (.f2 M101 (.v M0) (.v M2)) J7 J7, .rng (.f2 M102 (.v M0) (.v M2)) J0 J0, .rng (.f2 M103 (.v M0) (.v M2)) J0 J0, .rng (.f2 M104 (.v M0) (.v M2)) J0 J0, .rng (.f2 M105 (.v M0) (.v M2)) J0 J4000, .dif (.f2 M105 (.v M0) (.v M2)) (.f2 M100 (.v M0) (.v M2)) (Int.negSucc M3999) (Int.negSucc M0), .rng (.f2 M106 (.v M0) (.v M2)) J0 J63, .rng (.f2 M107 (.v M0) (.v M2)) J0 J0, .bv (.f2 M108 (.v M0) (.v M2)) false, .seq (.f2 M109 (.v M0) (.v M2)) (.lit []) true, .bv (.f2 M110 (.v M0) (.v M2)) false, .seq (.f2 M111 (.v M0) (.v M2)) (.lit []) true, .seq (.f2 M112 (.v M0) (.v M2)) (.lit []) true, .rng (.f1 M6 (.f2 M112 (.v M0) (.v M2))) J0 J0]
theorem jRun3_7 : endsAt .nrm [(B000, B000)] jR3.nms jSH (aev Tryz.prog (envR (jF ++ jG7)) (tblJ (jF ++ jG7)) M60 jB jSH.frame jSH.hp) = true := by kernel_rfl
def jGx : List Fc := [.rng (.v M2) J0 J4000, .rng (.v M3) J0 J4000, .dif (.v M2) (.v M3) J0 J0]
def jR4 : Rn := ⟨[(M1, (.v M1)), (M2, (.v M2)), (M3, (.v M3))], [], [], [(M0, (.v M0))], []⟩
theorem jRun4 : endsAt (.ex M0) [(B000, B000)] jR4.nms jSH (aev Tryz.prog (envR (jF ++ jGx)) (tblJ (jF ++ jGx)) M60 jB jSH.frame jSH.hp) = true := by kernel_rfl
def jSE : Lit := ⟨[(.x0, .x2, (.c (.b true)))], [], B000⟩
def jR5 : Rn := ⟨[], [], [], [], []⟩
theorem jRun5 : endsAt .ret [] jR5.nms jSE (aev Tryz.prog (envR jF) (tblJ jF) M60 jRe jSH.frame jSH.hp) = true := by kernel_rfl
theorem jSays : saysTrue jRes jSE = true := by kernel_rfl
section
variable {w0 : World} {N : Nat} {g : Nm → Value} {z : Nat → Option Obj} {d : List (List DV)} {b : Nat → MV}
structure JInv (d : List (List DV)) (b : Nat → MV) : Prop where
  y : (b 0).d = d
  d0 : 0 ≤ (b 1).i
  d1 : (b 1).i ≤ d.length
  i0 : 0 ≤ (b 2).i
  i1 : (b 2).i ≤ d.length
  n : (b 3).i = d.length
theorem jF_ok (hd : JV d) (h0 : (b 0).d = d) (h1 : 0 ≤ (b 1).i) (h2 : (b 1).i ≤ d.length) : ∀ f ∈ jF, f.holds QR (vb b g z) := by
  have hl := hd.1
  exact facts_cons ⟨Int.natCast_nonneg _, (by show (((b 0).d.length : Nat) : Int) ≤ 4000; rw [h0]; omega)⟩ (facts_cons ⟨h1, (by show (b 1).i ≤ 4000; omega)⟩ (facts_cons ⟨(by show (-4000 : Int) ≤ (b 1).i - (((b 0).d.length : Nat) : Int); rw [h0]; omega), (by show (b 1).i - (((b 0).d.length : Nat) : Int) ≤ 0; rw [h0]; omega)⟩ facts_nil))
theorem jRound (hd : JV d) (h : JInv d b) : Tri Tryz.prog N jB (At w0 N (vb b g z) jSH) fun e a w => (e = .normal ∧ ∃ b', (d.length - (b' 2).i.toNat) < (d.length - (b 2).i.toNat) ∧ JInv d b' ∧ At w0 N (vb b' g z) jSH a w) ∨ (e = .exit 0 ∧ ∃ b', JInv d b' ∧ At w0 N (vb b' g z) jSH a w) := by
  have hl := hd.1
  have base := jF_ok (g := g) (z := z) hd h.y h.d0 h.d1
  have hi0 := h.i0
  have hi1 := h.i1
  have hn := h.n
  obtain ⟨i, hi⟩ := Int.eq_ofNat_of_zero_le h.i0
  by_cases hlt : (b 2).i < d.length
  · obtain ⟨row, hrow⟩ := list_cases (d := d) (i := i) (by omega)
    obtain ⟨kind, tx, ptx, pp, ref, pg, sl, bs, bd, az, ad, rfl, q1, q2, q3, q4, q5, q6, hk⟩ := hd.2 i row hrow
    have hy : ((vb b g z).d (.v 0))[i]? = some _ := (congrArg (fun x : List (List DV) => x[i]?) h.y).trans hrow
    have hi : (vb b g z).i (.v 2) = i := hi
    have nxt : JInv d (nb b jR3) := ⟨h.y, h.d0, h.d1, (by show 0 ≤ (b 2).i + 1; omega), (by show (b 2).i + 1 ≤ d.length; omega), h.n⟩
    have hμ : (d.length - (nb b jR3 2).i.toNat) < (d.length - (b 2).i.toNat) := by
      have : (nb b jR3 2).i = (b 2).i + 1 := rfl
      rw [this]; omega
    have fin : ∀ (G : List Fc), (∀ f ∈ G, f.holds QR (vb b g z)) → endsAt .nrm [(B000, B000)] jR3.nms jSH (aev Tryz.prog (envR (jF ++ G)) (tblJ (jF ++ G)) M60 jB jSH.frame jSH.hp) = true → Tri Tryz.prog N jB (At w0 N (vb b g z) jSH) fun e a w => (e = .normal ∧ ∃ b', (d.length - (b' 2).i.toNat) < (d.length - (b 2).i.toNat) ∧ JInv d b' ∧ At w0 N (vb b' g z) jSH a w) ∨ (e = .exit 0 ∧ ∃ b', JInv d b' ∧ At w0 N (vb b' g z) jSH a w) := fun G hG hr =>
      (Tri.run (codeJ _ _) (envR_ok (facts_app base hG)) hr (ren_nb (by decide))).post fun e a w hq => .inl ⟨hq.1, nb b jR3, hμ, nxt, hq.2⟩
    have v1 : ∀ {x y : Bool} {s t : ByteArray}, True := fun {_ _ _ _} => trivial
    rcases hk with ⟨rfl, rfl, k2, c1, c2, c3, c4, c5, c6⟩ | ⟨rfl, rfl, k2, k3, k4, k5, c1, c2, c3, c4, c5, c6⟩
    · exact fin jG1 (facts_cons ⟨hi0, (by show (b 2).i ≤ 4000; omega)⟩ (facts_cons ⟨(by show 0 ≤ (b 3).i; omega), (by show (b 3).i ≤ 4000; omega)⟩ (facts_cons ⟨(by show (-4000 : Int) ≤ (b 2).i - (b 3).i; omega), (by show (b 2).i - (b 3).i ≤ -1; omega)⟩ (facts_cons ⟨(by show (-4000 : Int) ≤ (b 2).i - (((b 0).d.length : Nat) : Int); rw [h.y]; omega), (by show (b 2).i - (((b 0).d.length : Nat) : Int) ≤ -1; rw [h.y]; omega)⟩ (facts_cons (by show (1 : Int) ≤ (vb b g z).i (.f2 (100 + 0) (.v 0) (.v 2)) - (vb b g z).i (.v 2) ∧ (vb b g z).i (.f2 (100 + 0) (.v 0) (.v 2)) - (vb b g z).i (.v 2) ≤ 1; rw [(ci_row hy hi 0 (by decide) (n := ((i : Int) + 1)) rfl), hi]; omega) (facts_cons (by show (1 : Int) ≤ (vb b g z).i (.f2 (100 + 0) (.v 0) (.v 2)) ∧ (vb b g z).i (.f2 (100 + 0) (.v 0) (.v 2)) ≤ 4000; rw [(ci_row hy hi 0 (by decide) (n := ((i : Int) + 1)) rfl)]; omega) (facts_cons (by show (1 : Int) ≤ (vb b g z).i (.f2 (100 + 1) (.v 0) (.v 2)) ∧ (vb b g z).i (.f2 (100 + 1) (.v 0) (.v 2)) ≤ 1; rw [(ci_row hy hi 1 (by decide) (n := 1) rfl)]; omega) (facts_cons (by show (1 : Int) ≤ (vb b g z).i (.f2 (100 + 2) (.v 0) (.v 2)) ∧ (vb b g z).i (.f2 (100 + 2) (.v 0) (.v 2)) ≤ 1; rw [(ci_row hy hi 2 (by decide) (n := 1) rfl)]; omega) (facts_cons (by show (0 : Int) ≤ (vb b g z).i (.f2 (100 + 3) (.v 0) (.v 2)) ∧ (vb b g z).i (.f2 (100 + 3) (.v 0) (.v 2)) ≤ 4000; rw [(ci_row hy hi 3 (by decide) (n := ptx) rfl)]; omega) (facts_cons (by show (-4000 : Int) ≤ (vb b g z).i (.f2 (100 + 3) (.v 0) (.v 2)) - (vb b g z).i (.f2 (100 + 0) (.v 0) (.v 2)) ∧ (vb b g z).i (.f2 (100 + 3) (.v 0) (.v 2)) - (vb b g z).i (.f2 (100 + 0) (.v 0) (.v 2)) ≤ -1; rw [(ci_row hy hi 3 (by decide) (n := ptx) rfl), (ci_row hy hi 0 (by decide) (n := ((i : Int) + 1)) rfl)]; omega) (facts_cons (by show (0 : Int) ≤ (vb b g z).i (.f2 (100 + 4) (.v 0) (.v 2)) ∧ (vb b g z).i (.f2 (100 + 4) (.v 0) (.v 2)) ≤ 4000; rw [(ci_row hy hi 4 (by decide) (n := pp) rfl)]; omega) (facts_cons (by show (-4000 : Int) ≤ (vb b g z).i (.f2 (100 + 4) (.v 0) (.v 2)) - (vb b g z).i (.f2 (100 + 0) (.v 0) (.v 2)) ∧ (vb b g z).i (.f2 (100 + 4) (.v 0) (.v 2)) - (vb b g z).i (.f2 (100 + 0) (.v 0) (.v 2)) ≤ -1; rw [(ci_row hy hi 4 (by decide) (n := pp) rfl), (ci_row hy hi 0 (by decide) (n := ((i : Int) + 1)) rfl)]; omega) (facts_cons (by show (0 : Int) ≤ (vb b g z).i (.f2 (100 + 5) (.v 0) (.v 2)) ∧ (vb b g z).i (.f2 (100 + 5) (.v 0) (.v 2)) ≤ 0; rw [(ci_row hy hi 5 (by decide) (n := ref) rfl)]; omega) (facts_cons (by show (0 : Int) ≤ (vb b g z).i (.f2 (100 + 6) (.v 0) (.v 2)) ∧ (vb b g z).i (.f2 (100 + 6) (.v 0) (.v 2)) ≤ 63; rw [(ci_row hy hi 6 (by decide) (n := pg) rfl)]; omega) (facts_cons (by show (0 : Int) ≤ (vb b g z).i (.f2 (100 + 7) (.v 0) (.v 2)) ∧ (vb b g z).i (.f2 (100 + 7) (.v 0) (.v 2)) ≤ 15; rw [(ci_row hy hi 7 (by decide) (n := sl) rfl)]; omega) (facts_cons (show VCell ((vb b g z).b (.f2 (100 + 8) (.v 0) (.v 2))) ((vb b g z).s (.f2 (100 + 9) (.v 0) (.v 2))) from by rw [(cb_row hy hi 8 (by decide) (n := bs) rfl), (cs_row hy hi 9 (by decide) (n := bd) rfl)]; exact c5) (facts_cons (show VCell ((vb b g z).b (.f2 (100 + 10) (.v 0) (.v 2))) ((vb b g z).s (.f2 (100 + 11) (.v 0) (.v 2))) from by rw [(cb_row hy hi 10 (by decide) (n := az) rfl), (cs_row hy hi 11 (by decide) (n := ad) rfl)]; exact c6) (facts_cons (show ((((vb b g z).s (.f2 (100 + 12) (.v 0) (.v 2))).toList == ((vb b g z).s (.lit [])).toList) = true) from by rw [(cs_row hy hi 12 (by decide) (n := ⟨#[]⟩) rfl)]; exact beq_self_eq_true (ByteArray.toList ⟨#[]⟩)) (facts_cons ⟨Int.natCast_nonneg _, (by show ((((vb b g z).s (.f2 (100 + 12) (.v 0) (.v 2))).size : Nat) : Int) ≤ 0; rw [(cs_row hy hi 12 (by decide) (n := ⟨#[]⟩) rfl)]; decide)⟩ (facts_nil)))))))))))))))))))) jRun3_1
    · exact fin jG7 (facts_cons ⟨hi0, (by show (b 2).i ≤ 4000; omega)⟩ (facts_cons ⟨(by show 0 ≤ (b 3).i; omega), (by show (b 3).i ≤ 4000; omega)⟩ (facts_cons ⟨(by show (-4000 : Int) ≤ (b 2).i - (b 3).i; omega), (by show (b 2).i - (b 3).i ≤ -1; omega)⟩ (facts_cons ⟨(by show (-4000 : Int) ≤ (b 2).i - (((b 0).d.length : Nat) : Int); rw [h.y]; omega), (by show (b 2).i - (((b 0).d.length : Nat) : Int) ≤ -1; rw [h.y]; omega)⟩ (facts_cons (by show (1 : Int) ≤ (vb b g z).i (.f2 (100 + 0) (.v 0) (.v 2)) - (vb b g z).i (.v 2) ∧ (vb b g z).i (.f2 (100 + 0) (.v 0) (.v 2)) - (vb b g z).i (.v 2) ≤ 1; rw [(ci_row hy hi 0 (by decide) (n := ((i : Int) + 1)) rfl), hi]; omega) (facts_cons (by show (1 : Int) ≤ (vb b g z).i (.f2 (100 + 0) (.v 0) (.v 2)) ∧ (vb b g z).i (.f2 (100 + 0) (.v 0) (.v 2)) ≤ 4000; rw [(ci_row hy hi 0 (by decide) (n := ((i : Int) + 1)) rfl)]; omega) (facts_cons (by show (7 : Int) ≤ (vb b g z).i (.f2 (100 + 1) (.v 0) (.v 2)) ∧ (vb b g z).i (.f2 (100 + 1) (.v 0) (.v 2)) ≤ 7; rw [(ci_row hy hi 1 (by decide) (n := 7) rfl)]; omega) (facts_cons (by show (0 : Int) ≤ (vb b g z).i (.f2 (100 + 2) (.v 0) (.v 2)) ∧ (vb b g z).i (.f2 (100 + 2) (.v 0) (.v 2)) ≤ 0; rw [(ci_row hy hi 2 (by decide) (n := 0) rfl)]; omega) (facts_cons (by show (0 : Int) ≤ (vb b g z).i (.f2 (100 + 3) (.v 0) (.v 2)) ∧ (vb b g z).i (.f2 (100 + 3) (.v 0) (.v 2)) ≤ 0; rw [(ci_row hy hi 3 (by decide) (n := ptx) rfl)]; omega) (facts_cons (by show (0 : Int) ≤ (vb b g z).i (.f2 (100 + 4) (.v 0) (.v 2)) ∧ (vb b g z).i (.f2 (100 + 4) (.v 0) (.v 2)) ≤ 0; rw [(ci_row hy hi 4 (by decide) (n := pp) rfl)]; omega) (facts_cons (by show (0 : Int) ≤ (vb b g z).i (.f2 (100 + 5) (.v 0) (.v 2)) ∧ (vb b g z).i (.f2 (100 + 5) (.v 0) (.v 2)) ≤ 4000; rw [(ci_row hy hi 5 (by decide) (n := ref) rfl)]; omega) (facts_cons (by show (-4000 : Int) ≤ (vb b g z).i (.f2 (100 + 5) (.v 0) (.v 2)) - (vb b g z).i (.f2 (100 + 0) (.v 0) (.v 2)) ∧ (vb b g z).i (.f2 (100 + 5) (.v 0) (.v 2)) - (vb b g z).i (.f2 (100 + 0) (.v 0) (.v 2)) ≤ -1; rw [(ci_row hy hi 5 (by decide) (n := ref) rfl), (ci_row hy hi 0 (by decide) (n := ((i : Int) + 1)) rfl)]; omega) (facts_cons (by show (0 : Int) ≤ (vb b g z).i (.f2 (100 + 6) (.v 0) (.v 2)) ∧ (vb b g z).i (.f2 (100 + 6) (.v 0) (.v 2)) ≤ 63; rw [(ci_row hy hi 6 (by decide) (n := pg) rfl)]; omega) (facts_cons (by show (0 : Int) ≤ (vb b g z).i (.f2 (100 + 7) (.v 0) (.v 2)) ∧ (vb b g z).i (.f2 (100 + 7) (.v 0) (.v 2)) ≤ 0; rw [(ci_row hy hi 7 (by decide) (n := sl) rfl)]; omega) (facts_cons (show (vb b g z).b (.f2 (100 + 8) (.v 0) (.v 2)) = false from by rw [(cb_row hy hi 8 (by decide) (n := bs) rfl)]; exact c3) (facts_cons (show ((((vb b g z).s (.f2 (100 + 9) (.v 0) (.v 2))).toList == ((vb b g z).s (.lit [])).toList) = true) from by rw [(cs_row hy hi 9 (by decide) (n := bd) rfl), c4]; exact beq_self_eq_true (ByteArray.toList ⟨#[]⟩)) (facts_cons (show (vb b g z).b (.f2 (100 + 10) (.v 0) (.v 2)) = false from by rw [(cb_row hy hi 10 (by decide) (n := az) rfl)]; exact c5) (facts_cons (show ((((vb b g z).s (.f2 (100 + 11) (.v 0) (.v 2))).toList == ((vb b g z).s (.lit [])).toList) = true) from by rw [(cs_row hy hi 11 (by decide) (n := ad) rfl), c6]; exact beq_self_eq_true (ByteArray.toList ⟨#[]⟩)) (facts_cons (show ((((vb b g z).s (.f2 (100 + 12) (.v 0) (.v 2))).toList == ((vb b g z).s (.lit [])).toList) = true) from by rw [(cs_row hy hi 12 (by decide) (n := ⟨#[]⟩) rfl)]; exact beq_self_eq_true (ByteArray.toList ⟨#[]⟩)) (facts_cons ⟨Int.natCast_nonneg _, (by show ((((vb b g z).s (.f2 (100 + 12) (.v 0) (.v 2))).size : Nat) : Int) ≤ 0; rw [(cs_row hy hi 12 (by decide) (n := ⟨#[]⟩) rfl)]; decide)⟩ (facts_nil))))))))))))))))))))) jRun3_7
  · refine (Tri.run (codeJ _ _) (envR_ok (facts_app base (G := jGx) (facts_cons ⟨hi0, (by show (b 2).i ≤ 4000; omega)⟩ (facts_cons ⟨(by show 0 ≤ (b 3).i; omega), (by show (b 3).i ≤ 4000; omega)⟩ (facts_cons ⟨(by show (0 : Int) ≤ (b 2).i - (b 3).i; omega), (by show (b 2).i - (b 3).i ≤ 0; omega)⟩ facts_nil))))) jRun4 (ren_nb (by decide))).post fun e a w hq => .inr ⟨hq.1, nb b jR4, ⟨h.y, h.d0, h.d1, h.i0, h.i1, h.n⟩, hq.2⟩
theorem jv_tri (hd : JV d) (h0 : (b 0).d = d) (h1 : 0 ≤ (b 1).i) (h2 : (b 1).i ≤ d.length) : Tri Tryz.prog N jBody (At w0 N (vb b g z) jS0) fun e a w => e = .ret ∧ ∃ ρ' s', saysTrue jRes s' = true ∧ At w0 N ρ' s' a w := by
  have base := jF_ok (g := g) (z := z) hd h0 h1 h2
  refine Tri.pre_run (codeJ _ _) (envR_ok base) jCut jRun1 (ren_nb (by decide)) ?_
  have base1 := jF_ok (b := nb b jR1) (g := g) (z := z) hd h0 h1 h2
  rw [jX_eq]
  refine Tri.seq (Mid := fun a w => ∃ b', JInv d b' ∧ At w0 N (vb b' g z) jSH a w) ?_ ?_
  · refine Tri.seq (Mid := fun a w => ∃ b', JInv d b' ∧ At w0 N (vb b' g z) jSH a w) ?_ ?_
    · refine (Tri.run (codeJ _ _) (envR_ok base1) jRun2 (ren_nb (by decide))).post fun e a w hq => .inl ⟨hq.1, nb (nb b jR1) jR2, ⟨h0, h1, h2, (by show (0 : Int) ≤ 0; omega), (by show (0 : Int) ≤ d.length; omega), (by show (((b 0).d.length : Nat) : Int) = d.length; rw [h0])⟩, hq.2⟩
    · exact (tri_loop1 (fun b => d.length - (b 2).i.toNat) (JInv d) (JInv d) jSH jSH fun b' hb' => jRound hd hb').post fun e a w hq => .inl hq
  · refine Tri.ex fun b' => Tri.imp fun hb' => ?_
    exact (Tri.run (codeJ _ _) (envR_ok (jF_ok (g := g) (z := z) hd hb'.y hb'.d0 hb'.d1)) jRun5 (ren_nb (by decide))).post fun e a w hq => ⟨hq.1, _, _, jSays, hq.2⟩
end
def dsN : AC → Option (Sh × Nm)
  | .ds e y => some (e, y)
  | .dc e y => some (e, y)
  | _ => none
theorem dsN_ok {ρ : Vn} {φ : Emb} {c : AC} {ey : Sh × Nm} (h : dsN c = some ey) {v : Value} (hv : VC ρ φ c v) : SlD φ.z ey.1 (ρ.d ey.2) v := by
  cases c with
  | ds e y => cases h; exact hv
  | dc e y => cases h; exact hv.1
  | _ => cases h
def durB (F : List Fc) (y : Nm) (c : AC) : Bool := match nmI c with
  | some x => isI64 x.1 && (match cmpF F .leq (.num 0) x.2, cmpF F .leq x.2 (lenN F y) with | some true, some true => true | _, _ => false)
  | none => false
def natJV (F : List Fc) : List AV → Option AV
  | [.a [.i .i64 f, x, c]] => (match dsN x with
    | some ey => bif (decide (f = 1) && decide (ey.1 = shE)) && (fdP F 1 [ey.2] && durB F ey.2 c) then some (.c (.b true)) else none
    | none => none)
  | _ => none
theorem natJV_of {F : List Fc} {f : FuncId} {fn : Func} {ac : ACd} {res : List AR} {s0 : Lit} (hf : Tryz.prog.funcs[f]? = some fn) (hc : cFn Tryz.prog fn = some (.code ac res)) (hs : ∃ fr, frameOf [.a [.i .i64 1, .ds shE (.v 0), .si .i64 (.v 1)]] places Fr.nil = some fr ∧ s0.frame = fr) (h0 : s0.hp = hp0)
    (ht : ∀ {w0 : World} {g : Nm → Value} {z : Nat → Option Obj} {d : List (List DV)} {b : Nat → MV}, JV d → (b 0).d = d → 0 ≤ (b 1).i → (b 1).i ≤ d.length → Tri Tryz.prog fn.ntmps ac (At w0 fn.ntmps (vb b g z) s0) fun e a w => e = .ret ∧ ∃ ρ' s', saysTrue res s' = true ∧ At w0 fn.ntmps ρ' s' a w) : NatOk Tryz.prog (envR F) f (natJV F) := by
  intro vs v hv ρ φ h w us he hr hu
  have hp : StdF ρ ∧ ∀ f ∈ F, f.holds QR ρ := envR_prop he
  unfold natJV at hv
  split at hv
  · rename_i f1 xc c
    split at hv
    · rename_i ey hey
      cases hc' : ((decide (f1 = 1) && decide (ey.1 = shE)) && (fdP F 1 [ey.2] && durB F ey.2 c)) with
      | false => rw [hc'] at hv; cases hv
      | true =>
        rw [hc'] at hv
        cases hv
        rw [Bool.and_eq_true, Bool.and_eq_true, Bool.and_eq_true, decide_eq_true_eq, decide_eq_true_eq] at hc'
        obtain ⟨⟨rfl, he1⟩, hc2, hc3⟩ := hc'
        have hjv : JV (ρ.d ey.2) := fdP_ok hp.2 hc2
        cases hu with
        | cons a1 t1 =>
          cases t1
          obtain ⟨xs, rfl, hx⟩ := a1
          cases hx with
          | cons x1 t2 =>
            cases t2 with
            | cons x2 t3 =>
              cases t3 with
              | cons x3 t4 =>
                cases t4
                unfold durB at hc3
                split at hc3
                · rename_i q hq
                  rw [Bool.and_eq_true] at hc3
                  obtain ⟨k1, k2⟩ := hc3
                  split at k2
                  · rename_i g2 g3
                    have e1 := cmpF_ok hp.1 hp.2 g2
                    have e2 := cmpF_ok hp.1 hp.2 g3
                    rw [hp.1.num] at e1
                    rw [lenN_ok hp.1 hp.2] at e2
                    simp only [icmp, Option.some.injEq, decide_eq_true_eq] at e1 e2
                    have hv3 := nmI_ok hp.1.toStdA hq x3
                    have hk := isI64_eq k1
                    have hsl := dsN_ok hey x2
                    rw [he1] at hsl
                    exact true_of (b := fun j => if j = 0 then { d := ρ.d ey.2 } else { i := ρ.i q.2 }) (g := fun _ => .bool false) (s0 := s0) (ac := ac) (res := res) (args := [.a [.i .i64 1, .ds shE (.v 0), .si .i64 (.v 1)]]) hf hc hs h0 hr (.cons ⟨_, rfl, .cons x1 (.cons hsl (.cons (by rw [hv3, hk]; rfl) .nil))⟩ .nil) (ht hjv rfl e1 e2)
                  · cases k2
                · cases hc3
    · cases hv
  · cases hv
theorem natJV_ok (F : List Fc) : NatOk Tryz.prog (envR F) 50 (natJV F) := natJV_of Tryz.func50 (by kernel_rfl) ⟨_, rfl, rfl⟩ rfl jv_tri
def aS0 : Lit := ⟨[(.x0, .x0, (.c (.ds (.i .i64 .nil) (.v M0)))), (.x0, .x1, (.c Z1)), (.x0, .x2, (.c (.si .i64 (.v M1)))), (.x0, .x3, (.c Z1))], [], B000⟩
def aS1 : Lit := ⟨[(.x0, .x0, (.c (.ds (.i .i64 .nil) (.v M0)))), (.x0, .x1, (.c Z1)), (.x0, .x2, (.c (.si .i64 (.v M1)))), (.x0, .x3, (.c Z1)), (.x0, .x8, (.c (.b false)))], [], B000⟩
def aSH : Lit := ⟨[(.x0, .x0, (.c (.ds (.i .i64 .nil) (.v M0)))), (.x0, .x1, (.c Z1)), (.x0, .x2, (.c (.si .i64 (.v M1)))), (.x0, .x3, (.c Z1)), (.x0, .x8, (.c (.b false))), (.x0, .xb, (.c (.ds (.i .i64 .nil) (.v M0)))), (.x0, .xc, (.c (.si .i64 (.v M3)))), (.x0, .xd, (.c (.si .i64 (.v M2))))], [], B000⟩
def shI : Sh := (.i .i64 .nil)
def aF : List Fc := [.rng (.f1 M5 (.v M0)) J0 J4000, .rng (.v M1) (Int.negSucc M3999) J4000]
def aR1 : Rn := ⟨[(M1, (.v M1))], [], [], [(M0, (.v M0))], []⟩
def aR2 : Rn := ⟨[(M1, (.v M1)), (M2, (.num J0)), (M3, (.f1 M5 (.v M0)))], [], [], [(M0, (.v M0))], []⟩
def aBody : ACd := bodyA c196
def aRes : List AR := resA c196
def aX : ACd := cutR 1 aBody
def aRi : ACd := fstA (fstA aX)
def aB : ACd := innA (innA (sndA (fstA aX)))
def aRe : ACd := sndA aX
theorem aX_eq : aX = .seq (.seq aRi (.block M0 (.loop aB))) aRe := by kernel_rfl
theorem aCut : cutA 1 aBody = some (cutL 1 aBody, aX) := by kernel_rfl
theorem aRun1 : endsAt .nrm [] aR1.nms aS1 (runL Tryz.prog (envR aF) (tblJ aF) M60 (cutL 1 aBody) aS0.frame aS0.hp) = true := by kernel_rfl
theorem aRun2 : endsAt .nrm [] aR2.nms aSH (aev Tryz.prog (envR aF) (tblJ aF) M60 aRi aS1.frame aS1.hp) = true := by kernel_rfl
def aGA : List Fc := [.rng (.v M2) J0 J0, .rng (.v M3) J0 J4000, .dif (.v M2) (.v M3) (Int.negSucc M3999) (Int.negSucc M0), .dif (.v M2) (.f1 M5 (.v M0)) (Int.negSucc M3999) (Int.negSucc M0), .rng (.f2 M100 (.v M0) (.v M2)) J1 J4000, .dif (.f2 M100 (.v M0) (.v M2)) (.v M1) (Int.negSucc M3999) J0]
def aR3A : Rn := ⟨[(M1, (.v M1)), (M2, (.num J1)), (M3, (.v M3))], [], [], [(M0, (.v M0))], []⟩
theorem aRun3A : endsAt .nrm [] aR3A.nms aSH (aev Tryz.prog (envR (aF ++ aGA)) (tblJ (aF ++ aGA)) M60 aB aSH.frame aSH.hp) = true := by kernel_rfl
def aGB : List Fc := [.rng (.v M2) J1 J4000, .rng (.v M3) J0 J4000, .dif (.v M2) (.v M3) (Int.negSucc M3999) (Int.negSucc M0), .dif (.v M2) (.f1 M5 (.v M0)) (Int.negSucc M3999) (Int.negSucc M0), .rng (.f2 M100 (.v M0) (.v M2)) J1 J4000, .dif (.f2 M100 (.v M0) (.v M2)) (.v M1) (Int.negSucc M3999) J0, .rng (.f2 M100 (.v M0) (.f2 M1000 (.v M2) (.num (Int.negSucc M0)))) J1 J4000, .dif (.f2 M100 (.v M0) (.f2 M1000 (.v M2) (.num (Int.negSucc M0)))) (.f2 M100 (.v M0) (.v M2)) (Int.negSucc M3999) (Int.negSucc M0)]
def aR3B : Rn := ⟨[(M1, (.v M1)), (M2, (.f2 M1000 (.v M2) (.num J1))), (M3, (.v M3))], [], [], [(M0, (.v M0))], []⟩
theorem aRun3B : endsAt .nrm [] aR3B.nms aSH (aev Tryz.prog (envR (aF ++ aGB)) (tblJ (aF ++ aGB)) M60 aB aSH.frame aSH.hp) = true := by kernel_rfl
def aGx : List Fc := [.rng (.v M2) J0 J4000, .rng (.v M3) J0 J4000, .dif (.v M2) (.v M3) J0 J0]
def aR4 : Rn := ⟨[(M1, (.v M1)), (M2, (.v M2)), (M3, (.v M3))], [], [], [(M0, (.v M0))], []⟩
theorem aRun4 : endsAt (.ex M0) [] aR4.nms aSH (aev Tryz.prog (envR (aF ++ aGx)) (tblJ (aF ++ aGx)) M60 aB aSH.frame aSH.hp) = true := by kernel_rfl
def aSE : Lit := ⟨[(.x0, .x8, (.c (.b true)))], [], B000⟩
def aR5 : Rn := ⟨[], [], [], [], []⟩
theorem aRun5 : endsAt .ret [] aR5.nms aSE (aev Tryz.prog (envR aF) (tblJ aF) M60 aRe aSH.frame aSH.hp) = true := by kernel_rfl
theorem aSays : saysTrue aRes aSE = true := by kernel_rfl
section
variable {w0 : World} {N : Nat} {g : Nm → Value} {z : Nat → Option Obj} {d : List (List DV)} {top : Int} {b : Nat → MV}
structure AInv (d : List (List DV)) (top : Int) (b : Nat → MV) : Prop where
  y : (b 0).d = d
  m : (b 1).i = top
  i0 : 0 ≤ (b 2).i
  i1 : (b 2).i ≤ d.length
  n : (b 3).i = d.length
theorem aF_ok (hd : Asc d top) (hm : -4000 ≤ top) (h0 : (b 0).d = d) (h1 : (b 1).i = top) : ∀ f ∈ aF, f.holds QR (vb b g z) := by
  have hl := hd.1
  have ht := hd.2.1
  exact facts_cons ⟨Int.natCast_nonneg _, (by show (((b 0).d.length : Nat) : Int) ≤ 4000; rw [h0]; omega)⟩ (facts_cons ⟨(by show (-4000 : Int) ≤ (b 1).i; omega), (by show (b 1).i ≤ 4000; omega)⟩ facts_nil)
theorem aRound (hd : Asc d top) (hm : -4000 ≤ top) (h : AInv d top b) : Tri Tryz.prog N aB (At w0 N (vb b g z) aSH) fun e a w => (e = .normal ∧ ∃ b', (d.length - (b' 2).i.toNat) < (d.length - (b 2).i.toNat) ∧ AInv d top b' ∧ At w0 N (vb b' g z) aSH a w) ∨ (e = .exit 0 ∧ ∃ b', AInv d top b' ∧ At w0 N (vb b' g z) aSH a w) := by
  have base := aF_ok (g := g) (z := z) hd hm h.y h.m
  obtain ⟨hl, ht, ns, hns, hp, hb⟩ := hd
  have hi0 := h.i0
  have hi1 := h.i1
  have hn := h.n
  have hmm := h.m
  obtain ⟨i, hi⟩ := Int.eq_ofNat_of_zero_le h.i0
  have hlen : ns.length = d.length := by rw [hns, List.length_map]
  by_cases hlt : (b 2).i < d.length
  · have hin : i < ns.length := by omega
    have hrow : d[i]? = some [DV.i ns[i]] := by rw [hns, List.getElem?_map, List.getElem?_eq_getElem hin]; rfl
    have hy : ((vb b g z).d (.v 0))[i]? = some [DV.i ns[i]] := (congrArg (fun x : List (List DV) => x[i]?) h.y).trans hrow
    have hi' : (vb b g z).i (.v 2) = i := hi
    have hc0 : (vb b g z).i (.f2 (100 + 0) (.v 0) (.v 2)) = ns[i] := ci_row hy hi' 0 (by decide) rfl
    have hbi := hb ns[i] (List.getElem_mem hin)
    have f1 : ∀ f ∈ ([.rng (.v M3) J0 J4000, .dif (.v M2) (.v M3) (Int.negSucc M3999) (Int.negSucc M0), .dif (.v M2) (.f1 M5 (.v M0)) (Int.negSucc M3999) (Int.negSucc M0), .rng (.f2 M100 (.v M0) (.v M2)) J1 J4000, .dif (.f2 M100 (.v M0) (.v M2)) (.v M1) (Int.negSucc M3999) J0] : List Fc), f.holds QR (vb b g z) := facts_cons ⟨(by show 0 ≤ (b 3).i; omega), (by show (b 3).i ≤ 4000; omega)⟩ (facts_cons ⟨(by show (-4000 : Int) ≤ (b 2).i - (b 3).i; omega), (by show (b 2).i - (b 3).i ≤ -1; omega)⟩ (facts_cons ⟨(by show (-4000 : Int) ≤ (b 2).i - (((b 0).d.length : Nat) : Int); rw [h.y]; omega), (by show (b 2).i - (((b 0).d.length : Nat) : Int) ≤ -1; rw [h.y]; omega)⟩
      (facts_cons (by show (1 : Int) ≤ (vb b g z).i (.f2 (100 + 0) (.v 0) (.v 2)) ∧ (vb b g z).i (.f2 (100 + 0) (.v 0) (.v 2)) ≤ 4000; rw [hc0]; omega) (facts_cons (by show (-4000 : Int) ≤ (vb b g z).i (.f2 (100 + 0) (.v 0) (.v 2)) - (b 1).i ∧ (vb b g z).i (.f2 (100 + 0) (.v 0) (.v 2)) - (b 1).i ≤ 0; rw [hc0]; omega) facts_nil))))
    by_cases h0 : i = 0
    · subst h0
      refine (Tri.run (codeJ _ _) (envR_ok (facts_app base (G := aGA) (facts_cons ⟨hi0, (by show (b 2).i ≤ 0; omega)⟩ f1))) aRun3A (ren_nb (by decide))).post fun e a w hq => .inl ⟨hq.1, nb b aR3A, ?_, ⟨h.y, h.m, (by show (0 : Int) ≤ 1; omega), (by show (1 : Int) ≤ d.length; omega), h.n⟩, hq.2⟩
      have : (nb b aR3A 2).i = 1 := rfl
      rw [this]; omega
    · have hin' : i - 1 < ns.length := by omega
      have hrow' : d[i - 1]? = some [DV.i ns[i - 1]] := by rw [hns, List.getElem?_map, List.getElem?_eq_getElem hin']; rfl
      have hy' : ((vb b g z).d (.v 0))[i - 1]? = some [DV.i ns[i - 1]] := (congrArg (fun x : List (List DV) => x[i - 1]?) h.y).trans hrow'
      have hi2 : (vb b g z).i (.f2 1000 (.v 2) (.num (-1))) = ((i - 1 : Nat) : Int) := by show (b 2).i + -1 = _; omega
      have hc1 : (vb b g z).i (.f2 (100 + 0) (.v 0) (.f2 1000 (.v 2) (.num (-1)))) = ns[i - 1] := ci_row hy' hi2 0 (by decide) rfl
      have hbj := hb ns[i - 1] (List.getElem_mem hin')
      have hpp : ns[i - 1] < ns[i] := List.pairwise_iff_getElem.1 hp (i - 1) i hin' hin (by omega)
      refine (Tri.run (codeJ _ _) (envR_ok (facts_app base (G := aGB) (facts_cons ⟨(by show (1 : Int) ≤ (b 2).i; omega), (by show (b 2).i ≤ 4000; omega)⟩ (facts_app f1 (facts_cons (by show (1 : Int) ≤ (vb b g z).i (.f2 (100 + 0) (.v 0) (.f2 1000 (.v 2) (.num (-1)))) ∧ (vb b g z).i (.f2 (100 + 0) (.v 0) (.f2 1000 (.v 2) (.num (-1)))) ≤ 4000; rw [hc1]; omega) (facts_cons (by show (-4000 : Int) ≤ (vb b g z).i (.f2 (100 + 0) (.v 0) (.f2 1000 (.v 2) (.num (-1)))) - (vb b g z).i (.f2 (100 + 0) (.v 0) (.v 2)) ∧ (vb b g z).i (.f2 (100 + 0) (.v 0) (.f2 1000 (.v 2) (.num (-1)))) - (vb b g z).i (.f2 (100 + 0) (.v 0) (.v 2)) ≤ -1; rw [hc0, hc1]; omega) facts_nil)))))) aRun3B (ren_nb (by decide))).post fun e a w hq => .inl ⟨hq.1, nb b aR3B, ?_, ⟨h.y, h.m, (by show (0 : Int) ≤ (b 2).i + 1; omega), (by show (b 2).i + 1 ≤ d.length; omega), h.n⟩, hq.2⟩
      have : (nb b aR3B 2).i = (b 2).i + 1 := rfl
      rw [this]; omega
  · refine (Tri.run (codeJ _ _) (envR_ok (facts_app base (G := aGx) (facts_cons ⟨hi0, (by show (b 2).i ≤ 4000; omega)⟩ (facts_cons ⟨(by show 0 ≤ (b 3).i; omega), (by show (b 3).i ≤ 4000; omega)⟩ (facts_cons ⟨(by show (0 : Int) ≤ (b 2).i - (b 3).i; omega), (by show (b 2).i - (b 3).i ≤ 0; omega)⟩ facts_nil))))) aRun4 (ren_nb (by decide))).post fun e a w hq => .inr ⟨hq.1, nb b aR4, ⟨h.y, h.m, h.i0, h.i1, h.n⟩, hq.2⟩
theorem asc_tri (hd : Asc d top) (hm : -4000 ≤ top) (h0 : (b 0).d = d) (h1 : (b 1).i = top) : Tri Tryz.prog N aBody (At w0 N (vb b g z) aS0) fun e a w => e = .ret ∧ ∃ ρ' s', saysTrue aRes s' = true ∧ At w0 N ρ' s' a w := by
  have base := aF_ok (g := g) (z := z) hd hm h0 h1
  refine Tri.pre_run (codeJ _ _) (envR_ok base) aCut aRun1 (ren_nb (by decide)) ?_
  have base1 := aF_ok (b := nb b aR1) (g := g) (z := z) hd hm h0 h1
  rw [aX_eq]
  refine Tri.seq (Mid := fun a w => ∃ b', AInv d top b' ∧ At w0 N (vb b' g z) aSH a w) ?_ ?_
  · refine Tri.seq (Mid := fun a w => ∃ b', AInv d top b' ∧ At w0 N (vb b' g z) aSH a w) ?_ ?_
    · refine (Tri.run (codeJ _ _) (envR_ok base1) aRun2 (ren_nb (by decide))).post fun e a w hq => .inl ⟨hq.1, nb (nb b aR1) aR2, ⟨h0, h1, (by show (0 : Int) ≤ 0; omega), (by show (0 : Int) ≤ d.length; omega), (by show (((b 0).d.length : Nat) : Int) = d.length; rw [h0])⟩, hq.2⟩
    · exact (tri_loop1 (fun b => d.length - (b 2).i.toNat) (AInv d top) (AInv d top) aSH aSH fun b' hb' => aRound hd hm hb').post fun e a w hq => .inl hq
  · refine Tri.ex fun b' => Tri.imp fun hb' => ?_
    exact (Tri.run (codeJ _ _) (envR_ok (aF_ok (g := g) (z := z) hd hm hb'.y hb'.m)) aRun5 (ren_nb (by decide))).post fun e a w hq => ⟨hq.1, _, _, aSays, hq.2⟩
end
def natAsc (F : List Fc) : List AV → Option AV
  | [.c (.ds e y), .c (.i .i64 l), .c m, .c (.i .i64 st)] => bif (decide (l = 1) && decide (st = 1)) && decide (e = shI) then (match nmI m with
    | some x => bif isI64 x.1 && (fdP F 3 [y, x.2] && (match cmpF F .leq (.num (-4000)) x.2 with | some true => true | _ => false)) then some (.c (.b true)) else none
    | none => none) else none
  | _ => none
theorem natAsc_ok (F : List Fc) : NatOk Tryz.prog (envR F) 196 (natAsc F) := by
  intro vs v hv ρ φ h w us he hr hu
  have hp : StdF ρ ∧ ∀ f ∈ F, f.holds QR ρ := envR_prop he
  unfold natAsc at hv
  split at hv
  · rename_i e y l m st
    cases hc : ((decide (l = 1) && decide (st = 1)) && decide (e = shI)) with
    | false => rw [hc] at hv; cases hv
    | true =>
      rw [hc] at hv
      rw [Bool.and_eq_true, Bool.and_eq_true, decide_eq_true_eq, decide_eq_true_eq, decide_eq_true_eq] at hc
      obtain ⟨⟨rfl, rfl⟩, rfl⟩ := hc
      simp only [cond_true] at hv
      split at hv
      · rename_i x hx
        cases hc : (isI64 x.1 && (fdP F 3 [y, x.2] && (match cmpF F .leq (.num (-4000)) x.2 with | some true => true | _ => false))) with
        | false => rw [hc] at hv; cases hv
        | true =>
          rw [hc] at hv
          cases hv
          rw [Bool.and_eq_true, Bool.and_eq_true] at hc
          obtain ⟨k1, k2, k3⟩ := hc
          have hasc : Asc (ρ.d y) (ρ.i x.2) := fdP_ok hp.2 k2
          split at k3
          · rename_i g2
            have e1 := cmpF_ok hp.1 hp.2 g2
            rw [hp.1.num] at e1
            simp only [icmp, Option.some.injEq, decide_eq_true_eq] at e1
            cases hu with
            | cons x1 t1 =>
              cases t1 with
              | cons x2 t2 =>
                cases t2 with
                | cons x3 t3 =>
                  cases t3 with
                  | cons x4 t4 =>
                    cases t4
                    have hv3 := nmI_ok hp.1.toStdA hx x3
                    have hk := isI64_eq k1
                    exact true_of (b := fun j => if j = 0 then { d := ρ.d y } else { i := ρ.i x.2 }) (g := fun _ => .bool false) (s0 := aS0) (ac := aBody) (res := aRes) (args := [.c (.ds shI (.v 0)), .c (.i .i64 1), .c (.si .i64 (.v 1)), .c (.i .i64 1)]) Tryz.func196 (by kernel_rfl) ⟨_, rfl, rfl⟩ rfl hr (.cons x1 (.cons x2 (.cons (by rw [hv3, hk]; rfl) (.cons x4 .nil)))) (asc_tri hasc e1 rfl rfl)
          · cases k3
      · cases hv
  · cases hv
end Go.Proofs.YtjnfgapfhpihmaaGreat
