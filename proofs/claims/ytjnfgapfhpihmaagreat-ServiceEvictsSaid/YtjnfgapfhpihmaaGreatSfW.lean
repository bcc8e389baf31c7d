/-
  The law's loop, from the runs of its rounds.
-/
import Derived.Test.YtjnfgapfhpihmaaGreatSfE
import Derived.Test.YtjnfgapfhpihmaaGreatKV0
import Derived.Test.YtjnfgapfhpihmaaGreatSeF
set_option linter.unusedVariables false
set_option linter.unusedSimpArgs false
section
set_option maxRecDepth 100000
namespace Go.Proofs.YtjnfgapfhpihmaaGreat
open Go.RowKit
noncomputable def tblTx : Tab := tabOf [(⟨.x0, .x3, .xf⟩, c63)]
theorem tblTx_ok {E : Env} : TabOk Tryz.prog E tblTx := tab_cons tab_nil e63
noncomputable def insTx : List AV → Hp → RO := natSplit (callBy tblTx (aev Tryz.prog envI tblTx (nat_lit 200))) ⟨.x0, .x3, .xf⟩
theorem insTx_ok {E : Env} : EntOk Tryz.prog E ⟨.x0, .x3, .xf⟩ (.natm insTx) := natSplit_ok (eval_ok tblTx_ok mixedS _) (e63 (E := envI)).1
noncomputable def natTryT (F : List Fc) (T : Tab) : List AV → Hp → RO := tryG Tryz.prog (envR F) (callBy T (aev Tryz.prog (envR F) T (nat_lit 2000))) (aev Tryz.prog (envR F) T (nat_lit 500)) r1Try oMTry .x0 .x4 r3Try restTry .x0 .x5 resTry
theorem natTryT_ok (F : List Fc) {T : Tab} (hT : TabOk Tryz.prog (envR F) T) : EntOk Tryz.prog (envR F) ⟨.x0, .x2, .x2⟩ (.natm (natTryT F T)) := by
  refine ⟨entTry, ?_⟩
  intro vs v h h' e ρ φ w us he hr hu
  refine try_ok (f := ⟨.x0, .x2, .x2⟩) (g := ⟨.x0, .x5, .x5⟩) (T := T) (n := nat_lit 500) hT mixedS (eval_ok hT mixedS (nat_lit 2000)) Tryz.func34 rfl (l1 := r1Try) (by kernel_rfl) (oM := oMTry) (by kernel_rfl) (by kernel_rfl)
    rfl rfl rfl rfl rfl (l3 := r3Try) (by kernel_rfl) (res := resTry) (by kernel_rfl) Tryz.func85 rfl rfl (fun args w => enter_run Tryz.func85 (by kernel_rfl) rfl args w) rfl rfl rfl rfl (by decide) (arest := restTry) (by kernel_rfl)
    vs v h h' e (fun _ _ _ _ _ => trivial) try_fn ρ φ w us he hr hu
noncomputable def lA : List (Bid × AFn) := [(⟨.x0, .x2, .x7⟩, .nat natMust), (⟨.x0, .xd, .xe⟩, .nat natPut), (⟨.x0, .xe, .x0⟩, .nat natSum), (⟨.x0, .x3, .x0⟩, .nat natRepeat), (⟨.x0, .x8, .x8⟩, .natm insG), (⟨.x0, .x3, .xf⟩, .natm insTx), (⟨.x0, .x0, .x4⟩, c4), (⟨.x0, .x0, .x6⟩, c6), (⟨.x0, .x0, .x7⟩, c7), (⟨.x0, .x0, .xa⟩, c10), (⟨.x0, .x0, .xc⟩, c12), (⟨.x0, .x0, .xd⟩, c13), (⟨.x0, .x0, .xe⟩, c14), (⟨.x0, .x0, .xf⟩, c15), (⟨.x0, .x1, .x0⟩, c16), (⟨.x0, .x1, .x6⟩, c22), (⟨.x0, .x1, .x7⟩, c23), (⟨.x0, .x1, .x8⟩, c24), (⟨.x0, .x1, .x9⟩, c25), (⟨.x0, .x1, .xa⟩, c26), (⟨.x0, .x1, .xb⟩, c27), (⟨.x0, .x1, .xc⟩, c28), (⟨.x0, .x1, .xd⟩, c29), (⟨.x0, .x1, .xe⟩, c30), (⟨.x0, .x1, .xf⟩, c31), (⟨.x0, .x2, .x0⟩, c32), (⟨.x0, .x2, .x1⟩, c33), (⟨.x0, .x2, .x3⟩, c35), (⟨.x0, .x2, .x4⟩, c36), (⟨.x0, .x2, .xf⟩, c47), (⟨.x0, .x3, .x1⟩, c49), (⟨.x0, .x3, .x2⟩, c50), (⟨.x0, .x3, .x3⟩, c51), (⟨.x0, .x3, .x4⟩, c52), (⟨.x0, .x3, .x5⟩, c53), (⟨.x0, .x3, .x6⟩, c54), (⟨.x0, .x3, .x7⟩, c55), (⟨.x0, .x3, .x8⟩, c56), (⟨.x0, .x3, .x9⟩, c57), (⟨.x0, .x3, .xa⟩, c58), (⟨.x0, .x3, .xb⟩, c59), (⟨.x0, .x3, .xc⟩, c60), (⟨.x0, .x3, .xd⟩, c61), (⟨.x0, .x3, .xe⟩, c62), (⟨.x0, .x4, .x0⟩, c64), (⟨.x0, .x4, .x1⟩, c65), (⟨.x0, .x4, .x3⟩, c67), (⟨.x0, .x4, .x4⟩, c68), (⟨.x0, .x4, .x5⟩, c69), (⟨.x0, .x4, .x6⟩, c70), (⟨.x0, .x4, .x7⟩, c71), (⟨.x0, .x4, .xa⟩, c74), (⟨.x0, .x4, .xc⟩, c76), (⟨.x0, .x4, .xd⟩, c77), (⟨.x0, .x4, .xe⟩, c78), (⟨.x0, .x4, .xf⟩, c79), (⟨.x0, .x5, .x0⟩, c80), (⟨.x0, .x5, .x1⟩, c81), (⟨.x0, .x5, .x2⟩, c82), (⟨.x0, .x5, .x6⟩, c86), (⟨.x0, .x5, .x7⟩, c87), (⟨.x0, .x5, .x8⟩, c88), (⟨.x0, .x5, .x9⟩, c89), (⟨.x0, .x5, .xa⟩, c90), (⟨.x0, .x5, .xb⟩, c91), (⟨.x0, .x5, .xc⟩, c92), (⟨.x0, .x6, .xc⟩, c108), (⟨.x0, .x7, .x2⟩, c114), (⟨.x0, .x7, .x3⟩, c115), (⟨.x0, .x7, .x4⟩, c116), (⟨.x0, .x7, .x5⟩, c117), (⟨.x0, .x7, .x6⟩, c118), (⟨.x0, .x7, .x7⟩, c119), (⟨.x0, .x7, .x9⟩, c121), (⟨.x0, .x7, .xb⟩, c123), (⟨.x0, .x7, .xc⟩, c124), (⟨.x0, .x7, .xd⟩, c125), (⟨.x0, .x7, .xe⟩, c126), (⟨.x0, .x7, .xf⟩, c127), (⟨.x0, .x8, .x0⟩, c128), (⟨.x0, .x8, .x1⟩, c129), (⟨.x0, .x8, .x4⟩, c132), (⟨.x0, .x8, .x7⟩, c135), (⟨.x0, .x8, .x9⟩, c137), (⟨.x0, .x8, .xa⟩, c138), (⟨.x0, .x8, .xc⟩, c140), (⟨.x0, .x8, .xf⟩, c143), (⟨.x0, .x9, .x2⟩, c146), (⟨.x0, .x9, .x3⟩, c147), (⟨.x0, .x9, .x4⟩, c148), (⟨.x0, .x9, .x5⟩, c149), (⟨.x0, .x9, .x6⟩, c150), (⟨.x0, .x9, .x7⟩, c151), (⟨.x0, .x9, .x8⟩, c152), (⟨.x0, .x9, .x9⟩, c153), (⟨.x0, .x9, .xa⟩, c154), (⟨.x0, .x9, .xb⟩, c155), (⟨.x0, .x9, .xd⟩, c157), (⟨.x0, .x9, .xe⟩, c158), (⟨.x0, .xa, .x0⟩, c160), (⟨.x0, .xa, .x2⟩, c162), (⟨.x0, .xa, .x3⟩, c163), (⟨.x0, .xa, .x4⟩, c164), (⟨.x0, .xa, .x5⟩, c165), (⟨.x0, .xa, .x6⟩, c166), (⟨.x0, .xa, .x8⟩, c168), (⟨.x0, .xa, .x9⟩, c169), (⟨.x0, .xb, .x8⟩, c184), (⟨.x0, .xb, .xc⟩, c188), (⟨.x0, .xb, .xd⟩, c189), (⟨.x0, .xb, .xe⟩, c190), (⟨.x0, .xb, .xf⟩, c191), (⟨.x0, .xc, .x0⟩, c192), (⟨.x0, .xc, .x1⟩, c193), (⟨.x0, .xc, .x2⟩, c194), (⟨.x0, .xc, .x3⟩, c195), (⟨.x0, .xc, .x4⟩, c196), (⟨.x0, .xc, .x5⟩, c197), (⟨.x0, .xc, .x7⟩, c199), (⟨.x0, .xc, .xa⟩, c202), (⟨.x0, .xc, .xb⟩, c203), (⟨.x0, .xd, .x0⟩, c208), (⟨.x0, .xd, .x1⟩, c209), (⟨.x0, .xd, .x4⟩, c212), (⟨.x0, .xd, .x6⟩, c214), (⟨.x0, .xd, .x7⟩, c215), (⟨.x0, .xd, .x8⟩, c216), (⟨.x0, .xd, .xc⟩, c220), (⟨.x0, .xd, .xd⟩, c221), (⟨.x0, .xd, .xf⟩, c223), (⟨.x0, .xe, .x1⟩, c225), (⟨.x0, .xe, .x7⟩, c231), (⟨.x0, .xe, .x8⟩, c232), (⟨.x0, .xe, .x9⟩, c233), (⟨.x0, .xe, .xa⟩, c234), (⟨.x0, .xe, .xb⟩, c235), (⟨.x0, .xe, .xd⟩, c237), (⟨.x0, .xe, .xe⟩, c238), (⟨.x0, .xf, .x7⟩, c247), (⟨.x0, .xf, .x8⟩, c248), (⟨.x0, .xf, .xb⟩, c251), (⟨.x0, .xf, .xc⟩, c252), (⟨.x1, .x0, .x2⟩, c258), (⟨.x1, .x0, .x3⟩, c259), (⟨.x1, .x0, .x4⟩, c260), (⟨.x1, .x0, .x5⟩, c261), (⟨.x1, .x0, .x6⟩, c262), (⟨.x1, .x1, .x3⟩, c275), (⟨.x1, .x1, .x4⟩, c276), (⟨.x1, .x1, .x5⟩, c277), (⟨.x1, .x1, .x8⟩, c280), (⟨.x1, .x2, .x9⟩, c297), (⟨.x1, .x2, .xd⟩, c301)]
theorem lA_ok : TabOk Tryz.prog (envR []) (tabOf lA) := tab_cons (tab_cons (tab_cons (tab_cons (tab_cons (tab_cons (tab_cons (tab_cons (tab_cons (tab_cons (tab_cons (tab_cons (tab_cons (tab_cons (tab_cons (tab_cons (tab_cons (tab_cons (tab_cons (tab_cons (tab_cons (tab_cons (tab_cons (tab_cons (tab_cons (tab_cons (tab_cons (tab_cons (tab_cons (tab_cons (tab_cons (tab_cons (tab_cons (tab_cons (tab_cons (tab_cons (tab_cons (tab_cons (tab_cons (tab_cons (tab_cons (tab_cons (tab_cons (tab_cons (tab_cons (tab_cons (tab_cons (tab_cons (tab_cons (tab_cons (tab_cons (tab_cons (tab_cons (tab_cons (tab_cons (tab_cons (tab_cons (tab_cons (tab_cons (tab_cons (tab_cons (tab_cons (tab_cons (tab_cons (tab_cons (tab_cons (tab_cons (tab_cons (tab_cons (tab_cons (tab_cons (tab_cons (tab_cons (tab_cons (tab_cons (tab_cons (tab_cons (tab_cons (tab_cons (tab_cons (tab_cons (tab_cons (tab_cons (tab_cons (tab_cons (tab_cons (tab_cons (tab_cons (tab_cons (tab_cons (tab_cons (tab_cons (tab_cons (tab_cons (tab_cons (tab_cons (tab_cons (tab_cons (tab_cons (tab_cons (tab_cons (tab_cons (tab_cons (tab_cons (tab_cons (tab_cons (tab_cons (tab_cons (tab_cons (tab_cons (tab_cons (tab_cons (tab_cons (tab_cons (tab_cons (tab_cons (tab_cons (tab_cons (tab_cons (tab_cons (tab_cons (tab_cons (tab_cons (tab_cons (tab_cons (tab_cons (tab_cons (tab_cons (tab_cons (tab_cons (tab_cons (tab_cons (tab_cons (tab_cons (tab_cons (tab_cons (tab_cons (tab_cons (tab_cons (tab_cons (tab_cons (tab_cons (tab_cons (tab_cons (tab_cons (tab_cons (tab_cons (tab_cons (tab_cons (tab_cons (tab_cons (tab_cons (tab_cons (tab_nil) e301) e297) e280) e277) e276) e275) e262) e261) e260) e259) e258) e252) e251) e248) e247) e238) e237) e235) e234) e233) e232) e231) e225) e223) e221) e220) e216) e215) e214) e212) e209) e208) e203) e202) e199) e197) e196) e195) e194) e193) e192) e191) e190) e189) e188) e184) e169) e168) e166) e165) e164) e163) e162) e160) e158) e157) e155) e154) e153) e152) e151) e150) e149) e148) e147) e146) e143) e140) e138) e137) e135) e132) e129) e128) e127) e126) e125) e124) e123) e121) e119) e118) e117) e116) e115) e114) e108) e92) e91) e90) e89) e88) e87) e86) e82) e81) e80) e79) e78) e77) e76) e74) e71) e70) e69) e68) e67) e65) e64) e62) e61) e60) e59) e58) e57) e56) e55) e54) e53) e52) e51) e50) e49) e47) e36) e35) e33) e32) e31) e30) e29) e28) e27) e26) e25) e24) e23) e22) e16) e15) e14) e13) e12) e10) e7) e6) e4) (insTx_ok)) (insG_ok)) (natRepeat_ok)) (natSum_ok)) (natPut_ok)) (nat_ok entMust (natMust_ok []))
noncomputable def tblAw : Tab := tabOf ((⟨.x0, .x2, .x2⟩, .natm (natTryT [] (tabOf lA))) :: lA)
theorem tblAw_ok : TabOk Tryz.prog (envR []) tblAw := tab_cons lA_ok (natTryT_ok [] lA_ok)
theorem awakeRun : isTrue (callBy tblAw (aev Tryz.prog (envR []) tblAw (nat_lit 3000)) ⟨.x0, .x0, .x4⟩ [] hp0) = true := by kernel_rfl
theorem awake_ok {E : Env} : EntOk Tryz.prog E ⟨.x0, .x0, .x4⟩ (.nat natTrue) := natTrue_ok (E0 := envR []) (ρ0 := vb (fun _ => {}) gIf fun _ => none) (eval_ok tblAw_ok mixedS _) (envR_ok facts_nil) awakeRun (fun _ => rfl)
noncomputable def tblA (F : List Fc) : Tab := tabOf [(⟨.x0, .x0, .x4⟩, .nat natTrue), (⟨.x0, .x3, .x0⟩, .nat (natRepS F)), (⟨.x0, .x3, .xf⟩, .natm insTx), (⟨.x0, .x3, .x6⟩, .natm (natPI F)), (⟨.x0, .x3, .x4⟩, .nat (natLV F)), (⟨.x0, .x0, .x5⟩, c5), (⟨.x0, .x0, .x6⟩, c6), (⟨.x0, .x0, .x7⟩, c7), (⟨.x0, .x0, .xc⟩, c12), (⟨.x0, .x0, .xd⟩, c13), (⟨.x0, .x0, .xe⟩, c14), (⟨.x0, .x1, .x6⟩, c22), (⟨.x0, .x1, .x7⟩, c23), (⟨.x0, .x1, .x8⟩, c24), (⟨.x0, .x1, .x9⟩, c25), (⟨.x0, .x1, .xa⟩, c26), (⟨.x0, .x1, .xb⟩, c27), (⟨.x0, .x2, .xf⟩, c47), (⟨.x0, .x3, .x1⟩, c49), (⟨.x0, .x3, .x2⟩, c50), (⟨.x0, .x3, .x3⟩, c51), (⟨.x0, .x3, .x5⟩, c53), (⟨.x0, .x3, .x8⟩, c56), (⟨.x0, .x3, .xa⟩, c58), (⟨.x0, .x3, .xc⟩, c60), (⟨.x0, .x3, .xd⟩, c61), (⟨.x0, .x3, .xe⟩, c62), (⟨.x0, .x4, .x0⟩, c64), (⟨.x0, .x4, .x1⟩, c65), (⟨.x0, .x5, .xc⟩, c92), (⟨.x0, .x6, .xc⟩, c108), (⟨.x0, .x7, .x2⟩, c114), (⟨.x0, .x7, .xf⟩, c127), (⟨.x0, .x8, .x0⟩, c128), (⟨.x0, .x8, .x4⟩, c132), (⟨.x0, .xb, .x8⟩, c184)]
theorem tblA_ok (F : List Fc) : TabOk Tryz.prog (envR F) (tblA F) := tab_cons (tab_cons (tab_cons (tab_cons (tab_cons (tab_cons (tab_cons (tab_cons (tab_cons (tab_cons (tab_cons (tab_cons (tab_cons (tab_cons (tab_cons (tab_cons (tab_cons (tab_cons (tab_cons (tab_cons (tab_cons (tab_cons (tab_cons (tab_cons (tab_cons (tab_cons (tab_cons (tab_cons (tab_cons (tab_cons (tab_cons (tab_cons (tab_cons (tab_cons (tab_cons (tab_cons (tab_nil) e184) e132) e128) e127) e114) e108) e92) e65) e64) e62) e61) e60) e58) e56) e53) e51) e50) e49) e47) e27) e26) e25) e24) e23) e22) e14) e13) e12) e7) e6) e5) (nat_ok entLV (natLV_ok F))) (natPI_ok F)) (insTx_ok)) (nat_ok entRep (natRepS_ok F))) (awake_ok)
theorem codeA (F : List Fc) (n : Nat) : CodeOk Tryz.prog (envR F) (tblA F) n := code_ok (tblA_ok F) (draw_ok mixedS) n
def sBeg : Lit := ⟨[(.x0, .x0, .c (.ds shB (.v 50))), (.x0, .x1, .c (.si .u8 (.v 49)))], [], bN .x0⟩
noncomputable def sIni (n : Nat) : Lit := ⟨[(.x0, .x5, .c (.p (bN .x0) 0)), (.x0, .x6, .c (i6 n)), (.x0, .x7, .c (.p (bN .x1) 0)), (.x0, .x9, .c (i6 1)), (.x0, .xb, .c (.sl (bN .x6) 0 n n))],
  [(bN .x0, .cells [.ds shB (.v 50), s6 (.v 8)]), (bN .x1, .cells ([i6 n, i6 2, i6 1, .ds shE (.v 0), s6 (.v 4), i6 1, .sn, i6 0, .ds shG (.v 7), .ds shG (.v 11), .su (bN .x3) 0 1 1 6, .sl (bN .x4) 0 n n, .sn] ++ [.sl (bN .x5) 0 n n, s6 (.v 6), .sn, .b false, .sn])), (bN .x3, .cells [i6 1, i6 1, s6 (.v 2), i6 0, .ds shI (.v 1), .sn]),
    (bN .x4, .cells (upC (fun i => [s6 (nX i), i6 0, i6 0]) n)), (bN .x5, .cells (upN (fun i => .ss (nV i)) n)), (bN .x6, .cells (upN (fun i => .ss (bif Nat.beq 0 2 && Nat.beq i 0 then .v 10 else nD i)) n))], bN .x7⟩
def zT : Nm := .f1 2003 (.num (.ofNat 256))
noncomputable def rnB (n : Nat) (co : Nm) : Rn := ⟨[(2, num 0), (4, num 0), (6, num 0), (8, num 0)] ++ upN (fun i => (Nat.add 100 i, num 0)) n, upN (fun i => (Nat.add 110 i, zT)) n ++ upN (fun i => (Nat.add 130 i, tNo)) n, upN (fun i => (Nat.add 120 i, tT 0)) n, [(0, nmNil), (1, nmNil), (7, nmNil), (11, nmNil), (50, co)], []⟩
def fBeg (n : Nat) (l : Bool) : List Fc := [bif l then .rng (.f1 5 (.v 50)) 201 9223372036854775807 else .rng (.f1 5 (.v 50)) 0 200, .rng (.f2 3 (.v 49) (num 6)) (.ofNat (Nat.sub n 2)) (.ofNat (Nat.sub n 2)), .rng (.v 49) 0 255]
def coT (l : Bool) : Nm := bif l then .f2 1401 (.v 50) (num 200) else .v 50
noncomputable def runB (n : Nat) (l : Bool) : Bool := (rnB n (coT l)).ok && endsX .nrm (rnB n (coT l)).nms (sIni n) (runL Tryz.prog (envR (fBeg n l)) (tblA (fBeg n l)) (nat_lit 2000) (cutL 8 mBody) sBeg.frame sBeg.hp)
theorem runB2 : runB 2 false = true := by kernel_rfl
end Go.Proofs.YtjnfgapfhpihmaaGreat
end
section
set_option maxRecDepth 100000
namespace Go.Proofs.YtjnfgapfhpihmaaGreat
open Go.RowKit
theorem At.mapR {w0 : World} {N : Nat} {ρ : Vn} {s : Lit} {a : Act} {w : World} (h : At w0 N ρ s a w) {f : AC → AC} (hf : ∀ φ, Rel ρ φ s.hp w → ∀ c v, VC ρ φ c v → VC ρ φ (f c) v) : At w0 N ρ (s.map f) a w := by
  obtain ⟨φ, h1, h2, h3, h4, h5⟩ := h
  have hf := hf φ h2
  have hg : ∀ id, (s.map f).hp.get id = (s.hp.get id).map (mapB f) := fun id => memL_map f id s.mem
  have hs : ∀ id, ((s.map f).hp.get id).isSome = (s.hp.get id).isSome := fun id => by rw [hg, Option.isSome_map]
  refine ⟨φ, fun i j v hv => ?_, ⟨⟨fun id c hc => ?_, fun id l hc => ?_, fun id e y hc => ?_, fun i j x y hi hj => h2.inj i j x y (by rw [← hs]; exact hi) (by rw [← hs]; exact hj), fun i hi => h2.low i (by rw [← hs]; exact hi), h2.free⟩, ⟨h2.frz.zin, fun b x hb => ⟨(h2.frz.at_ b x hb).1, fun i y hi => (h2.frz.at_ b x hb).2 i y (by rw [← hs]; exact hi)⟩⟩⟩, ⟨h3.old, h3.size, h3.os, h3.tape, h3.output, fun i x hi => h3.live i x (by rw [← hs]; exact hi)⟩, h4, h5⟩
  · have hv' : (getF i j s.frame).map (mapV f) = some v := (frameL_map f i j s.fr).symm.trans hv
    obtain ⟨u, hu, rfl⟩ := map_some hv'
    obtain ⟨k1, k2⟩ := h1 i j u hu
    refine ⟨k1, ?_⟩
    cases u with
    | c x => exact hf _ _ k2
    | a l => obtain ⟨vs, q1, q2⟩ := k2; exact ⟨vs, q1, q2.mapL fun x y hx => hf _ _ hx⟩
    | t l => exact k2
  · rw [hg] at hc
    obtain ⟨B, hB, e⟩ := map_some hc
    cases B with
    | cells c0 =>
      cases e
      obtain ⟨b, base, arr, T, k1, k2, k3, k4⟩ := h2.cells id c0 hB
      refine ⟨b, base, arr, T, k1, k2, by rw [List.length_map]; exact k3, fun o x hx => ?_⟩
      rw [List.getElem?_map] at hx
      obtain ⟨y, hy, rfl⟩ := map_some hx
      obtain ⟨v, q1, q2⟩ := k4 o y hy
      exact ⟨v, q1, hf _ _ q2⟩
    | map l => cases e
    | row e0 y0 => cases e
  · rw [hg] at hc
    obtain ⟨B, hB, e⟩ := map_some hc
    cases B with
    | cells c0 => cases e
    | map l0 => cases e; exact h2.maps id _ hB
    | row e0 y0 => cases e
  · rw [hg] at hc
    obtain ⟨B, hB, e⟩ := map_some hc
    cases B with
    | cells c0 => cases e
    | map l0 => cases e
    | row e0 y0 => cases e; exact h2.rows id _ _ hB
def fillC (L : List (Bid × Nat × Nat)) : AC → AC
  | .sl id 0 n cap => (match L.find? fun x => decide (x.1 = id) with
    | some x => bif Nat.beq n cap && Nat.beq (Nat.mul n x.2.1) x.2.2 then .su id 0 n n x.2.1 else .sl id 0 n cap
    | none => .sl id 0 n cap)
  | c => c
theorem fillC_ok {L : List (Bid × Nat × Nat)} {ρ : Vn} {φ : Emb} {h : Hp} {w : World} (r : Rel ρ φ h w) (hL : ∀ x ∈ L, ∃ c, h.get x.1 = some (.cells c) ∧ c.length = x.2.2) (c : AC) (v : Value) (hv : VC ρ φ c v) : VC ρ φ (fillC L c) v := by
  unfold fillC
  split
  · rename_i id n cap
    split
    · rename_i x hx
      cases hb : (Nat.beq n cap && Nat.beq (Nat.mul n x.2.1) x.2.2) with
      | false => exact hv
      | true =>
        rw [Bool.and_eq_true] at hb
        cases Nat.eq_of_beq_eq_true hb.1
        have h2 : n * x.2.1 = x.2.2 := Nat.eq_of_beq_eq_true hb.2
        have hid : x.1 = id := by
          have := List.find?_some hx
          exact of_decide_eq_true this
        obtain ⟨cs, h3, h4⟩ := hL x (List.mem_of_find?_eq_some hx)
        obtain ⟨b, base, tot, h5, h6⟩ := hv
        obtain ⟨b', base', arr, T, k1, k2, k3, k4⟩ := r.cells x.1 cs h3
        rw [hid, h5] at k1
        cases k1
        refine ⟨b, base, _, n, h5, h6, Nat.le_refl _, Nat.le_refl _, ?_⟩
        rw [h2, ← h4]
        have : base + cs.length ≤ arr.size := k3
        omega
    · exact hv
  · exact hv
def fillL (n : Nat) : List (Bid × Nat × Nat) := [(bN .x4, 3, 3 * n), (bN .x5, 1, n), (bN .x6, 1, n)]
def okLen (o : Option AB) (n : Nat) : Bool := match o with
  | some (.cells c) => Nat.beq c.length n
  | _ => false
theorem okLen_ok {o : Option AB} {n : Nat} (h : okLen o n = true) : ∃ c, o = some (.cells c) ∧ c.length = n := by
  unfold okLen at h
  split at h
  · exact ⟨_, rfl, Nat.eq_of_beq_eq_true h⟩
  · cases h
theorem ini_at {w0 : World} {N : Nat} {ρ : Vn} {a : Act} {w : World} : ∀ n, 2 ≤ n → n ≤ 7 → At w0 N ρ (sIni n) a w → At w0 N ρ (headS n 0 0) a w := by
  have go : ∀ n, (sIni n).map (fillC (fillL n)) = headS n 0 0 → (∀ x ∈ fillL n, ∃ c, (sIni n).hp.get x.1 = some (.cells c) ∧ c.length = x.2.2) → At w0 N ρ (sIni n) a w → At w0 N ρ (headS n 0 0) a w := fun n e hL h => by
    rw [← e]
    exact h.mapR fun φ r c v hv => fillC_ok r hL c v hv
  have lens : ∀ n, (okLen ((sIni n).hp.get (bN .x4)) (3 * n) && (okLen ((sIni n).hp.get (bN .x5)) n && okLen ((sIni n).hp.get (bN .x6)) n)) = true → ∀ x ∈ fillL n, ∃ c, (sIni n).hp.get x.1 = some (.cells c) ∧ c.length = x.2.2 := by
    intro n h x hx
    rw [Bool.and_eq_true, Bool.and_eq_true] at h
    rcases List.mem_cons.1 hx with rfl | hx
    · exact okLen_ok h.1
    · rcases List.mem_cons.1 hx with rfl | hx
      · exact okLen_ok h.2.1
      · rcases List.mem_cons.1 hx with rfl | hx
        · exact okLen_ok h.2.2
        · cases hx
  intro n h2 h7
  have hn : n = 2 ∨ n = 3 ∨ n = 4 ∨ n = 5 ∨ n = 6 ∨ n = 7 := by omega
  rcases hn with rfl | rfl | rfl | rfl | rfl | rfl
  · exact go 2 (by kernel_rfl) (lens 2 (by kernel_rfl))
  · exact go 3 (by kernel_rfl) (lens 3 (by kernel_rfl))
  · exact go 4 (by kernel_rfl) (lens 4 (by kernel_rfl))
  · exact go 5 (by kernel_rfl) (lens 5 (by kernel_rfl))
  · exact go 6 (by kernel_rfl) (lens 6 (by kernel_rfl))
  · exact go 7 (by kernel_rfl) (lens 7 (by kernel_rfl))
section
variable {w0 : World} {N : Nat} {g : Nm → Value} {z : Nat → Option Obj} {b : Nat → MV}
theorem sub_at {c : Cs} {a : Act} {w : World} (h : Rd c b) (hI : Inv c.n c.k c.q b) (hA : At w0 N (vb b g z) (headS c.n c.k c.q) a w) : At w0 N (vb b g z) (hs c) a w := by
  unfold hs
  cases hr : c.rd with
  | false => exact hA
  | true =>
    have hb := h.st hr
    have hs1 := h.s1
    refine hA.mapR fun φ r x v hv => ?_
    show VC _ _ (subC c.p c.st x) v
    unfold subC
    split
    · rename_i t
      cases hd : decide (t = nC c.p) with
      | false => exact hv
      | true =>
        have ht := of_decide_eq_true hd
        subst ht
        show v = .bool (Nat.beq c.st 1)
        have hv' : v = .bool (b (120 + c.p)).b := hv
        rw [hv', hb]
        have : c.st = 0 ∨ c.st = 1 := by omega
        rcases this with e | e <;> rw [e] <;> rfl
    · rename_i t
      cases hd : (Nat.beq c.st 0 && decide (t = nD c.p)) with
      | false => exact hv
      | true =>
        rw [Bool.and_eq_true] at hd
        have h0 := Nat.eq_of_beq_eq_true hd.1
        have ht := of_decide_eq_true hd.2
        subst ht
        rw [h0] at hb
        have hv' : v = .string (b (130 + c.p)).s := hv
        obtain ⟨⟨_, _, ⟨_, _, h5, _⟩ | ⟨_, _, h5, _⟩⟩, _⟩ := hI.pg c.p h.pn
        · exact ⟨⟨#[]⟩, by rw [hv', h5], rfl⟩
        · rw [h5] at hb; cases hb
    · exact hv
theorem round_tri {c : Cs} (h : Rd c b) (hI : Inv c.n c.k c.q b) (hrun : runC c = true) : Tri Tryz.prog N mLB (At w0 N (vb b g z) (headS c.n c.k c.q)) fun e a w => e = .normal ∧ At w0 N (vb (nb b (rn c)) g z) (headS c.n c.k' c.p) a w := by
  unfold runC at hrun
  rw [Bool.and_eq_true] at hrun
  exact (Tri.runX (codeM (facts c) _) (envR_ok (facts_ok h hI)) hrun.2 (ren_nb hrun.1)).pre fun a w hA => sub_at h hI hA
end
structure St3 where
  k : Nat
  q : Nat
  b : Nat → MV
def Hd (w0 : World) (N n : Nat) (g : Nm → Value) (z : Nat → Option Obj) (x : St3) (a : Act) (w : World) : Prop := (Inv n x.k x.q x.b ∧ (x.k = 0 → x.q = 0)) ∧ At w0 N (vb x.b g z) (headS n x.k x.q) a w
def muS (x : St3) : Nat := (((x.b 50).d.length : Int) - (x.b 8).i).toNat
def Rounds (n : Nat) : Prop := ∀ k q p, k ≤ 2 → (k ≠ 0 → q < n) → (k = 0 → q = 0) → p < n → runP n k q p = true
def Ends (n : Nat) : Prop := ∀ k q, k ≤ 2 → (k ≠ 0 → q < n) → (k = 0 → q = 0) → runZ n k q = true
theorem runP_at {n k q p kd st : Nat} (h : runP n k q p = true) (hk : kd ≤ 1) (hs : st ≤ 1) (h0 : kd = 0 → st = 0) (h1 : k = 2 → q = p → st = 0) : runC ⟨n, k, q, p, kd, st⟩ = true := by
  unfold runP at h
  rw [Bool.and_eq_true, Bool.and_eq_true] at h
  have : kd = 0 ∨ (kd = 1 ∧ st = 0) ∨ (kd = 1 ∧ st = 1) := by omega
  rcases this with rfl | ⟨rfl, rfl⟩ | ⟨rfl, rfl⟩
  · cases h0 rfl
    exact h.1
  · exact h.2.1
  · have h2 := h.2.2
    cases hb : (Nat.beq k 2 && Nat.beq q p) with
    | true =>
      rw [Bool.and_eq_true] at hb
      exact absurd (h1 (Nat.eq_of_beq_eq_true hb.1) (Nat.eq_of_beq_eq_true hb.2)) (by decide)
    | false => rw [hb] at h2; exact h2
section
variable {w0 : World} {N : Nat} {g : Nm → Value} {z : Nat → Option Obj}
theorem none_ok {n k q : Nat} {b : Nat → MV} (hI : Inv n k q b) (hl : ¬ (b 8).i < (b 50).d.length) : ∀ f ∈ fNone, f.holds QR (vb b g z) := by
  have hs := vb_std b g z
  have h1 := hI.at1
  refine facts_cons (f := .rng (.f2 1 (.f1 5 (.v 50)) (.v 8)) 0 0) (show (0 : Int) ≤ (vb b g z).i (.f2 1 (.f1 5 (.v 50)) (.v 8)) ∧ (vb b g z).i (.f2 1 (.f1 5 (.v 50)) (.v 8)) ≤ 0 from ?_) facts_nil
  rw [hs.sub, IntKind.wrap_i64]
  have e : (vb b g z).i (.f1 5 (.v 50)) = (((b 50).d.length : Nat) : Int) := rfl
  have e2 : (vb b g z).i (.v 8) = (b 8).i := rfl
  rw [e, e2]
  omega
theorem loop_round {n : Nat} (hR : Rounds n) (hE : Ends n) (x : St3) : Tri Tryz.prog N mLB (Hd w0 N n g z x) fun e a w => (e = .normal ∧ ∃ y, muS y < muS x ∧ Hd w0 N n g z y a w) ∨ (e ≠ .normal ∧ (e = .exit 0 ∧ ∃ y, Hd w0 N n g z y a w)) := by
  refine Tri.imp fun hx => ?_
  obtain ⟨hI, hq0⟩ := hx
  by_cases hl : (x.b 8).i < (x.b 50).d.length
  · -- a code is left
    have hn := hI.n2
    obtain ⟨p0, p1⟩ := nxt_rng hI.co (x.b 8).i (n := n) (by omega)
    obtain ⟨k0, k1⟩ := nxt_rng hI.co (advF (x.b 50).d (x.b 8).i) (n := 2) (by decide)
    obtain ⟨p, hp⟩ := Int.eq_ofNat_of_zero_le p0
    obtain ⟨kd, hkd⟩ := Int.eq_ofNat_of_zero_le k0
    have hpn : p < n := by omega
    have hkd1 : kd ≤ 1 := by omega
    obtain ⟨st, hst⟩ : ∃ st, st = (if kd = 0 then 0 else if x.k = 2 ∧ x.q = p then 0 else if (x.b (120 + p)).b = true then 1 else 0) := ⟨_, rfl⟩
    have hs1 : st ≤ 1 := by rw [hst]; split <;> (try split) <;> (try split) <;> omega
    have hrd : Rd ⟨n, x.k, x.q, p, kd, st⟩ x.b := ⟨hl, hp, hkd, hpn, hkd1, hs1, fun hr => by
      have hr' : (Nat.beq kd 1 && !(Nat.beq x.k 2 && Nat.beq x.q p)) = true := hr
      rw [Bool.and_eq_true] at hr'
      have e1 := Nat.eq_of_beq_eq_true hr'.1
      show (x.b (120 + p)).b = decide (st ≠ 0)
      rw [hst, if_neg (by omega), if_neg (fun h => ?_)]
      · cases (x.b (120 + p)).b <;> rfl
      · have h2 := hr'.2
        rw [h.1, h.2, Nat.beq_refl, Nat.beq_refl] at h2
        cases h2⟩
    have hrun := runP_at (hR x.k x.q p hI.k2 hI.qn hq0 hpn) hkd1 hs1 (fun e => by rw [hst, if_pos e]) (fun e1 e2 => by
      rw [hst]
      split
      · rfl
      · rw [if_pos ⟨e1, e2⟩])
    refine (round_tri (c := ⟨n, x.k, x.q, p, kd, st⟩) hrd hI hrun).post fun e a w hq => .inl ⟨hq.1, ⟨Cs.k' ⟨n, x.k, x.q, p, kd, st⟩, p, nb x.b (rn ⟨n, x.k, x.q, p, kd, st⟩)⟩, ?_, ⟨(inv_next g z hrd hI).1, fun h0 => ?_⟩, hq.2⟩
    · have := (inv_next g z hrd hI).2
      show (((nb x.b (rn ⟨n, x.k, x.q, p, kd, st⟩) 50).d.length : Int) - (nb x.b (rn ⟨n, x.k, x.q, p, kd, st⟩) 8).i).toNat < _
      rw [(new_d x.b g z ⟨n, x.k, x.q, p, kd, st⟩).2.2.2.2]
      exact this
    · exfalso
      have h0' : Cs.k' ⟨n, x.k, x.q, p, kd, st⟩ = 0 := h0
      unfold Cs.k' at h0'
      cases hw : Cs.wr ⟨n, x.k, x.q, p, kd, st⟩ with
      | true => rw [hw] at h0'; cases h0'
      | false =>
        rw [hw] at h0'
        cases ho : Cs.own ⟨n, x.k, x.q, p, kd, st⟩ with
        | true => rw [ho] at h0'; cases h0'
        | false => rw [ho] at h0'; cases h0'
  · -- none is left
    have hz := hE x.k x.q hI.k2 hI.qn hq0
    unfold runZ runX at hz
    rw [Bool.and_eq_true, Bool.and_eq_true, Bool.and_eq_true] at hz
    have hid : nb x.b (rnI n) = x.b := funext fun j => nb_id hz.1.1.2 rfl
    refine (Tri.runX (codeF fNone _) (envR_ok (none_ok hI hl)) hz.1.2 (ren_nb hz.1.1.1)).post fun e a w hq => .inr ⟨by rw [hq.1]; exact fun h => (nomatch h), hq.1, x, ⟨hI, hq0⟩, ?_⟩
    have := hq.2
    rw [hid] at this
    exact this
theorem end_tri {n : Nat} (hE : Ends n) (x : St3) : Tri Tryz.prog N mEnd (Hd w0 N n g z x) fun e a w => e = .ret ∧ ∃ ρ' s', saysTrue mRes s' = true ∧ At w0 N ρ' s' a w := by
  refine Tri.imp fun hx => ?_
  obtain ⟨hI, hq0⟩ := hx
  have hz := hE x.k x.q hI.k2 hI.qn hq0
  unfold runZ at hz
  rw [Bool.and_eq_true] at hz
  obtain ⟨hn, l, hl, hpw, hb⟩ := hI.hv
  have hlen := asc_len l 0 n hpw fun y hy => ⟨(hb y hy).1, (hb y hy).2.1⟩
  have hrun := runEs_at hz.2 l.length (by omega)
  have hn2 := hI.n2
  have hn7 := hI.n7
  have hF : ∀ f ∈ fEnd n x.k x.q l.length, f.holds QR (vb x.b g z) := by
    unfold fEnd
    refine facts_app (factsH_ok (vb_std x.b g z) (q := .v 7) hl (fun y hy => ?_) ?_ hpw) ?_
    · have := hb y hy
      show 0 ≤ y.1 ∧ y.1 ≤ ((n - 1 : Nat) : Int) ∧ _
      omega
    · show ((n - 1 : Nat) : Int) ≤ 6
      omega
    · exact fHead_ok (c := c0 n x.k x.q) ⟨fun h => (nomatch h), fun h => (nomatch h)⟩ hI
  exact (Tri.runX (codeF _ _) (envR_ok hF) hrun (ren_nb (r := ⟨[], [], [], [], []⟩) rfl)).post fun e a w hq => ⟨hq.1, _, _, mSays, hq.2⟩
end
end Go.Proofs.YtjnfgapfhpihmaaGreat
end
