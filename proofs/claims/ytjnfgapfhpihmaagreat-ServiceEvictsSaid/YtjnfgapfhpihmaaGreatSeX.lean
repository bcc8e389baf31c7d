/-
  The table of the law; service.must, service.try where nothing is thrown (printed by a program).
-/
import Derived.Test.YtjnfgapfhpihmaaGreatSeE
import Derived.Test.YtjnfgapfhpihmaaGreatEpC
import Derived.Test.YtjnfgapfhpihmaaGreatKT0
import Derived.KernelRfl
import Derived.WalkKit
set_option linter.unusedVariables false
set_option linter.unusedSimpArgs false
set_option maxRecDepth 100000
namespace Go.Proofs.YtjnfgapfhpihmaaGreat
open Go.RowKit
theorem mf_fn {P : Program} {E : Env} {call : CallF} {i j : D16} {g : Bid} {xs ys : List AX} {fr0 fr1 : Fr} {h0 h1 : Hp} (e : aregion P E call [⟨some (i, j), .mf g xs ys, none⟩] fr0 h0 = .ok fr1 h1) : ∃ first caps, getF i j fr1 = some (.c (.fn g first caps)) := by
  have e' : (rf (opMf g xs ys fr0 h0) fun v h => RF.ok (putF i j v fr0) h) = .ok fr1 h1 := e
  cases ho : opMf g xs ys fr0 h0 with
  | no => rw [ho] at e'; cases e'
  | ok v h2 =>
    rw [ho] at e'
    cases e'
    obtain ⟨us, _, e2⟩ := ro_ok ho
    obtain ⟨vs, _, e3⟩ := ro_ok e2
    obtain ⟨l, _, e4⟩ := ro_ok e3
    obtain ⟨m, _, e5⟩ := ro_ok e4
    cases e5
    exact ⟨l, m, getF_putF _ _ _ _⟩
def natMust : List AV → Option AV
  | [.c (.i .i64 (.ofNat 0))] => some (.t [])
  | _ => none
set_option maxHeartbeats 1000000 in
theorem must_run (w : World) : Calls Tryz.prog 39 #[.int .i64 0] w fun e w' => e = .returned (.tuple #[]) ∧ w' = w := by
  go_enter Tryz.func39, Tryz.ntmps39
  go_wp2
  exact ⟨rfl, .tuple #[], by simp [results, Tryz.f39], rfl, rfl⟩
theorem natMust_ok (F : List Fc) : NatOk Tryz.prog (envR F) 39 natMust := by
  intro vs v hv ρ φ h w us he hr hu
  unfold natMust at hv
  split at hv
  · cases hv
    cases hu with
    | cons a1 t1 =>
      cases t1
      cases (show _ = Value.int .i64 0 from a1)
      refine nat_of hr (u := .tuple #[]) ⟨[], rfl, .nil⟩ ((must_run w).mono ?_)
      rintro e w' ⟨rfl, rfl⟩
      exact ⟨rfl, Below.refl _ _⟩
  · cases hv
theorem entMust (args : Array Value) (w : World) : (callFunc 39 args).run Tryz.prog w = .ok (.enter 39 args) w := enter_run Tryz.func39 (by kernel_rfl) rfl args w
theorem entJV (args : Array Value) (w : World) : (callFunc 50 args).run Tryz.prog w = .ok (.enter 50 args) w := enter_run Tryz.func50 (by kernel_rfl) rfl args w
theorem entAsc (args : Array Value) (w : World) : (callFunc 196 args).run Tryz.prog w = .ok (.enter 196 args) w := enter_run Tryz.func196 (by kernel_rfl) rfl args w
theorem entBS (args : Array Value) (w : World) : (callFunc 216 args).run Tryz.prog w = .ok (.enter 216 args) w := enter_run Tryz.func216 (by kernel_rfl) rfl args w
theorem entVC (args : Array Value) (w : World) : (callFunc 221 args).run Tryz.prog w = .ok (.enter 221 args) w := enter_run Tryz.func221 (by kernel_rfl) rfl args w
theorem entCs (args : Array Value) (w : World) : (callFunc 191 args).run Tryz.prog w = .ok (.enter 191 args) w := enter_run Tryz.func191 (by kernel_rfl) rfl args w
theorem entId (args : Array Value) (w : World) : (callFunc 164 args).run Tryz.prog w = .ok (.enter 164 args) w := enter_run Tryz.func164 (by kernel_rfl) rfl args w
theorem entTry (args : Array Value) (w : World) : (callFunc 34 args).run Tryz.prog w = .ok (.enter 34 args) w := enter_run Tryz.func34 (by kernel_rfl) rfl args w
noncomputable def tblO : Tab := tabOf [(⟨.x0, .xc, .x4⟩, c196), (⟨.x0, .x3, .xc⟩, c60), (⟨.x0, .x8, .x0⟩, c128)]
theorem tblO_ok {E : Env} : TabOk Tryz.prog E tblO := tab_cons (tab_cons (tab_cons tab_nil e128) e60) e196
noncomputable def callO (F : List Fc) : CallF := callBy tblO (aev Tryz.prog (envR F) tblO (nat_lit 200))
theorem callO_ok (F : List Fc) : CallOk Tryz.prog (envR F) (callO F) := eval_ok tblO_ok mixedS _
noncomputable def lQ (F : List Fc) : List (Bid × AFn) := [(⟨.x0, .x2, .x7⟩, .nat natMust), (⟨.x0, .x0, .x9⟩, .natm (natNx F)), (⟨.x0, .x3, .x2⟩, .nat (natJV F)), (⟨.x0, .xb, .xf⟩, .nat (natCs7 F)), (⟨.x0, .x3, .x4⟩, .nat (natLV F)), (⟨.x0, .xc, .x4⟩, .natm (natOr (natAsc F) (callO F) ⟨.x0, .xc, .x4⟩)), (⟨.x0, .x3, .x6⟩, .natm (natPI F)), (⟨.x0, .x3, .xc⟩, .natm (natBy F (callO F) ⟨.x0, .x3, .xc⟩)), (⟨.x0, .x4, .x7⟩, .nat (natRq F)), (⟨.x0, .x9, .x9⟩, .nat (natEn7 F)), (⟨.x0, .xa, .x4⟩, .nat (natId F)), (⟨.x0, .xd, .xd⟩, .nat (natVC F)), (⟨.x0, .xd, .x8⟩, .nat (natBS F)), (⟨.x0, .x0, .x8⟩, c8), (⟨.x0, .x0, .xa⟩, c10), (⟨.x0, .x0, .xf⟩, c15), (⟨.x0, .x1, .x0⟩, c16), (⟨.x0, .x1, .xa⟩, c26), (⟨.x0, .x1, .xc⟩, c28), (⟨.x0, .x1, .xd⟩, c29), (⟨.x0, .x1, .xe⟩, c30), (⟨.x0, .x1, .xf⟩, c31), (⟨.x0, .x2, .x0⟩, c32), (⟨.x0, .x2, .x3⟩, c35), (⟨.x0, .x2, .x4⟩, c36), (⟨.x0, .x3, .x1⟩, c49), (⟨.x0, .x3, .x3⟩, c51), (⟨.x0, .x3, .x5⟩, c53), (⟨.x0, .x3, .x8⟩, c56), (⟨.x0, .x3, .x9⟩, c57), (⟨.x0, .x3, .xa⟩, c58), (⟨.x0, .x3, .xb⟩, c59), (⟨.x0, .x3, .xd⟩, c61), (⟨.x0, .x3, .xe⟩, c62), (⟨.x0, .x4, .x0⟩, c64), (⟨.x0, .x4, .x3⟩, c67), (⟨.x0, .x4, .x4⟩, c68), (⟨.x0, .x4, .x5⟩, c69), (⟨.x0, .x4, .x6⟩, c70), (⟨.x0, .x4, .xa⟩, c74), (⟨.x0, .x4, .xc⟩, c76), (⟨.x0, .x4, .xd⟩, c77), (⟨.x0, .x4, .xe⟩, c78), (⟨.x0, .x4, .xf⟩, c79), (⟨.x0, .x5, .x0⟩, c80), (⟨.x0, .x5, .x1⟩, c81), (⟨.x0, .x5, .x6⟩, c86), (⟨.x0, .x5, .x7⟩, c87), (⟨.x0, .x5, .x8⟩, c88), (⟨.x0, .x5, .x9⟩, c89), (⟨.x0, .x5, .xa⟩, c90), (⟨.x0, .x5, .xb⟩, c91), (⟨.x0, .x5, .xc⟩, c92), (⟨.x0, .x7, .x2⟩, c114), (⟨.x0, .x7, .x3⟩, c115), (⟨.x0, .x7, .x4⟩, c116), (⟨.x0, .x7, .x5⟩, c117), (⟨.x0, .x7, .xb⟩, c123), (⟨.x0, .x7, .xf⟩, c127), (⟨.x0, .x8, .x0⟩, c128), (⟨.x0, .x8, .x1⟩, c129), (⟨.x0, .x8, .xc⟩, c140), (⟨.x0, .x8, .xd⟩, c141), (⟨.x0, .x9, .x2⟩, c146), (⟨.x0, .x9, .x3⟩, c147), (⟨.x0, .x9, .x4⟩, c148), (⟨.x0, .x9, .x5⟩, c149), (⟨.x0, .x9, .x6⟩, c150), (⟨.x0, .x9, .x7⟩, c151), (⟨.x0, .x9, .x8⟩, c152), (⟨.x0, .x9, .xa⟩, c154), (⟨.x0, .x9, .xd⟩, c157), (⟨.x0, .x9, .xe⟩, c158), (⟨.x0, .xa, .x0⟩, c160), (⟨.x0, .xa, .x1⟩, c161), (⟨.x0, .xa, .x2⟩, c162), (⟨.x0, .xa, .x3⟩, c163), (⟨.x0, .xa, .x5⟩, c165), (⟨.x0, .xa, .x6⟩, c166), (⟨.x0, .xa, .x8⟩, c168), (⟨.x0, .xa, .x9⟩, c169), (⟨.x0, .xa, .xe⟩, c174), (⟨.x0, .xb, .xc⟩, c188), (⟨.x0, .xb, .xd⟩, c189), (⟨.x0, .xb, .xe⟩, c190), (⟨.x0, .xc, .x0⟩, c192), (⟨.x0, .xd, .x0⟩, c208), (⟨.x0, .xd, .x6⟩, c214), (⟨.x0, .xd, .x7⟩, c215), (⟨.x0, .xd, .xa⟩, c218), (⟨.x0, .xd, .xb⟩, c219), (⟨.x0, .xd, .xc⟩, c220), (⟨.x0, .xe, .x2⟩, c226), (⟨.x0, .xe, .x3⟩, c227), (⟨.x0, .xe, .x4⟩, c228), (⟨.x0, .xe, .x5⟩, c229), (⟨.x0, .xe, .x6⟩, c230), (⟨.x0, .xe, .x7⟩, c231), (⟨.x0, .xe, .x8⟩, c232), (⟨.x0, .xe, .x9⟩, c233), (⟨.x0, .xe, .xd⟩, c237), (⟨.x0, .xe, .xe⟩, c238), (⟨.x0, .xf, .x0⟩, c240), (⟨.x0, .xf, .x7⟩, c247), (⟨.x0, .xf, .xa⟩, c250), (⟨.x1, .x0, .x7⟩, c263), (⟨.x1, .x0, .xa⟩, c266), (⟨.x1, .x0, .xb⟩, c267), (⟨.x1, .x0, .xc⟩, c268), (⟨.x1, .x0, .xd⟩, c269), (⟨.x1, .x0, .xf⟩, c271), (⟨.x1, .x1, .x0⟩, c272), (⟨.x1, .x1, .x2⟩, c274), (⟨.x1, .x1, .x3⟩, c275), (⟨.x1, .x1, .x4⟩, c276), (⟨.x1, .x1, .x5⟩, c277), (⟨.x1, .x2, .x9⟩, c297), (⟨.x1, .x2, .xa⟩, c298), (⟨.x1, .x2, .xd⟩, c301)]
noncomputable def tblQ (F : List Fc) : Tab := tabOf (lQ F)
theorem tblQ_ok (F : List Fc) : TabOk Tryz.prog (envR F) (tblQ F) := tab_cons (tab_cons (tab_cons (tab_cons (tab_cons (tab_cons (tab_cons (tab_cons (tab_cons (tab_cons (tab_cons (tab_cons (tab_cons (tab_cons (tab_cons (tab_cons (tab_cons (tab_cons (tab_cons (tab_cons (tab_cons (tab_cons (tab_cons (tab_cons (tab_cons (tab_cons (tab_cons (tab_cons (tab_cons (tab_cons (tab_cons (tab_cons (tab_cons (tab_cons (tab_cons (tab_cons (tab_cons (tab_cons (tab_cons (tab_cons (tab_cons (tab_cons (tab_cons (tab_cons (tab_cons (tab_cons (tab_cons (tab_cons (tab_cons (tab_cons (tab_cons (tab_cons (tab_cons (tab_cons (tab_cons (tab_cons (tab_cons (tab_cons (tab_cons (tab_cons (tab_cons (tab_cons (tab_cons (tab_cons (tab_cons (tab_cons (tab_cons (tab_cons (tab_cons (tab_cons (tab_cons (tab_cons (tab_cons (tab_cons (tab_cons (tab_cons (tab_cons (tab_cons (tab_cons (tab_cons (tab_cons (tab_cons (tab_cons (tab_cons (tab_cons (tab_cons (tab_cons (tab_cons (tab_cons (tab_cons (tab_cons (tab_cons (tab_cons (tab_cons (tab_cons (tab_cons (tab_cons (tab_cons (tab_cons (tab_cons (tab_cons (tab_cons (tab_cons (tab_cons (tab_cons (tab_cons (tab_cons (tab_cons (tab_cons (tab_cons (tab_cons (tab_cons (tab_cons (tab_cons (tab_cons (tab_cons (tab_cons (tab_cons (tab_cons (tab_nil) e301) e298) e297) e277) e276) e275) e274) e272) e271) e269) e268) e267) e266) e263) e250) e247) e240) e238) e237) e233) e232) e231) e230) e229) e228) e227) e226) e220) e219) e218) e215) e214) e208) e192) e190) e189) e188) e174) e169) e168) e166) e165) e163) e162) e161) e160) e158) e157) e154) e152) e151) e150) e149) e148) e147) e146) e141) e140) e129) e128) e127) e123) e117) e116) e115) e114) e92) e91) e90) e89) e88) e87) e86) e81) e80) e79) e78) e77) e76) e74) e70) e69) e68) e67) e64) e62) e61) e59) e58) e57) e56) e53) e51) e49) e36) e35) e32) e31) e30) e29) e28) e26) e16) e15) e10) e8) (nat_ok entBS (natBS_ok F))) (nat_ok entVC (natVC_ok F))) (nat_ok entId (natId_ok F))) (nat_ok entEnc (natEn7_ok F))) (nat_ok entRq (natRq_ok F))) (natBy_ok (callO_ok F))) (natPI_ok F)) (natOr_ok (f := ⟨.x0, .xc, .x4⟩) (callO_ok F) entAsc (natAsc_ok F))) (nat_ok entLV (natLV_ok F))) (nat_ok entCs (natCs7_ok F))) (nat_ok entJV (natJV_ok F))) (natNx_ok F)) (nat_ok entMust (natMust_ok F))
def r1Try : List AOp := match c34 with
  | .code (.seq (.reg l) _) _ => l
  | _ => []
def oMTry : AOp := match c34 with
  | .code (.seq _ (.seq (.reg (o :: _)) _)) _ => o
  | _ => default
def r3Try : List AOp := match c34 with
  | .code (.seq _ (.seq _ (.seq (.reg l) _))) _ => l
  | _ => []
def resTry : List AR := match c34 with
  | .code _ r => r
  | _ => []
def restTry : ACd := match c85 with
  | .code (.seq _ c) _ => c
  | _ => .bad
noncomputable def natTry (F : List Fc) : List AV → Hp → RO := tryG Tryz.prog (envR F) (callBy (tblQ F) (aev Tryz.prog (envR F) (tblQ F) (nat_lit 2000))) (aev Tryz.prog (envR F) (tblQ F) (nat_lit 500)) r1Try oMTry .x0 .x4 r3Try restTry .x0 .x5 resTry
theorem try_fn {E : Env} (fr0 : Fr) (h0 : Hp) (fr1 : Fr) (h1 : Hp) (e : aregion Tryz.prog E noCall [oMTry] fr0 h0 = .ok fr1 h1) : ∃ first caps, getF .x0 .x4 fr1 = some (.c (.fn ⟨.x0, .x5, .x5⟩ first caps)) := mf_fn e
theorem natTry_ok (F : List Fc) : EntOk Tryz.prog (envR F) ⟨.x0, .x2, .x2⟩ (.natm (natTry F)) := by
  refine ⟨entTry, ?_⟩
  intro vs v h h' e ρ φ w us he hr hu
  refine try_ok (f := ⟨.x0, .x2, .x2⟩) (g := ⟨.x0, .x5, .x5⟩) (T := tblQ F) (n := nat_lit 500) (tblQ_ok F) mixedS (eval_ok (tblQ_ok F) mixedS (nat_lit 2000)) Tryz.func34 rfl (l1 := r1Try) (by kernel_rfl) (oM := oMTry) (by kernel_rfl) (by kernel_rfl)
    rfl rfl rfl rfl rfl (l3 := r3Try) (by kernel_rfl) (res := resTry) (by kernel_rfl) Tryz.func85 rfl rfl (fun args w => enter_run Tryz.func85 (by kernel_rfl) rfl args w) rfl rfl rfl rfl (by decide) (arest := restTry) (by kernel_rfl)
    vs v h h' e (fun _ _ _ _ _ => trivial) try_fn ρ φ w us he hr hu
noncomputable def tblM (F : List Fc) : Tab := tabOf ((⟨.x0, .x2, .x2⟩, .natm (natTry F)) :: lQ F)
theorem tblM_ok (F : List Fc) : TabOk Tryz.prog (envR F) (tblM F) := tab_cons (tblQ_ok F) (natTry_ok F)
theorem codeM (F : List Fc) (n : Nat) : CodeOk Tryz.prog (envR F) (tblM F) n := code_ok (tblM_ok F) (draw_ok mixedS) n
end Go.Proofs.YtjnfgapfhpihmaaGreat
