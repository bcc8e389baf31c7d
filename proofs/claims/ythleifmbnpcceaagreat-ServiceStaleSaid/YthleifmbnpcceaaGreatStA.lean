/-
  The table of the law, and the run of its example.
-/
import Derived.Test.YthleifmbnpcceaaGreatStTry
import Derived.KernelRfl
namespace Go.Proofs.YthleifmbnpcceaaGreat
set_option maxRecDepth 100000
noncomputable def lstT (E : Env) : List (Bid × AFn) := (⟨.x0, .x7, .xa⟩, .natm (natTry E)) :: (⟨.x0, .x7, .x1⟩, c113) :: (⟨.x0, .x3, .x4⟩, c52) :: (⟨.x0, .x3, .x1⟩, c49) :: (⟨.x0, .x2, .xe⟩, c46) :: (⟨.x0, .x0, .xa⟩, c10) :: lstQ
theorem lstT_ok {E : Env} : TabOk Tryz.prog (ifEnv E) (tabOf (lstT E)) := tab_cons (tab_cons (tab_cons (tab_cons (tab_cons (tab_cons tblQ_ok e10) e46) e49) e52) e113) natTry_ok
noncomputable def callT (E : Env) : CallF := callBy (tabOf (lstT E)) (aev Tryz.prog (ifEnv E) (tabOf (lstT E)) (nat_lit 8000))
theorem awake_run : isTrue (callT env0 ⟨.x0, .x2, .xe⟩ [] hp0) = true := by kernel_rfl
def rhoS : Vn := { rho0 with g := gIf }
theorem envS_ok : EnvOk (ifEnv env0) rhoS := ifEnv_ok (byteEnv_ok (fun _ => ⟨Int.le_refl 0, (by decide : (0 : Int) < 256)⟩) (fun x h => nomatch h)) (gIf_std rfl)
theorem awake_nat {E : Env} : EntOk Tryz.prog E ⟨.x0, .x2, .xe⟩ (.nat natTrue) := natTrue_ok (eval_ok lstT_ok mixed _) envS_ok awake_run
noncomputable def tblT (E : Env) : Tab := tabOf ((⟨.x0, .x2, .xe⟩, .nat natTrue) :: lstT E)
theorem tblT_ok {E : Env} : TabOk Tryz.prog (ifEnv E) (tblT E) := tab_cons lstT_ok awake_nat
noncomputable def envD (r : Nat) : Env := byteEnv [(1, 16, r)]
noncomputable def staleRun (m : Bool) (r : Nat) : Bool := isTrue (callBy (tblT (envD r)) (aev Tryz.prog (ifEnv (envD r)) (tblT (envD r)) (nat_lit 8000)) ⟨.x0, .x0, .xa⟩ [.c (.b m), .c (.si .u8 (.v (nat_lit 1)))] hp0)
end Go.Proofs.YthleifmbnpcceaaGreat
