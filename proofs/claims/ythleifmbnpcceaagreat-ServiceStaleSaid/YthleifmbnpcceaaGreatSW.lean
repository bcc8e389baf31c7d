/-
  ServiceStale answers true whatever the input.
-/
import Derived.Test.YthleifmbnpcceaaGreatSR0
import Derived.Test.YthleifmbnpcceaaGreatSR1
import Derived.Test.YthleifmbnpcceaaGreatSR2
import Derived.Test.YthleifmbnpcceaaGreatSR3
import Derived.Test.YthleifmbnpcceaaGreatSR4
import Derived.Test.YthleifmbnpcceaaGreatSR5
import Derived.Test.YthleifmbnpcceaaGreatSR6
import Derived.Test.YthleifmbnpcceaaGreatSR7
import Derived.Test.YthleifmbnpcceaaGreatSR8
import Derived.Test.YthleifmbnpcceaaGreatSR9
import Derived.Test.YthleifmbnpcceaaGreatSR10
import Derived.Test.YthleifmbnpcceaaGreatSR11
import Derived.Test.YthleifmbnpcceaaGreatSR12
import Derived.Test.YthleifmbnpcceaaGreatSR13
import Derived.Test.YthleifmbnpcceaaGreatSR14
import Derived.Test.YthleifmbnpcceaaGreatSR15
import Derived.KernelRfl
import Derived.WalkKit
namespace Go.Proofs.YthleifmbnpcceaaGreat
open Go.RowKit
set_option maxRecDepth 100000
theorem all_runs (m : Bool) {r : Nat} (hr : r < 16) : staleRun m r = true := by
  have h : r = 0 ∨ r = 1 ∨ r = 2 ∨ r = 3 ∨ r = 4 ∨ r = 5 ∨ r = 6 ∨ r = 7 ∨ r = 8 ∨ r = 9 ∨ r = 10 ∨ r = 11 ∨ r = 12 ∨ r = 13 ∨ r = 14 ∨ r = 15 := by omega
  cases m
  · rcases h with rfl | rfl | rfl | rfl | rfl | rfl | rfl | rfl | rfl | rfl | rfl | rfl | rfl | rfl | rfl | rfl
    · exact run_false_0
    · exact run_false_1
    · exact run_false_2
    · exact run_false_3
    · exact run_false_4
    · exact run_false_5
    · exact run_false_6
    · exact run_false_7
    · exact run_false_8
    · exact run_false_9
    · exact run_false_10
    · exact run_false_11
    · exact run_false_12
    · exact run_false_13
    · exact run_false_14
    · exact run_false_15
  · rcases h with rfl | rfl | rfl | rfl | rfl | rfl | rfl | rfl | rfl | rfl | rfl | rfl | rfl | rfl | rfl | rfl
    · exact run_true_0
    · exact run_true_1
    · exact run_true_2
    · exact run_true_3
    · exact run_true_4
    · exact run_true_5
    · exact run_true_6
    · exact run_true_7
    · exact run_true_8
    · exact run_true_9
    · exact run_true_10
    · exact run_true_11
    · exact run_true_12
    · exact run_true_13
    · exact run_true_14
    · exact run_true_15
theorem stale_walk (a0 : Bool) (a1 : Int) (w1 : (Lit.int .u8 a1).wf = true) (w : World) :
    Calls Tryz.prog 10 #[.bool a0, .int .u8 a1] w fun e w' => e = .returned (.bool true) ∧ Below w.heap.size w w' := by
  have r1 : 0 ≤ a1 ∧ a1 < 256 := byte_range w1
  obtain ⟨n, rfl⟩ := Int.eq_ofNat_of_zero_le r1.1
  have hrun := all_runs a0 (Nat.mod_lt n (by decide : 0 < 16))
  let ρ : Vn := ⟨fun y => if y = .v 1 then (n : Int) else 0, fun _ => ⟨#[]⟩, fun _ => false, fun _ => [], gIf, fun _ => none⟩
  have he : EnvOk (ifEnv (envD (n % 16))) ρ := by
    refine ifEnv_ok (byteEnv_ok (fun y => ?_) (fun x hx => ?_)) (gIf_std rfl)
    · show 0 ≤ (if y = .v 1 then (n : Int) else 0) ∧ (if y = .v 1 then (n : Int) else 0) < 256
      split <;> omega
    · simp only [List.mem_cons, List.not_mem_nil, or_false] at hx
      subst hx
      rfl
  exact law_run (eval_ok tblT_ok mixed _) he hrun (us := [.bool a0, .int .u8 n]) (.cons rfl (.cons rfl .nil)) w
end Go.Proofs.YthleifmbnpcceaaGreat
