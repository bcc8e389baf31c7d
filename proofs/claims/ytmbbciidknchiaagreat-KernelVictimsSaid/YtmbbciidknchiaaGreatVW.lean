/-
  KernelVictims answers true whatever the input.
-/
import Derived.Test.YtmbbciidknchiaaGreatVR0
import Derived.Test.YtmbbciidknchiaaGreatVR1
import Derived.Test.YtmbbciidknchiaaGreatVR2
import Derived.Test.YtmbbciidknchiaaGreatVR3
import Derived.Test.YtmbbciidknchiaaGreatVR4
import Derived.Test.YtmbbciidknchiaaGreatVR5
import Derived.Test.YtmbbciidknchiaaGreatVR6
import Derived.Test.YtmbbciidknchiaaGreatVR7
import Derived.WalkKit
namespace Go.Proofs.YtmbbciidknchiaaGreat
open Go.RowKit
theorem all_vruns (u : Bool) {r : Nat} (hr : r < 4) : vrun u r = true := by
  have h : r = 0 ∨ r = 1 ∨ r = 2 ∨ r = 3 := by omega
  cases u <;> rcases h with rfl | rfl | rfl | rfl
  · exact v_f_0
  · exact v_f_1
  · exact v_f_2
  · exact v_f_3
  · exact v_t_0
  · exact v_t_1
  · exact v_t_2
  · exact v_t_3
theorem victims_walk (a0 : Bool) (a1 : Int) (w1 : (Lit.int .u8 a1).wf = true) (w : World) :
    Calls Tryz.prog 5 #[.bool a0, .int .u8 a1] w fun e w' => e = .returned (.bool true) ∧ Below w.heap.size w w' := by
  have r1 : 0 ≤ a1 ∧ a1 < 256 := byte_range w1
  obtain ⟨n, rfl⟩ := Int.eq_ofNat_of_zero_le r1.1
  have hrun := all_vruns a0 (Nat.mod_lt n (by decide : 0 < 4))
  let ρ : Vn := ⟨fun y => if y = 0 then (n : Int) else 0, fun _ => ⟨#[]⟩⟩
  have he : EnvOk (byteEnv [(0, 4, n % 4)]) ρ := by
    refine byteEnv_ok (fun y => ?_) (fun x hx => ?_)
    · show 0 ≤ (if y = 0 then (n : Int) else 0) ∧ (if y = 0 then (n : Int) else 0) < 256
      split
      · exact r1
      · omega
    · simp only [List.mem_cons, List.not_mem_nil, or_false] at hx
      subst hx
      rfl
  exact law_run (eval_ok tbl_ok mixed _) he hrun (us := [.bool a0, .int .u8 n]) (.cons rfl (.cons rfl .nil)) w
end Go.Proofs.YtmbbciidknchiaaGreat
