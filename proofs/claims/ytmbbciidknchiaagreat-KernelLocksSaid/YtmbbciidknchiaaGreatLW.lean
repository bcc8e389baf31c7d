/-
  KernelLocks answers true whatever the input.
-/
import Derived.Test.YtmbbciidknchiaaGreatLR0
import Derived.Test.YtmbbciidknchiaaGreatLR1
import Derived.Test.YtmbbciidknchiaaGreatLR2
import Derived.Test.YtmbbciidknchiaaGreatLR3
import Derived.Test.YtmbbciidknchiaaGreatLR4
import Derived.Test.YtmbbciidknchiaaGreatLR5
import Derived.Test.YtmbbciidknchiaaGreatLR6
import Derived.Test.YtmbbciidknchiaaGreatLR7
import Derived.Test.YtmbbciidknchiaaGreatLR8
import Derived.Test.YtmbbciidknchiaaGreatSymL
import Derived.KernelRfl
import Derived.WalkKit
namespace Go.Proofs.YtmbbciidknchiaaGreat
open Go.RowKit
set_option maxRecDepth 100000
noncomputable def tblL : Tab := tabOf [(⟨.x0, .x0, .xd⟩, .nat natTrue), (⟨.x0, .x0, .x4⟩, c4)]
theorem tblL_ok {E : Env} : TabOk Tryz.prog E tblL := tab_cons (tab_cons tab_nil e4) awake_nat
theorem long_run : isTrue (callBy tblL (aev Tryz.prog (longEnv 12) tblL (nat_lit 500)) ⟨.x0, .x0, .x4⟩ [.c (.si .u8 (.v (nat_lit 0))), .c (.si .u8 (.v (nat_lit 1))), .c (.ss (.v (nat_lit 2)))] hp0) = true := by kernel_rfl
theorem all_lruns {x y : Nat} (hx : x < 3) (hy : y < 3) : lrun x y = true := by
  have h1 : x = 0 ∨ x = 1 ∨ x = 2 := by omega
  have h2 : y = 0 ∨ y = 1 ∨ y = 2 := by omega
  rcases h1 with rfl | rfl | rfl <;> rcases h2 with rfl | rfl | rfl
  · exact l_0_0
  · exact l_0_1
  · exact l_0_2
  · exact l_1_0
  · exact l_1_1
  · exact l_1_2
  · exact l_2_0
  · exact l_2_1
  · exact l_2_2
theorem locks_walk (a0 a1 : Int) (a2 : ByteArray) (w0 : (Lit.int .u8 a0).wf = true) (w1 : (Lit.int .u8 a1).wf = true) (w : World) :
    Calls Tryz.prog 4 #[.int .u8 a0, .int .u8 a1, .string a2] w fun e w' => e = .returned (.bool true) ∧ Below w.heap.size w w' := by
  have r0 : 0 ≤ a0 ∧ a0 < 256 := byte_range w0
  have r1 : 0 ≤ a1 ∧ a1 < 256 := byte_range w1
  obtain ⟨n, rfl⟩ := Int.eq_ofNat_of_zero_le r0.1
  obtain ⟨f, rfl⟩ := Int.eq_ofNat_of_zero_le r1.1
  by_cases hd : a2.size ≤ 12
  · have hrun := all_lruns (Nat.mod_lt n (by decide : 0 < 3)) (Nat.mod_lt f (by decide : 0 < 3))
    let ρ : Vn := stdVn (fun y => if y = 2 then a2 else ⟨#[]⟩) (fun y => if y = 0 then (n : Int) else if y = 1 then (f : Int) else 0)
    have he : EnvOk (symEnv [(0, 3, n % 3), (1, 3, f % 3)] 2) ρ := by
      refine symEnv_ok ⟨stdVn_ok _ _, hd, fun y hy => ?_, fun x hx => ?_⟩
      · have : y = 0 ∨ y = 1 := by omega
        rcases this with rfl | rfl
        · exact r0
        · exact r1
      · simp only [List.mem_cons, List.not_mem_nil, or_false] at hx
        rcases hx with rfl | rfl
        · rfl
        · rfl
    exact law_run (eval_ok tbl_ok mixed _) he hrun (us := [.int .u8 n, .int .u8 f, .string a2]) (.cons rfl (.cons rfl (.cons rfl .nil))) w
  · let ρ : Vn := ⟨fun t => match t with | .v 0 => (n : Int) | .v 1 => (f : Int) | .f1 2 (.v 2) => (a2.size : Int) | _ => 0, fun _ => a2⟩
    have he : EnvOk (longEnv 12) ρ := longEnv_ok ⟨rfl, by show 12 < a2.size; omega⟩
    exact law_run (eval_ok tblL_ok mixed _) he long_run (us := [.int .u8 n, .int .u8 f, .string a2]) (.cons rfl (.cons rfl (.cons rfl .nil))) w
end Go.Proofs.YtmbbciidknchiaaGreat
