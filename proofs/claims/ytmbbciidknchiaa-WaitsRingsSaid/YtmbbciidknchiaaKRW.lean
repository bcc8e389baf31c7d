/-
  WaitsRings answers true whatever the input.
-/
import Derived.Test.YtmbbciidknchiaaKR0
import Derived.Test.YtmbbciidknchiaaKR1
import Derived.Test.YtmbbciidknchiaaKR2
import Derived.Test.YtmbbciidknchiaaKR3
import Derived.WalkKit
namespace Go.Proofs.Ytmbbciidknchiaa
open Go.RowKit
theorem all_runs {m k : Nat} (g : Bool) (hm : m < 10) (hk : k < m + 2) : run m k g = true := by
  have h1 : m = 0 ∨ m = 1 ∨ m = 2 ∨ m = 3 ∨ m = 4 ∨ m = 5 ∨ m = 6 ∨ m = 7 ∨ m = 8 ∨ m = 9 := by omega
  rcases h1 with rfl | rfl | rfl | rfl | rfl | rfl | rfl | rfl | rfl | rfl
  · have h2 : k = 0 ∨ k = 1 := by omega
    rcases h2 with rfl | rfl
    · cases g
      · exact r_0_0_f
      · exact r_0_0_t
    · cases g
      · exact r_0_1_f
      · exact r_0_1_t
  · have h2 : k = 0 ∨ k = 1 ∨ k = 2 := by omega
    rcases h2 with rfl | rfl | rfl
    · cases g
      · exact r_1_0_f
      · exact r_1_0_t
    · cases g
      · exact r_1_1_f
      · exact r_1_1_t
    · cases g
      · exact r_1_2_f
      · exact r_1_2_t
  · have h2 : k = 0 ∨ k = 1 ∨ k = 2 ∨ k = 3 := by omega
    rcases h2 with rfl | rfl | rfl | rfl
    · cases g
      · exact r_2_0_f
      · exact r_2_0_t
    · cases g
      · exact r_2_1_f
      · exact r_2_1_t
    · cases g
      · exact r_2_2_f
      · exact r_2_2_t
    · cases g
      · exact r_2_3_f
      · exact r_2_3_t
  · have h2 : k = 0 ∨ k = 1 ∨ k = 2 ∨ k = 3 ∨ k = 4 := by omega
    rcases h2 with rfl | rfl | rfl | rfl | rfl
    · cases g
      · exact r_3_0_f
      · exact r_3_0_t
    · cases g
      · exact r_3_1_f
      · exact r_3_1_t
    · cases g
      · exact r_3_2_f
      · exact r_3_2_t
    · cases g
      · exact r_3_3_f
      · exact r_3_3_t
    · cases g
      · exact r_3_4_f
      · exact r_3_4_t
  · have h2 : k = 0 ∨ k = 1 ∨ k = 2 ∨ k = 3 ∨ k = 4 ∨ k = 5 := by omega
    rcases h2 with rfl | rfl | rfl | rfl | rfl | rfl
    · cases g
      · exact r_4_0_f
      · exact r_4_0_t
    · cases g
      · exact r_4_1_f
      · exact r_4_1_t
    · cases g
      · exact r_4_2_f
      · exact r_4_2_t
    · cases g
      · exact r_4_3_f
      · exact r_4_3_t
    · cases g
      · exact r_4_4_f
      · exact r_4_4_t
    · cases g
      · exact r_4_5_f
      · exact r_4_5_t
  · have h2 : k = 0 ∨ k = 1 ∨ k = 2 ∨ k = 3 ∨ k = 4 ∨ k = 5 ∨ k = 6 := by omega
    rcases h2 with rfl | rfl | rfl | rfl | rfl | rfl | rfl
    · cases g
      · exact r_5_0_f
      · exact r_5_0_t
    · cases g
      · exact r_5_1_f
      · exact r_5_1_t
    · cases g
      · exact r_5_2_f
      · exact r_5_2_t
    · cases g
      · exact r_5_3_f
      · exact r_5_3_t
    · cases g
      · exact r_5_4_f
      · exact r_5_4_t
    · cases g
      · exact r_5_5_f
      · exact r_5_5_t
    · cases g
      · exact r_5_6_f
      · exact r_5_6_t
  · have h2 : k = 0 ∨ k = 1 ∨ k = 2 ∨ k = 3 ∨ k = 4 ∨ k = 5 ∨ k = 6 ∨ k = 7 := by omega
    rcases h2 with rfl | rfl | rfl | rfl | rfl | rfl | rfl | rfl
    · cases g
      · exact r_6_0_f
      · exact r_6_0_t
    · cases g
      · exact r_6_1_f
      · exact r_6_1_t
    · cases g
      · exact r_6_2_f
      · exact r_6_2_t
    · cases g
      · exact r_6_3_f
      · exact r_6_3_t
    · cases g
      · exact r_6_4_f
      · exact r_6_4_t
    · cases g
      · exact r_6_5_f
      · exact r_6_5_t
    · cases g
      · exact r_6_6_f
      · exact r_6_6_t
    · cases g
      · exact r_6_7_f
      · exact r_6_7_t
  · have h2 : k = 0 ∨ k = 1 ∨ k = 2 ∨ k = 3 ∨ k = 4 ∨ k = 5 ∨ k = 6 ∨ k = 7 ∨ k = 8 := by omega
    rcases h2 with rfl | rfl | rfl | rfl | rfl | rfl | rfl | rfl | rfl
    · cases g
      · exact r_7_0_f
      · exact r_7_0_t
    · cases g
      · exact r_7_1_f
      · exact r_7_1_t
    · cases g
      · exact r_7_2_f
      · exact r_7_2_t
    · cases g
      · exact r_7_3_f
      · exact r_7_3_t
    · cases g
      · exact r_7_4_f
      · exact r_7_4_t
    · cases g
      · exact r_7_5_f
      · exact r_7_5_t
    · cases g
      · exact r_7_6_f
      · exact r_7_6_t
    · cases g
      · exact r_7_7_f
      · exact r_7_7_t
    · cases g
      · exact r_7_8_f
      · exact r_7_8_t
  · have h2 : k = 0 ∨ k = 1 ∨ k = 2 ∨ k = 3 ∨ k = 4 ∨ k = 5 ∨ k = 6 ∨ k = 7 ∨ k = 8 ∨ k = 9 := by omega
    rcases h2 with rfl | rfl | rfl | rfl | rfl | rfl | rfl | rfl | rfl | rfl
    · cases g
      · exact r_8_0_f
      · exact r_8_0_t
    · cases g
      · exact r_8_1_f
      · exact r_8_1_t
    · cases g
      · exact r_8_2_f
      · exact r_8_2_t
    · cases g
      · exact r_8_3_f
      · exact r_8_3_t
    · cases g
      · exact r_8_4_f
      · exact r_8_4_t
    · cases g
      · exact r_8_5_f
      · exact r_8_5_t
    · cases g
      · exact r_8_6_f
      · exact r_8_6_t
    · cases g
      · exact r_8_7_f
      · exact r_8_7_t
    · cases g
      · exact r_8_8_f
      · exact r_8_8_t
    · cases g
      · exact r_8_9_f
      · exact r_8_9_t
  · have h2 : k = 0 ∨ k = 1 ∨ k = 2 ∨ k = 3 ∨ k = 4 ∨ k = 5 ∨ k = 6 ∨ k = 7 ∨ k = 8 ∨ k = 9 ∨ k = 10 := by omega
    rcases h2 with rfl | rfl | rfl | rfl | rfl | rfl | rfl | rfl | rfl | rfl | rfl
    · cases g
      · exact r_9_0_f
      · exact r_9_0_t
    · cases g
      · exact r_9_1_f
      · exact r_9_1_t
    · cases g
      · exact r_9_2_f
      · exact r_9_2_t
    · cases g
      · exact r_9_3_f
      · exact r_9_3_t
    · cases g
      · exact r_9_4_f
      · exact r_9_4_t
    · cases g
      · exact r_9_5_f
      · exact r_9_5_t
    · cases g
      · exact r_9_6_f
      · exact r_9_6_t
    · cases g
      · exact r_9_7_f
      · exact r_9_7_t
    · cases g
      · exact r_9_8_f
      · exact r_9_8_t
    · cases g
      · exact r_9_9_f
      · exact r_9_9_t
    · cases g
      · exact r_9_10_f
      · exact r_9_10_t
theorem rings_walk (a0 : Int) (a1 : Bool) (a2 : Int) (w0 : (Lit.int .u8 a0).wf = true) (w2 : (Lit.int .u8 a2).wf = true) (w : World) :
    Calls Try.prog 3 #[.int .u8 a0, .bool a1, .int .u8 a2] w fun e w' => e = .returned (.bool true) ∧ Below w.heap.size w w' := by
  have r0 : 0 ≤ a0 ∧ a0 < 256 := byte_range w0
  have r2 : 0 ≤ a2 ∧ a2 < 256 := byte_range w2
  obtain ⟨n, rfl⟩ := Int.eq_ofNat_of_zero_le r0.1
  obtain ⟨f, rfl⟩ := Int.eq_ofNat_of_zero_le r2.1
  have hm : n % 10 < 10 := Nat.mod_lt _ (by decide)
  have hk : f % (n % 10 + 2) < n % 10 + 2 := Nat.mod_lt _ (by omega)
  have hrun := all_runs a1 hm hk
  let ρ : Vn := ⟨fun y => if y = 0 then (n : Int) else if y = 1 then (f : Int) else 0, fun _ => ⟨#[]⟩⟩
  have he : EnvOk (ringEnv (n % 10) (f % (n % 10 + 2))) ρ := by
    refine byteEnv_ok (fun y => ?_) (fun x hx => ?_)
    · show 0 ≤ (if y = 0 then (n : Int) else if y = 1 then (f : Int) else 0) ∧ (if y = 0 then (n : Int) else if y = 1 then (f : Int) else 0) < 256
      split
      · exact r0
      · split
        · exact r2
        · omega
    · simp only [List.mem_cons, List.not_mem_nil, or_false] at hx
      rcases hx with rfl | rfl
      · rfl
      · rfl
  exact law_run (eval_ok tbl_ok mixed _) he hrun (us := [.int .u8 n, .bool a1, .int .u8 f]) (.cons rfl (.cons rfl (.cons rfl .nil))) w
end Go.Proofs.Ytmbbciidknchiaa
