/-
  Runs of WaitsRings, part 0.
-/
import Derived.Test.YtmbbciidknchiaaKR
import Derived.KernelRfl
namespace Go.Proofs.Ytmbbciidknchiaa
set_option maxRecDepth 100000
theorem r_0_0_t : run (nat_lit 0) (nat_lit 0) true = true := by kernel_rfl
theorem r_1_0_f : run (nat_lit 1) (nat_lit 0) false = true := by kernel_rfl
theorem r_1_1_t : run (nat_lit 1) (nat_lit 1) true = true := by kernel_rfl
theorem r_2_0_f : run (nat_lit 2) (nat_lit 0) false = true := by kernel_rfl
theorem r_2_0_t : run (nat_lit 2) (nat_lit 0) true = true := by kernel_rfl
theorem r_3_1_t : run (nat_lit 3) (nat_lit 1) true = true := by kernel_rfl
theorem r_3_2_f : run (nat_lit 3) (nat_lit 2) false = true := by kernel_rfl
theorem r_4_0_f : run (nat_lit 4) (nat_lit 0) false = true := by kernel_rfl
theorem r_4_0_t : run (nat_lit 4) (nat_lit 0) true = true := by kernel_rfl
theorem r_4_1_f : run (nat_lit 4) (nat_lit 1) false = true := by kernel_rfl
theorem r_4_4_t : run (nat_lit 4) (nat_lit 4) true = true := by kernel_rfl
theorem r_4_5_f : run (nat_lit 4) (nat_lit 5) false = true := by kernel_rfl
theorem r_5_3_f : run (nat_lit 5) (nat_lit 3) false = true := by kernel_rfl
theorem r_5_3_t : run (nat_lit 5) (nat_lit 3) true = true := by kernel_rfl
theorem r_6_0_t : run (nat_lit 6) (nat_lit 0) true = true := by kernel_rfl
theorem r_6_3_f : run (nat_lit 6) (nat_lit 3) false = true := by kernel_rfl
theorem r_6_4_t : run (nat_lit 6) (nat_lit 4) true = true := by kernel_rfl
theorem r_6_7_f : run (nat_lit 6) (nat_lit 7) false = true := by kernel_rfl
theorem r_7_1_f : run (nat_lit 7) (nat_lit 1) false = true := by kernel_rfl
theorem r_7_4_t : run (nat_lit 7) (nat_lit 4) true = true := by kernel_rfl
theorem r_7_5_f : run (nat_lit 7) (nat_lit 5) false = true := by kernel_rfl
theorem r_7_8_t : run (nat_lit 7) (nat_lit 8) true = true := by kernel_rfl
theorem r_8_0_t : run (nat_lit 8) (nat_lit 0) true = true := by kernel_rfl
theorem r_8_2_f : run (nat_lit 8) (nat_lit 2) false = true := by kernel_rfl
theorem r_8_4_t : run (nat_lit 8) (nat_lit 4) true = true := by kernel_rfl
theorem r_8_6_f : run (nat_lit 8) (nat_lit 6) false = true := by kernel_rfl
theorem r_8_8_t : run (nat_lit 8) (nat_lit 8) true = true := by kernel_rfl
theorem r_9_0_f : run (nat_lit 9) (nat_lit 0) false = true := by kernel_rfl
theorem r_9_0_t : run (nat_lit 9) (nat_lit 0) true = true := by kernel_rfl
theorem r_9_4_f : run (nat_lit 9) (nat_lit 4) false = true := by kernel_rfl
theorem r_9_4_t : run (nat_lit 9) (nat_lit 4) true = true := by kernel_rfl
theorem r_9_8_f : run (nat_lit 9) (nat_lit 8) false = true := by kernel_rfl
theorem r_9_8_t : run (nat_lit 9) (nat_lit 8) true = true := by kernel_rfl
end Go.Proofs.Ytmbbciidknchiaa
