/-
  Runs of WaitsRings, part 1.
-/
import Derived.Test.YtmbbciidknchiaaKR
import Derived.KernelRfl
namespace Go.Proofs.Ytmbbciidknchiaa
set_option maxRecDepth 100000
theorem r_0_1_f : run (nat_lit 0) (nat_lit 1) false = true := by kernel_rfl
theorem r_1_0_t : run (nat_lit 1) (nat_lit 0) true = true := by kernel_rfl
theorem r_2_3_f : run (nat_lit 2) (nat_lit 3) false = true := by kernel_rfl
theorem r_2_3_t : run (nat_lit 2) (nat_lit 3) true = true := by kernel_rfl
theorem r_3_0_f : run (nat_lit 3) (nat_lit 0) false = true := by kernel_rfl
theorem r_3_4_f : run (nat_lit 3) (nat_lit 4) false = true := by kernel_rfl
theorem r_3_4_t : run (nat_lit 3) (nat_lit 4) true = true := by kernel_rfl
theorem r_4_2_t : run (nat_lit 4) (nat_lit 2) true = true := by kernel_rfl
theorem r_4_3_f : run (nat_lit 4) (nat_lit 3) false = true := by kernel_rfl
theorem r_5_1_f : run (nat_lit 5) (nat_lit 1) false = true := by kernel_rfl
theorem r_5_1_t : run (nat_lit 5) (nat_lit 1) true = true := by kernel_rfl
theorem r_5_5_f : run (nat_lit 5) (nat_lit 5) false = true := by kernel_rfl
theorem r_5_5_t : run (nat_lit 5) (nat_lit 5) true = true := by kernel_rfl
theorem r_6_2_t : run (nat_lit 6) (nat_lit 2) true = true := by kernel_rfl
theorem r_6_4_f : run (nat_lit 6) (nat_lit 4) false = true := by kernel_rfl
theorem r_6_6_t : run (nat_lit 6) (nat_lit 6) true = true := by kernel_rfl
theorem r_7_0_t : run (nat_lit 7) (nat_lit 0) true = true := by kernel_rfl
theorem r_7_2_f : run (nat_lit 7) (nat_lit 2) false = true := by kernel_rfl
theorem r_7_2_t : run (nat_lit 7) (nat_lit 2) true = true := by kernel_rfl
theorem r_7_6_f : run (nat_lit 7) (nat_lit 6) false = true := by kernel_rfl
theorem r_7_6_t : run (nat_lit 7) (nat_lit 6) true = true := by kernel_rfl
theorem r_8_1_t : run (nat_lit 8) (nat_lit 1) true = true := by kernel_rfl
theorem r_8_3_f : run (nat_lit 8) (nat_lit 3) false = true := by kernel_rfl
theorem r_8_5_t : run (nat_lit 8) (nat_lit 5) true = true := by kernel_rfl
theorem r_8_7_f : run (nat_lit 8) (nat_lit 7) false = true := by kernel_rfl
theorem r_8_9_t : run (nat_lit 8) (nat_lit 9) true = true := by kernel_rfl
theorem r_9_1_f : run (nat_lit 9) (nat_lit 1) false = true := by kernel_rfl
theorem r_9_1_t : run (nat_lit 9) (nat_lit 1) true = true := by kernel_rfl
theorem r_9_5_f : run (nat_lit 9) (nat_lit 5) false = true := by kernel_rfl
theorem r_9_5_t : run (nat_lit 9) (nat_lit 5) true = true := by kernel_rfl
theorem r_9_9_f : run (nat_lit 9) (nat_lit 9) false = true := by kernel_rfl
theorem r_9_9_t : run (nat_lit 9) (nat_lit 9) true = true := by kernel_rfl
end Go.Proofs.Ytmbbciidknchiaa
