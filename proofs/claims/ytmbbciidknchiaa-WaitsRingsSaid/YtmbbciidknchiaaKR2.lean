/-
  Runs of WaitsRings, part 2.
-/
import Derived.Test.YtmbbciidknchiaaKR
import Derived.KernelRfl
namespace Go.Proofs.Ytmbbciidknchiaa
set_option maxRecDepth 100000
theorem r_0_0_f : run (nat_lit 0) (nat_lit 0) false = true := by kernel_rfl
theorem r_1_2_f : run (nat_lit 1) (nat_lit 2) false = true := by kernel_rfl
theorem r_2_2_f : run (nat_lit 2) (nat_lit 2) false = true := by kernel_rfl
theorem r_2_2_t : run (nat_lit 2) (nat_lit 2) true = true := by kernel_rfl
theorem r_3_3_f : run (nat_lit 3) (nat_lit 3) false = true := by kernel_rfl
theorem r_3_3_t : run (nat_lit 3) (nat_lit 3) true = true := by kernel_rfl
theorem r_4_1_t : run (nat_lit 4) (nat_lit 1) true = true := by kernel_rfl
theorem r_4_2_f : run (nat_lit 4) (nat_lit 2) false = true := by kernel_rfl
theorem r_4_5_t : run (nat_lit 4) (nat_lit 5) true = true := by kernel_rfl
theorem r_5_0_f : run (nat_lit 5) (nat_lit 0) false = true := by kernel_rfl
theorem r_5_0_t : run (nat_lit 5) (nat_lit 0) true = true := by kernel_rfl
theorem r_5_4_f : run (nat_lit 5) (nat_lit 4) false = true := by kernel_rfl
theorem r_5_4_t : run (nat_lit 5) (nat_lit 4) true = true := by kernel_rfl
theorem r_6_0_f : run (nat_lit 6) (nat_lit 0) false = true := by kernel_rfl
theorem r_6_1_f : run (nat_lit 6) (nat_lit 1) false = true := by kernel_rfl
theorem r_6_1_t : run (nat_lit 6) (nat_lit 1) true = true := by kernel_rfl
theorem r_6_5_f : run (nat_lit 6) (nat_lit 5) false = true := by kernel_rfl
theorem r_6_5_t : run (nat_lit 6) (nat_lit 5) true = true := by kernel_rfl
theorem r_7_1_t : run (nat_lit 7) (nat_lit 1) true = true := by kernel_rfl
theorem r_7_3_f : run (nat_lit 7) (nat_lit 3) false = true := by kernel_rfl
theorem r_7_5_t : run (nat_lit 7) (nat_lit 5) true = true := by kernel_rfl
theorem r_7_7_f : run (nat_lit 7) (nat_lit 7) false = true := by kernel_rfl
theorem r_8_2_t : run (nat_lit 8) (nat_lit 2) true = true := by kernel_rfl
theorem r_8_4_f : run (nat_lit 8) (nat_lit 4) false = true := by kernel_rfl
theorem r_8_6_t : run (nat_lit 8) (nat_lit 6) true = true := by kernel_rfl
theorem r_8_8_f : run (nat_lit 8) (nat_lit 8) false = true := by kernel_rfl
theorem r_9_2_f : run (nat_lit 9) (nat_lit 2) false = true := by kernel_rfl
theorem r_9_2_t : run (nat_lit 9) (nat_lit 2) true = true := by kernel_rfl
theorem r_9_6_f : run (nat_lit 9) (nat_lit 6) false = true := by kernel_rfl
theorem r_9_6_t : run (nat_lit 9) (nat_lit 6) true = true := by kernel_rfl
theorem r_9_10_f : run (nat_lit 9) (nat_lit 10) false = true := by kernel_rfl
theorem r_9_10_t : run (nat_lit 9) (nat_lit 10) true = true := by kernel_rfl
end Go.Proofs.Ytmbbciidknchiaa
