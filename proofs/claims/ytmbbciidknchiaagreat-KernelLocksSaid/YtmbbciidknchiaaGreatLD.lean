/-
  A run of KernelLocks.
-/
import Derived.Test.YtmbbciidknchiaaGreatLB
namespace Go.Proofs.YtmbbciidknchiaaGreat
noncomputable def lrun (x y : Nat) : Bool := isTrue (callBy tbl (aev Tryz.prog (symEnv [(0, 3, x), (1, 3, y)] 2) tbl (nat_lit 8000)) ⟨.x0, .x0, .x4⟩ [.c (.si .u8 (.v (nat_lit 0))), .c (.si .u8 (.v (nat_lit 1))), .c (.ss (.v (nat_lit 2)))] hp0)
end Go.Proofs.YtmbbciidknchiaaGreat
