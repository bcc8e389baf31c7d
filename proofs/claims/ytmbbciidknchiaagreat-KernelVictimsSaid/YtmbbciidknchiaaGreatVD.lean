/-
  A run of KernelVictims.
-/
import Derived.Test.YtmbbciidknchiaaGreatVB
namespace Go.Proofs.YtmbbciidknchiaaGreat
noncomputable def vrun (u : Bool) (r : Nat) : Bool := isTrue (callBy tbl (aev Tryz.prog (byteEnv [(0, 4, r)]) tbl (nat_lit 8000)) ⟨.x0, .x0, .x5⟩ [.c (.b u), .c (.si .u8 (nat_lit 0))] hp0)
end Go.Proofs.YtmbbciidknchiaaGreat
