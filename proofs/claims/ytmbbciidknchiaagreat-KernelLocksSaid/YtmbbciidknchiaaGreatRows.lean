/-
  No cell of these rows narrows 'for every input' (looked for: loops, veiled, ifaces, maps, wideKeys, modest, calm, conditions, laid).
  DERIVED. THE GIVEN ROWS OF THIS SEAT. 6 by the template 'for every input the law returns true; each argument reads behind the call as it read before'; 0 by the template 'total and deterministic' (their statements: YtmbbciidknchiaaGreatTotals.lean).
  GIVEN WITH THE SEED: the statements are not yours to turn. If you find one false, say at which input.
  Laid BY PROGRAM, IN A SANDBOX (cutbox-rows.mjs): the forced cells as the released guide's own fill.sh prints them over the translation 12d24ee8bee73b6c… (all of the seat's roots in one cut). By AI agents, Wed Nov 11 2026. No macro, syntax, notation, axiom, sorry.
-/
import Derived.Test.YtmbbciidknchiaaGreatChecked
import GoSem.Claim
import GoSem.ClaimJoined
import GoSem.ClaimMapViews
import Derived.JoinedTies
import Derived.KernelRfl
namespace Go.Proofs.YtmbbciidknchiaaGreat
/- THE CELL 'sum', in the pinned program and in every row, IS THE sha256 OF THE DUMP (.gsa) THAT YtmbbciidknchiaaGreatProg.lean LOADS. Nothing in Lean hashes anything: it is a label: what it is worth is what the hold of that sum in a sandbox is worth. -/
noncomputable def Tryz.pinned : Pinned := { name := "ytmbbciidknchiaagreat", sum := "12d24ee8bee73b6cfa738134d830214bf95168a67fffe0708520f1ac54f7f77d", checked := Tryz.checked }
namespace Rows
def none {H : Type} : Left H := { results := [], args := [] }

/-- 'pagemendlaw16.AnalysisDirty': WHATEVER THE INPUT: true; the input reads as it did. -/
def analysisDirtySpec : ChangeSpec := { name := "analysisDirty", fn := fun _ => fun
  | [d] => { results := [.lit (.bool true)], args := [d] }
  | _ => none }
def analysisDirtyRow : OpenClaim := { program := "ytmbbciidknchiaagreat", sum := "12d24ee8bee73b6cfa738134d830214bf95168a67fffe0708520f1ac54f7f77d", func := "pagemend/pagemendlaw16.AnalysisDirty", spec := "analysisDirty", inPlace := ["slices.overlaps[pagemend/api.Tx]", "slices.overlaps[pagemend/api.Dirty]"], unfollowed := true, recurses := true, plainKeys := false, apart := false }
def AnalysisDirtySaid : Prop := analysisDirtyRow.holds Tryz.pinned (OpenSpec.ofChange analysisDirtySpec)

/-- ITS FALSE NEIGHBOUR: 'it returns false'. Refute it at one input. -/
def analysisDirtyWrong : ChangeSpec := { name := "analysisDirty", fn := fun _ => fun
  | [d] => { results := [.lit (.bool false)], args := [d] }
  | _ => none }
def AnalysisDirtyWrongFalsely : Prop := analysisDirtyRow.holds Tryz.pinned (OpenSpec.ofChange analysisDirtyWrong)

/-- 'pagemendlaw13.KernelLocks': WHATEVER THE INPUT: true; the input reads as it did. -/
def kernelLocksSpec : ChangeSpec := { name := "kernelLocks", fn := fun _ => fun
  | [d1, d2, d3] => { results := [.lit (.bool true)], args := [d1, d2, d3] }
  | _ => none }
def kernelLocksRow : OpenClaim := { program := "ytmbbciidknchiaagreat", sum := "12d24ee8bee73b6cfa738134d830214bf95168a67fffe0708520f1ac54f7f77d", func := "pagemend/pagemendlaw13.KernelLocks", spec := "kernelLocks", inPlace := ["slices.overlaps[pagemend/api.Tx]", "slices.overlaps[pagemend/api.Grant]", "internal/abi.NoEscape", "internal/bytealg.MakeNoZero"], unfollowed := true, recurses := true, plainKeys := false, apart := false }
def KernelLocksSaid : Prop := kernelLocksRow.holds Tryz.pinned (OpenSpec.ofChange kernelLocksSpec)

/-- ITS FALSE NEIGHBOUR: 'it returns false'. Refute it at one input. -/
def kernelLocksWrong : ChangeSpec := { name := "kernelLocks", fn := fun _ => fun
  | [d1, d2, d3] => { results := [.lit (.bool false)], args := [d1, d2, d3] }
  | _ => none }
def KernelLocksWrongFalsely : Prop := kernelLocksRow.holds Tryz.pinned (OpenSpec.ofChange kernelLocksWrong)

/-- 'pagemendlaw13.KernelVictims': WHATEVER THE INPUT: true; the input reads as it did. -/
def kernelVictimsSpec : ChangeSpec := { name := "kernelVictims", fn := fun _ => fun
  | [d1, d2] => { results := [.lit (.bool true)], args := [d1, d2] }
  | _ => none }
def kernelVictimsRow : OpenClaim := { program := "ytmbbciidknchiaagreat", sum := "12d24ee8bee73b6cfa738134d830214bf95168a67fffe0708520f1ac54f7f77d", func := "pagemend/pagemendlaw13.KernelVictims", spec := "kernelVictims", inPlace := ["slices.overlaps[pagemend/api.Tx]", "slices.overlaps[pagemend/api.Grant]", "internal/abi.NoEscape", "internal/bytealg.MakeNoZero"], unfollowed := true, recurses := true, plainKeys := false, apart := false }
def KernelVictimsSaid : Prop := kernelVictimsRow.holds Tryz.pinned (OpenSpec.ofChange kernelVictimsSpec)

/-- ITS FALSE NEIGHBOUR: 'it returns false'. Refute it at one input. -/
def kernelVictimsWrong : ChangeSpec := { name := "kernelVictims", fn := fun _ => fun
  | [d1, d2] => { results := [.lit (.bool false)], args := [d1, d2] }
  | _ => none }
def KernelVictimsWrongFalsely : Prop := kernelVictimsRow.holds Tryz.pinned (OpenSpec.ofChange kernelVictimsWrong)

/-- 'pagemendlaw13.KernelWaits': WHATEVER THE INPUT: true; the input reads as it did. -/
def kernelWaitsSpec : ChangeSpec := { name := "kernelWaits", fn := fun _ => fun
  | [d] => { results := [.lit (.bool true)], args := [d] }
  | _ => none }
def kernelWaitsRow : OpenClaim := { program := "ytmbbciidknchiaagreat", sum := "12d24ee8bee73b6cfa738134d830214bf95168a67fffe0708520f1ac54f7f77d", func := "pagemend/pagemendlaw13.KernelWaits", spec := "kernelWaits", inPlace := ["slices.overlaps[pagemend/api.Tx]", "slices.overlaps[pagemend/api.Grant]", "internal/abi.NoEscape", "internal/bytealg.MakeNoZero"], unfollowed := true, recurses := true, plainKeys := false, apart := false }
def KernelWaitsSaid : Prop := kernelWaitsRow.holds Tryz.pinned (OpenSpec.ofChange kernelWaitsSpec)

/-- ITS FALSE NEIGHBOUR: 'it returns false'. Refute it at one input. -/
def kernelWaitsWrong : ChangeSpec := { name := "kernelWaits", fn := fun _ => fun
  | [d] => { results := [.lit (.bool false)], args := [d] }
  | _ => none }
def KernelWaitsWrongFalsely : Prop := kernelWaitsRow.holds Tryz.pinned (OpenSpec.ofChange kernelWaitsWrong)

/-- 'pagemendlaw13.KernelFlushes': WHATEVER THE INPUT: true; the input reads as it did. -/
def kernelFlushesSpec : ChangeSpec := { name := "kernelFlushes", fn := fun _ => fun
  | [d1, d2] => { results := [.lit (.bool true)], args := [d1, d2] }
  | _ => none }
def kernelFlushesRow : OpenClaim := { program := "ytmbbciidknchiaagreat", sum := "12d24ee8bee73b6cfa738134d830214bf95168a67fffe0708520f1ac54f7f77d", func := "pagemend/pagemendlaw13.KernelFlushes", spec := "kernelFlushes", inPlace := ["slices.overlaps[pagemend/api.Tx]", "slices.overlaps[pagemend/api.Grant]", "internal/abi.NoEscape", "internal/bytealg.MakeNoZero"], unfollowed := true, recurses := true, plainKeys := false, apart := false }
def KernelFlushesSaid : Prop := kernelFlushesRow.holds Tryz.pinned (OpenSpec.ofChange kernelFlushesSpec)

/-- ITS FALSE NEIGHBOUR: 'it returns false'. Refute it at one input. -/
def kernelFlushesWrong : ChangeSpec := { name := "kernelFlushes", fn := fun _ => fun
  | [d1, d2] => { results := [.lit (.bool false)], args := [d1, d2] }
  | _ => none }
def KernelFlushesWrongFalsely : Prop := kernelFlushesRow.holds Tryz.pinned (OpenSpec.ofChange kernelFlushesWrong)

/-- 'pagemendlaw19.ServiceStale': WHATEVER THE INPUT: true; the input reads as it did. -/
def serviceStaleSpec : ChangeSpec := { name := "serviceStale", fn := fun _ => fun
  | [d1, d2] => { results := [.lit (.bool true)], args := [d1, d2] }
  | _ => none }
def serviceStaleRow : OpenClaim := { program := "ytmbbciidknchiaagreat", sum := "12d24ee8bee73b6cfa738134d830214bf95168a67fffe0708520f1ac54f7f77d", func := "pagemend/pagemendlaw19.ServiceStale", spec := "serviceStale", inPlace := ["internal/abi.NoEscape", "internal/bytealg.MakeNoZero", "slices.overlaps[pagemend/api.Tx]", "slices.overlaps[pagemend/api.Grant]", "slices.overlaps[int]"], unfollowed := true, recurses := true, plainKeys := false, apart := false }
def ServiceStaleSaid : Prop := serviceStaleRow.holds Tryz.pinned (OpenSpec.ofChange serviceStaleSpec)

/-- ITS FALSE NEIGHBOUR: 'it returns false'. Refute it at one input. -/
def serviceStaleWrong : ChangeSpec := { name := "serviceStale", fn := fun _ => fun
  | [d1, d2] => { results := [.lit (.bool false)], args := [d1, d2] }
  | _ => none }
def ServiceStaleWrongFalsely : Prop := serviceStaleRow.holds Tryz.pinned (OpenSpec.ofChange serviceStaleWrong)

/- THE SECOND FORM. 'bulk': how many values and letters a reading holds, each counted each time it is reached (what is shared counts as often as it is met; a slice's spare places count too). A statement '..UptoSaid' is the law's where the arguments, and the package variables that the reading takes, are together of bulk at most 1048576: NARROWER than '..Said'. Prove '..Said' where nothing that the law and all that it calls make is longer than what came in: it says more and counts as full. Else prove '..UptoSaid'. A law counts once. -/
mutual
def uptoBulk {H : Type} : DataW H → Nat
  | .lit (.string bytes) => bytes.length + 1
  | .lit _ => 1
  | .nil => 1
  | .ptr d => uptoBulk d + 1
  | .slice elems spare => uptoBulkAll elems + uptoBulkAll spare + 1
  | .agg parts => uptoBulkAll parts + 1
  | .iface _ d => uptoBulk d + 1
  | .map entries => uptoBulkEntries entries + 1
  | .held _ => 1
def uptoBulkAll {H : Type} : List (DataW H) → Nat
  | [] => 0
  | d :: r => uptoBulk d + uptoBulkAll r
def uptoBulkEntries {H : Type} : List (Lit × DataW H) → Nat
  | [] => 0
  | x :: r => uptoBulkEntry x + uptoBulkEntries r
def uptoBulkEntry {H : Type} : Lit × DataW H → Nat
  | (.string bytes, d) => bytes.length + uptoBulk d + 1
  | (_, d) => uptoBulk d + 1
 end
def uptoSmall : (H : Type) → List (DataW H) → Bool := fun _ ds => decide (uptoBulkAll ds ≤ 1048576)
def OpenSpec.upto (s : _root_.Go.ChangeSpec) : _root_.Go.OpenSpec := { _root_.Go.OpenSpec.ofChange s with cond := some uptoSmall }

/-- 'pagemendlaw16.AnalysisDirty', WHERE WHAT IT READS IS OF BULK AT MOST 1048576: true; the input reads as it did. -/
def analysisDirtyUptoRow : OpenClaim := { program := "ytmbbciidknchiaagreat", sum := "12d24ee8bee73b6cfa738134d830214bf95168a67fffe0708520f1ac54f7f77d", func := "pagemend/pagemendlaw16.AnalysisDirty", spec := "analysisDirty", inPlace := ["slices.overlaps[pagemend/api.Tx]", "slices.overlaps[pagemend/api.Dirty]"], unfollowed := true, recurses := true, plainKeys := false, apart := false, narrowed := true }
def AnalysisDirtyUptoSaid : Prop := analysisDirtyUptoRow.holds Tryz.pinned (OpenSpec.upto analysisDirtySpec)

/-- 'pagemendlaw13.KernelLocks', WHERE WHAT IT READS IS OF BULK AT MOST 1048576: true; the input reads as it did. -/
def kernelLocksUptoRow : OpenClaim := { program := "ytmbbciidknchiaagreat", sum := "12d24ee8bee73b6cfa738134d830214bf95168a67fffe0708520f1ac54f7f77d", func := "pagemend/pagemendlaw13.KernelLocks", spec := "kernelLocks", inPlace := ["slices.overlaps[pagemend/api.Tx]", "slices.overlaps[pagemend/api.Grant]", "internal/abi.NoEscape", "internal/bytealg.MakeNoZero"], unfollowed := true, recurses := true, plainKeys := false, apart := false, narrowed := true }
def KernelLocksUptoSaid : Prop := kernelLocksUptoRow.holds Tryz.pinned (OpenSpec.upto kernelLocksSpec)

/-- 'pagemendlaw13.KernelVictims', WHERE WHAT IT READS IS OF BULK AT MOST 1048576: true; the input reads as it did. -/
def kernelVictimsUptoRow : OpenClaim := { program := "ytmbbciidknchiaagreat", sum := "12d24ee8bee73b6cfa738134d830214bf95168a67fffe0708520f1ac54f7f77d", func := "pagemend/pagemendlaw13.KernelVictims", spec := "kernelVictims", inPlace := ["slices.overlaps[pagemend/api.Tx]", "slices.overlaps[pagemend/api.Grant]", "internal/abi.NoEscape", "internal/bytealg.MakeNoZero"], unfollowed := true, recurses := true, plainKeys := false, apart := false, narrowed := true }
def KernelVictimsUptoSaid : Prop := kernelVictimsUptoRow.holds Tryz.pinned (OpenSpec.upto kernelVictimsSpec)

/-- 'pagemendlaw13.KernelWaits', WHERE WHAT IT READS IS OF BULK AT MOST 1048576: true; the input reads as it did. -/
def kernelWaitsUptoRow : OpenClaim := { program := "ytmbbciidknchiaagreat", sum := "12d24ee8bee73b6cfa738134d830214bf95168a67fffe0708520f1ac54f7f77d", func := "pagemend/pagemendlaw13.KernelWaits", spec := "kernelWaits", inPlace := ["slices.overlaps[pagemend/api.Tx]", "slices.overlaps[pagemend/api.Grant]", "internal/abi.NoEscape", "internal/bytealg.MakeNoZero"], unfollowed := true, recurses := true, plainKeys := false, apart := false, narrowed := true }
def KernelWaitsUptoSaid : Prop := kernelWaitsUptoRow.holds Tryz.pinned (OpenSpec.upto kernelWaitsSpec)

/-- 'pagemendlaw13.KernelFlushes', WHERE WHAT IT READS IS OF BULK AT MOST 1048576: true; the input reads as it did. -/
def kernelFlushesUptoRow : OpenClaim := { program := "ytmbbciidknchiaagreat", sum := "12d24ee8bee73b6cfa738134d830214bf95168a67fffe0708520f1ac54f7f77d", func := "pagemend/pagemendlaw13.KernelFlushes", spec := "kernelFlushes", inPlace := ["slices.overlaps[pagemend/api.Tx]", "slices.overlaps[pagemend/api.Grant]", "internal/abi.NoEscape", "internal/bytealg.MakeNoZero"], unfollowed := true, recurses := true, plainKeys := false, apart := false, narrowed := true }
def KernelFlushesUptoSaid : Prop := kernelFlushesUptoRow.holds Tryz.pinned (OpenSpec.upto kernelFlushesSpec)

/-- 'pagemendlaw19.ServiceStale', WHERE WHAT IT READS IS OF BULK AT MOST 1048576: true; the input reads as it did. -/
def serviceStaleUptoRow : OpenClaim := { program := "ytmbbciidknchiaagreat", sum := "12d24ee8bee73b6cfa738134d830214bf95168a67fffe0708520f1ac54f7f77d", func := "pagemend/pagemendlaw19.ServiceStale", spec := "serviceStale", inPlace := ["internal/abi.NoEscape", "internal/bytealg.MakeNoZero", "slices.overlaps[pagemend/api.Tx]", "slices.overlaps[pagemend/api.Grant]", "slices.overlaps[int]"], unfollowed := true, recurses := true, plainKeys := false, apart := false, narrowed := true }
def ServiceStaleUptoSaid : Prop := serviceStaleUptoRow.holds Tryz.pinned (OpenSpec.upto serviceStaleSpec)

end Rows
end Go.Proofs.YtmbbciidknchiaaGreat
