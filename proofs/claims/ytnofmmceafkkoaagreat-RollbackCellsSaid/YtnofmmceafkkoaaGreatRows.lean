/-
  No cell of these rows narrows 'for every input' (looked for: loops, veiled, ifaces, maps, wideKeys, modest, calm, conditions, laid).
  DERIVED. THE GIVEN ROWS OF THIS SEAT. 4 by the template 'for every input the law returns true; each argument reads behind the call as it read before'; 0 by the template 'total and deterministic' (their statements: YtnofmmceafkkoaaGreatTotals.lean).
  GIVEN WITH THE SEED: the statements are not yours to turn. If you find one false, say at which input.
  Laid BY PROGRAM, IN A SANDBOX (cutbox-rows.mjs): the forced cells as the released guide's own fill.sh prints them over the translation e056be99fb4d0bf6… (all of the seat's roots in one cut). By AI agents, Wed Nov 11 2026. No macro, syntax, notation, axiom, sorry.
-/
import Derived.Test.YtnofmmceafkkoaaGreatChecked
import GoSem.Claim
import GoSem.ClaimJoined
import GoSem.ClaimMapViews
import Derived.JoinedTies
import Derived.KernelRfl
namespace Go.Proofs.YtnofmmceafkkoaaGreat
/- THE CELL 'sum', in the pinned program and in every row, IS THE sha256 OF THE DUMP (.gsa) THAT YtnofmmceafkkoaaGreatProg.lean LOADS. Nothing in Lean hashes anything: it is a label: what it is worth is what the hold of that sum in a sandbox is worth. -/
noncomputable def Tryz.pinned : Pinned := { name := "ytnofmmceafkkoaagreat", sum := "e056be99fb4d0bf63950c32334c605427a6df79afcab5c7dbf039e27dbc9f0a6", checked := Tryz.checked }
namespace Rows
def none {H : Type} : Left H := { results := [], args := [] }

/-- 'pagemendlaw14.RollbackEnds': WHATEVER THE INPUT: true; the input reads as it did. -/
def rollbackEndsSpec : ChangeSpec := { name := "rollbackEnds", fn := fun _ => fun
  | [d1, d2] => { results := [.lit (.bool true)], args := [d1, d2] }
  | _ => none }
def rollbackEndsRow : OpenClaim := { program := "ytnofmmceafkkoaagreat", sum := "e056be99fb4d0bf63950c32334c605427a6df79afcab5c7dbf039e27dbc9f0a6", func := "pagemend/pagemendlaw14.RollbackEnds", spec := "rollbackEnds", inPlace := ["slices.overlaps[pagemend/api.Tx]", "internal/abi.NoEscape", "internal/bytealg.MakeNoZero", "slices.overlaps[pagemend/api.Grant]"], unfollowed := true, recurses := true, plainKeys := false, apart := false }
def RollbackEndsSaid : Prop := rollbackEndsRow.holds Tryz.pinned (OpenSpec.ofChange rollbackEndsSpec)

/-- ITS FALSE NEIGHBOUR: 'it returns false'. Refute it at one input. -/
def rollbackEndsWrong : ChangeSpec := { name := "rollbackEnds", fn := fun _ => fun
  | [d1, d2] => { results := [.lit (.bool false)], args := [d1, d2] }
  | _ => none }
def RollbackEndsWrongFalsely : Prop := rollbackEndsRow.holds Tryz.pinned (OpenSpec.ofChange rollbackEndsWrong)

/-- 'pagemendlaw14.RollbackSaves': WHATEVER THE INPUT: true; the input reads as it did. -/
def rollbackSavesSpec : ChangeSpec := { name := "rollbackSaves", fn := fun _ => fun
  | [d1, d2] => { results := [.lit (.bool true)], args := [d1, d2] }
  | _ => none }
def rollbackSavesRow : OpenClaim := { program := "ytnofmmceafkkoaagreat", sum := "e056be99fb4d0bf63950c32334c605427a6df79afcab5c7dbf039e27dbc9f0a6", func := "pagemend/pagemendlaw14.RollbackSaves", spec := "rollbackSaves", inPlace := ["slices.overlaps[pagemend/api.Tx]", "internal/abi.NoEscape", "internal/bytealg.MakeNoZero", "slices.overlaps[pagemend/api.Grant]"], unfollowed := true, recurses := true, plainKeys := false, apart := false }
def RollbackSavesSaid : Prop := rollbackSavesRow.holds Tryz.pinned (OpenSpec.ofChange rollbackSavesSpec)

/-- ITS FALSE NEIGHBOUR: 'it returns false'. Refute it at one input. -/
def rollbackSavesWrong : ChangeSpec := { name := "rollbackSaves", fn := fun _ => fun
  | [d1, d2] => { results := [.lit (.bool false)], args := [d1, d2] }
  | _ => none }
def RollbackSavesWrongFalsely : Prop := rollbackSavesRow.holds Tryz.pinned (OpenSpec.ofChange rollbackSavesWrong)

/-- 'pagemendlaw14.RollbackOrder': WHATEVER THE INPUT: true; the input reads as it did. -/
def rollbackOrderSpec : ChangeSpec := { name := "rollbackOrder", fn := fun _ => fun
  | [d] => { results := [.lit (.bool true)], args := [d] }
  | _ => none }
def rollbackOrderRow : OpenClaim := { program := "ytnofmmceafkkoaagreat", sum := "e056be99fb4d0bf63950c32334c605427a6df79afcab5c7dbf039e27dbc9f0a6", func := "pagemend/pagemendlaw14.RollbackOrder", spec := "rollbackOrder", inPlace := ["slices.overlaps[pagemend/api.Tx]", "internal/abi.NoEscape", "internal/bytealg.MakeNoZero", "slices.overlaps[pagemend/api.Grant]"], unfollowed := true, recurses := true, plainKeys := false, apart := false }
def RollbackOrderSaid : Prop := rollbackOrderRow.holds Tryz.pinned (OpenSpec.ofChange rollbackOrderSpec)

/-- ITS FALSE NEIGHBOUR: 'it returns false'. Refute it at one input. -/
def rollbackOrderWrong : ChangeSpec := { name := "rollbackOrder", fn := fun _ => fun
  | [d] => { results := [.lit (.bool false)], args := [d] }
  | _ => none }
def RollbackOrderWrongFalsely : Prop := rollbackOrderRow.holds Tryz.pinned (OpenSpec.ofChange rollbackOrderWrong)

/-- 'pagemendlaw14.RollbackCells': WHATEVER THE INPUT: true; the input reads as it did. -/
def rollbackCellsSpec : ChangeSpec := { name := "rollbackCells", fn := fun _ => fun
  | [d1, d2] => { results := [.lit (.bool true)], args := [d1, d2] }
  | _ => none }
def rollbackCellsRow : OpenClaim := { program := "ytnofmmceafkkoaagreat", sum := "e056be99fb4d0bf63950c32334c605427a6df79afcab5c7dbf039e27dbc9f0a6", func := "pagemend/pagemendlaw14.RollbackCells", spec := "rollbackCells", inPlace := ["slices.overlaps[pagemend/api.Tx]", "internal/abi.NoEscape", "internal/bytealg.MakeNoZero", "slices.overlaps[pagemend/api.Grant]"], unfollowed := true, recurses := true, plainKeys := false, apart := false }
def RollbackCellsSaid : Prop := rollbackCellsRow.holds Tryz.pinned (OpenSpec.ofChange rollbackCellsSpec)

/-- ITS FALSE NEIGHBOUR: 'it returns false'. Refute it at one input. -/
def rollbackCellsWrong : ChangeSpec := { name := "rollbackCells", fn := fun _ => fun
  | [d1, d2] => { results := [.lit (.bool false)], args := [d1, d2] }
  | _ => none }
def RollbackCellsWrongFalsely : Prop := rollbackCellsRow.holds Tryz.pinned (OpenSpec.ofChange rollbackCellsWrong)

/- THE SECOND FORM. 'bulk': how many values and letters a reading holds, each counted each time it is reached (what is shared counts as often as it is met; a slice's spare places count too). A statement '..UptoSaid' is the law's where the arguments, and the package variables that the reading takes, are together of bulk at most 1048576: NARROWER than '..Said'. Prove '..Said' where nothing that the law and all that it calls make is longer than what came in: it says more and counts as full. Else prove '..UptoSaid'. A law counts once. -/
mutual
def uptoBulk {H : Type} : DataW H → Nat
  | .lit (.string bytes) => bytes.length + 1
  | .lit _ => 1
  | .nil => 1
  | .ptr d => uptoBulk d + 1
  | .slice elems spare => uptoBulkAll elems + uptoBulkAll spare + 1
  | .agg parts => uptoBulkAll parts + 1
  | .iface _ d => uptoBulk d + 1
  | .map entries => uptoBulkEntries entries + 1
  | .held _ => 1
def uptoBulkAll {H : Type} : List (DataW H) → Nat
  | [] => 0
  | d :: r => uptoBulk d + uptoBulkAll r
def uptoBulkEntries {H : Type} : List (Lit × DataW H) → Nat
  | [] => 0
  | x :: r => uptoBulkEntry x + uptoBulkEntries r
def uptoBulkEntry {H : Type} : Lit × DataW H → Nat
  | (.string bytes, d) => bytes.length + uptoBulk d + 1
  | (_, d) => uptoBulk d + 1
 end
def uptoSmall : (H : Type) → List (DataW H) → Bool := fun _ ds => decide (uptoBulkAll ds ≤ 1048576)
def OpenSpec.upto (s : _root_.Go.ChangeSpec) : _root_.Go.OpenSpec := { _root_.Go.OpenSpec.ofChange s with cond := some uptoSmall }

/-- 'pagemendlaw14.RollbackEnds', WHERE WHAT IT READS IS OF BULK AT MOST 1048576: true; the input reads as it did. -/
def rollbackEndsUptoRow : OpenClaim := { program := "ytnofmmceafkkoaagreat", sum := "e056be99fb4d0bf63950c32334c605427a6df79afcab5c7dbf039e27dbc9f0a6", func := "pagemend/pagemendlaw14.RollbackEnds", spec := "rollbackEnds", inPlace := ["slices.overlaps[pagemend/api.Tx]", "internal/abi.NoEscape", "internal/bytealg.MakeNoZero", "slices.overlaps[pagemend/api.Grant]"], unfollowed := true, recurses := true, plainKeys := false, apart := false, narrowed := true }
def RollbackEndsUptoSaid : Prop := rollbackEndsUptoRow.holds Tryz.pinned (OpenSpec.upto rollbackEndsSpec)

/-- 'pagemendlaw14.RollbackSaves', WHERE WHAT IT READS IS OF BULK AT MOST 1048576: true; the input reads as it did. -/
def rollbackSavesUptoRow : OpenClaim := { program := "ytnofmmceafkkoaagreat", sum := "e056be99fb4d0bf63950c32334c605427a6df79afcab5c7dbf039e27dbc9f0a6", func := "pagemend/pagemendlaw14.RollbackSaves", spec := "rollbackSaves", inPlace := ["slices.overlaps[pagemend/api.Tx]", "internal/abi.NoEscape", "internal/bytealg.MakeNoZero", "slices.overlaps[pagemend/api.Grant]"], unfollowed := true, recurses := true, plainKeys := false, apart := false, narrowed := true }
def RollbackSavesUptoSaid : Prop := rollbackSavesUptoRow.holds Tryz.pinned (OpenSpec.upto rollbackSavesSpec)

/-- 'pagemendlaw14.RollbackOrder', WHERE WHAT IT READS IS OF BULK AT MOST 1048576: true; the input reads as it did. -/
def rollbackOrderUptoRow : OpenClaim := { program := "ytnofmmceafkkoaagreat", sum := "e056be99fb4d0bf63950c32334c605427a6df79afcab5c7dbf039e27dbc9f0a6", func := "pagemend/pagemendlaw14.RollbackOrder", spec := "rollbackOrder", inPlace := ["slices.overlaps[pagemend/api.Tx]", "internal/abi.NoEscape", "internal/bytealg.MakeNoZero", "slices.overlaps[pagemend/api.Grant]"], unfollowed := true, recurses := true, plainKeys := false, apart := false, narrowed := true }
def RollbackOrderUptoSaid : Prop := rollbackOrderUptoRow.holds Tryz.pinned (OpenSpec.upto rollbackOrderSpec)

/-- 'pagemendlaw14.RollbackCells', WHERE WHAT IT READS IS OF BULK AT MOST 1048576: true; the input reads as it did. -/
def rollbackCellsUptoRow : OpenClaim := { program := "ytnofmmceafkkoaagreat", sum := "e056be99fb4d0bf63950c32334c605427a6df79afcab5c7dbf039e27dbc9f0a6", func := "pagemend/pagemendlaw14.RollbackCells", spec := "rollbackCells", inPlace := ["slices.overlaps[pagemend/api.Tx]", "internal/abi.NoEscape", "internal/bytealg.MakeNoZero", "slices.overlaps[pagemend/api.Grant]"], unfollowed := true, recurses := true, plainKeys := false, apart := false, narrowed := true }
def RollbackCellsUptoSaid : Prop := rollbackCellsUptoRow.holds Tryz.pinned (OpenSpec.upto rollbackCellsSpec)

end Rows
end Go.Proofs.YtnofmmceafkkoaaGreat
