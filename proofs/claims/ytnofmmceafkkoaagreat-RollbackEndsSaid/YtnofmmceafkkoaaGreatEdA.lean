/-
  RollbackEnds: states and what is known at them (printed by a program).
-/
import Derived.Test.YtnofmmceafkkoaaGreatSr
import Derived.Test.YtnofmmceafkkoaaGreatEdT
set_option linter.unusedSimpArgs false
set_option linter.unusedVariables false
set_option maxRecDepth 100000
namespace Go.Proofs.YtnofmmceafkkoaaGreat
open Go.RowKit
def chBody : ACd := bodyA c8
def chRes : List AR := resA c8
def chX : ACd := cutR 5 chBody
def chRi : ACd := fstA (fstA chX)
def chB : ACd := innA (innA (sndA (fstA chX)))
def chRe : ACd := sndA chX
theorem chX_eq : chX = .seq (.seq chRi (.block M0 (.loop chB))) chRe := by kernel_rfl
theorem chCut : cutA 5 chBody = some (cutL 5 chBody, chX) := by kernel_rfl
def lwBody : ACd := bodyA c3
def lwRes : List AR := resA c3
def lw1 : ACd := cutR 2 lwBody
def lwRC : ACd := fstA lw1
def lw2 : ACd := sndA lw1
def lw3 : ACd := cutR 4 lw2
def lwX : ACd := fstA lw3
def lwRi : ACd := fstA lwX
def lwB3 : ACd := innA (innA (sndA lwX))
def lw4 : ACd := sndA lw3
def lw5 : ACd := cutR 3 lw4
def lwB5 : ACd := innA (innA (fstA lw5))
def lw6 : ACd := sndA lw5
theorem lw1_eq : lw1 = .seq lwRC lw2 := by kernel_rfl
theorem lw3_eq : lw3 = .seq (.seq lwRi (.block M0 (.loop lwB3))) lw4 := by kernel_rfl
theorem lw5_eq : lw5 = .seq (.block M2 (.loop lwB5)) lw6 := by kernel_rfl
theorem cutL1 : cutA 2 lwBody = some (cutL 2 lwBody, lw1) := by kernel_rfl
theorem cutL2 : cutA 4 lw2 = some (cutL 4 lw2, lw3) := by kernel_rfl
theorem cutL4 : cutA 3 lw4 = some (cutL 3 lw4, lw5) := by kernel_rfl
def heldC (t : Nat) : List Nat → List AC
  | [] => []
  | s :: l => .i .i64 (.ofNat t) :: .i .i64 (.ofNat M0) :: .i .i64 (.ofNat s) :: .i .i64 (.ofNat M2) :: heldC t l
def subs (n k : Nat) : List Nat := (List.range n).filter fun i => Nat.testBit k i
def bN (n : Nat) : Bid := match Bid.of n with | some i => i | none => B000
def bMf : Nat → List Nat → List (Bid × Bid)
  | _,[] => []
  | i,a :: l => (bN a,bN i) :: bMf (i + 1) l
def bM (l : List Nat) : List (Bid × Bid) := bMf M0 l
def sC0 : Lit := ⟨[(.x0,.x0,(.c (.ds (.i .u8 .nil) (.v M50)))),(.x0,.x1,(.c (.b false)))],[],B000⟩
def s0L : Lit := ⟨[(.x0,.x0,(.c (.ds (.i .u8 .nil) (.v M50)))),(.x0,.x1,(.c (.ds (.i .u8 .nil) (.v M51))))],[],B000⟩
def sTL : Lit := ⟨[(.x0,.x4,(.c (.b true)))],[],B000⟩
def sPL : Lit := ⟨[(.x0,.x0,(.c (.ds (.i .u8 .nil) (.v M50)))),(.x0,.x1,(.c (.ds (.i .u8 .nil) (.v M51)))),(.x0,.x4,(.c (.b false))),(.x2,.xd,(.c (.ds (.i .u8 .nil) (.v M50))))],[],B000⟩
def sP0 : Lit := ⟨[(.x0,.x0,(.c (.ds (.i .u8 .nil) (.v M50)))),(.x0,.x1,(.c (.ds (.i .u8 .nil) (.v M51)))),(.x0,.x4,(.c (.b false)))],[],B000⟩
def st1z : Lit := ⟨[(.x0,.x1,(.c (.b false))),(.x0,.x4,(.c (.p B000 M0))),(.x0,.x7,(.c (.p B001 M0))),(.x0,.x9,(.c Z1)),(.x2,.xe,(.c (.ds (.i .u8 .nil) (.v M50)))),(.x2,.xf,(.c (.si .i64 (.v M8)))),(.x3,.x0,(.c (.si .i64 (.v M7))))],[(B000,(.cells [Z0,Z0,Z0,.sn,Z0,Z0,.sn,Z0,.sn,.sn,.sn,.sn,.sn])),(B001,(.cells [Z1,Z2,Z1,.ds (.i .i64 (.i .i64 (.i .i64 (.i .i64 (.i .i64 (.i .i64 (.i .i64 (.i .i64 (.b (.s (.b (.s (.s .nil))))))))))))) (.v M0),.si .i64 (.v M4),Z1,.su B002 M0 M1 M1 M37,Z0,.sn,.sn,.su B003 M0 M1 M1 M6,.sl B004 M0 M1 M1,.sn])),(B002,(.cells [Z0,Z0,.b false,.s [],.b false,.s [],.b false,.s [],.b false,.s [],.b false,.s [],.b false,.s [],.b false,.s [],.b false,.s [],.b false,.s [],.b false,.s [],.b false,.s [],.b false,.s [],.b false,.s [],.b false,.s [],.b false,.s [],.b false,.s [],.b false,Z0,.b true])),(B003,(.cells [Z1,Z1,.si .i64 (.v M2),Z0,.ds (.i .i64 .nil) (.v M1),.sn])),(B004,(.cells [Z0,Z0,Z0]))],B005⟩
def st1p (l : List Nat) : Lit := ⟨[(.x0,.x1,(.c (.b false))),(.x0,.x4,(.c (.p B000 M0))),(.x0,.x7,(.c (.p B001 M0))),(.x0,.x9,(.c Z1)),(.x2,.xe,(.c (.ds (.i .u8 .nil) (.v M50)))),(.x2,.xf,(.c (.si .i64 (.v M8)))),(.x3,.x0,(.c (.si .i64 (.v M7))))],[(B000,(.cells [Z0,Z0,Z0,.sn,Z0,Z0,.sn,Z0,.sn,.sn,.sn,.sn,.sn])),(B001,(.cells [Z1,Z2,Z1,.ds (.i .i64 (.i .i64 (.i .i64 (.i .i64 (.i .i64 (.i .i64 (.i .i64 (.i .i64 (.b (.s (.b (.s (.s .nil))))))))))))) (.v M0),.si .i64 (.v M4),Z1,.su B002 M0 M1 M1 M37,Z0,.su B006 M0 l.length l.length M4,.su B005 M0 M0 M1 M4,.su B003 M0 M1 M1 M6,.sl B004 M0 M1 M1,.sn])),(B002,(.cells [Z0,.si .i64 (.v M3),.sb (.v M20),.ss (.v M21),.sb (.v M22),.ss (.v M23),.sb (.v M24),.ss (.v M25),.sb (.v M26),.ss (.v M27),.b false,.s [],.b false,.s [],.b false,.s [],.b false,.s [],.b false,.s [],.b false,.s [],.b false,.s [],.b false,.s [],.b false,.s [],.b false,.s [],.b false,.s [],.b false,.s [],.b true,Z1,.b true])),(B003,(.cells [Z1,Z1,.si .i64 (.v M2),Z0,.ds (.i .i64 .nil) (.v M1),.sn])),(B004,(.cells [Z0,Z0,Z0])),(B005,(.cells [Z0,Z0,Z0,Z0])),(B006,(.cells (heldC M1 l)))],B007⟩
def st1 (k : Nat) : Lit := match k with
  | 0 => st1z
  | k + 1 => st1p (subs 4 (k + 1))
def st1x (k : Nat) : Lit := ⟨[(.x0,.x1,(.c (.b false))),(.x0,.x4,(.c (.p B000 M0))),(.x0,.x7,(.c (.p B001 M0))),(.x0,.x9,(.c Z1))],(st1 k).mem,(st1 k).next⟩
def stCrz : Lit := ⟨[(.x0,.x4,(.c (.p B000 M0))),(.x0,.x5,(.c Z1)),(.x0,.x6,(.c (.b true)))],[(B000,(.cells [Z1,Z2,Z1,.ds (.i .i64 (.i .i64 (.i .i64 (.i .i64 (.i .i64 (.i .i64 (.i .i64 (.i .i64 (.b (.s (.b (.s (.s .nil))))))))))))) (.v M0),.si .i64 (.v M4),Z1,.su B001 M0 M1 M1 M37,Z0,.sn,.sn,.su B002 M0 M1 M1 M6,.sl B003 M0 M1 M1,.sn])),(B001,(.cells [Z0,Z0,.b false,.s [],.b false,.s [],.b false,.s [],.b false,.s [],.b false,.s [],.b false,.s [],.b false,.s [],.b false,.s [],.b false,.s [],.b false,.s [],.b false,.s [],.b false,.s [],.b false,.s [],.b false,.s [],.b false,.s [],.b false,.s [],.b false,Z0,.b true])),(B002,(.cells [Z1,Z1,.si .i64 (.v M2),Z0,.ds (.i .i64 .nil) (.v M1),.sn])),(B003,(.cells [Z0,Z0,Z0]))],B004⟩
def stCrp (l : List Nat) : Lit := ⟨[(.x0,.x4,(.c (.p B000 M0))),(.x0,.x5,(.c Z1)),(.x0,.x6,(.c (.b true)))],[(B000,(.cells [Z1,Z2,Z1,.ds (.i .i64 (.i .i64 (.i .i64 (.i .i64 (.i .i64 (.i .i64 (.i .i64 (.i .i64 (.b (.s (.b (.s (.s .nil))))))))))))) (.v M0),.si .i64 (.v M4),Z1,.su B001 M0 M1 M1 M37,Z0,.su B005 M0 l.length l.length M4,.su B004 M0 M0 M1 M4,.su B002 M0 M1 M1 M6,.sl B003 M0 M1 M1,.sn])),(B001,(.cells [Z0,.si .i64 (.v M3),.sb (.v M20),.ss (.v M21),.sb (.v M22),.ss (.v M23),.sb (.v M24),.ss (.v M25),.sb (.v M26),.ss (.v M27),.b false,.s [],.b false,.s [],.b false,.s [],.b false,.s [],.b false,.s [],.b false,.s [],.b false,.s [],.b false,.s [],.b false,.s [],.b false,.s [],.b false,.s [],.b false,.s [],.b true,Z1,.b true])),(B002,(.cells [Z1,Z1,.si .i64 (.v M2),Z0,.ds (.i .i64 .nil) (.v M1),.sn])),(B003,(.cells [Z0,Z0,Z0])),(B004,(.cells [Z0,Z0,Z0,Z0])),(B005,(.cells (heldC M1 l)))],B006⟩
def stCr (k : Nat) : Lit := match k with
  | 0 => stCrz
  | k + 1 => stCrp (subs 4 (k + 1))
def stA (k : Nat) : Lit := ⟨[(.x0,.x1,(.c (.ds (.i .u8 .nil) (.v M51)))),(.x0,.x5,(.c (.p B000 M0))),(.x0,.x6,(.c Z1)),(.x0,.x7,(.c (.b true)))],(stCr k).mem,(stCr k).next⟩
def stBz : Lit := ⟨[(.x0,.x1,(.c (.ds (.i .u8 .nil) (.v M51)))),(.x0,.x5,(.c (.p B000 M0))),(.x0,.x9,(.c (.p B001 M0))),(.x0,.xb,(.c Z2)),(.x5,.x0,(.c (.ds (.i .u8 .nil) (.v M51)))),(.x5,.x1,(.c (.si .i64 (.v M8)))),(.x5,.x2,(.c (.si .i64 (.v M7))))],[(B000,(.cells [Z1,Z3,Z1,.ds (.i .i64 (.i .i64 (.i .i64 (.i .i64 (.i .i64 (.i .i64 (.i .i64 (.i .i64 (.b (.s (.b (.s (.s .nil))))))))))))) (.v M0),.si .i64 (.v M4),Z1,.su B002 M0 M1 M1 M37,Z0,.sn,.sn,.su B003 M0 M1 M1 M6,.sl B004 M0 M1 M1,.sn])),(B001,(.cells [Z0,.si .i64 (.v M10),.sb (.v M60),.ss (.v M61),.sb (.v M62),.ss (.v M63),.sb (.v M64),.ss (.v M65),.sb (.v M66),.ss (.v M67),.b false,.s [],.b false,.s [],.b false,.s [],.b false,.s [],.b false,.s [],.b false,.s [],.b false,.s [],.b false,.s [],.b false,.s [],.b false,.s [],.b false,.s [],.b false,.s []])),(B002,(.cells [Z0,Z0,.b false,.s [],.b false,.s [],.b false,.s [],.b false,.s [],.b false,.s [],.b false,.s [],.b false,.s [],.b false,.s [],.b false,.s [],.b false,.s [],.b false,.s [],.b false,.s [],.b false,.s [],.b false,.s [],.b false,.s [],.b false,.s [],.b false,Z0,.b true])),(B003,(.cells [Z2,Z1,.si .i64 (.v M2),Z0,.ds (.i .i64 .nil) (.v M1),.sn])),(B004,(.cells [Z0,Z0,Z0]))],B005⟩
def stBp (z : Nat) : Lit := ⟨[(.x0,.x1,(.c (.ds (.i .u8 .nil) (.v M51)))),(.x0,.x5,(.c (.p B000 M0))),(.x0,.x9,(.c (.p B001 M0))),(.x0,.xb,(.c Z2)),(.x5,.x0,(.c (.ds (.i .u8 .nil) (.v M51)))),(.x5,.x1,(.c (.si .i64 (.v M8)))),(.x5,.x2,(.c (.si .i64 (.v M7))))],[(B000,(.cells [Z1,Z3,Z1,.ds (.i .i64 (.i .i64 (.i .i64 (.i .i64 (.i .i64 (.i .i64 (.i .i64 (.i .i64 (.b (.s (.b (.s (.s .nil))))))))))))) (.v M0),.si .i64 (.v M4),Z1,.su B002 M0 M1 M1 M37,Z0,.su B006 M0 M0 z M4,.sl B005 M0 M0 M0,.su B003 M0 M1 M1 M6,.sl B004 M0 M1 M1,.sn])),(B001,(.cells [Z0,.si .i64 (.v M10),.sb (.v M60),.ss (.v M61),.sb (.v M62),.ss (.v M63),.sb (.v M64),.ss (.v M65),.sb (.v M66),.ss (.v M67),.b false,.s [],.b false,.s [],.b false,.s [],.b false,.s [],.b false,.s [],.b false,.s [],.b false,.s [],.b false,.s [],.b false,.s [],.b false,.s [],.b false,.s [],.b false,.s []])),(B002,(.cells [Z0,.si .i64 (.v M3),.sb (.v M20),.ss (.v M21),.sb (.v M22),.ss (.v M23),.sb (.v M24),.ss (.v M25),.sb (.v M26),.ss (.v M27),.b false,.s [],.b false,.s [],.b false,.s [],.b false,.s [],.b false,.s [],.b false,.s [],.b false,.s [],.b false,.s [],.b false,.s [],.b false,.s [],.b false,.s [],.b false,.s [],.b true,Z1,.b true])),(B003,(.cells [Z2,Z1,.si .i64 (.v M2),Z0,.ds (.i .i64 .nil) (.v M1),.sn])),(B004,(.cells [Z0,Z0,Z0])),(B005,(.cells [])),(B006,(.cells (List.replicate (4 * z) Z0)))],B007⟩
def stB (z : Nat) : Lit := match z with
  | 0 => stBz
  | z + 1 => stBp (z + 1)
def stBx (z : Nat) : Lit := ⟨[(.x0,.x1,(.c (.ds (.i .u8 .nil) (.v M51)))),(.x0,.x5,(.c (.p B000 M0))),(.x0,.x9,(.c (.p B001 M0))),(.x0,.xb,(.c Z2))],(stB z).mem,(stB z).next⟩
def st3p (l : List Nat) : Lit := ⟨[(.x0,.x1,(.c (.ds (.i .u8 .nil) (.v M51)))),(.x0,.x5,(.c (.p B000 M0))),(.x0,.x9,(.c (.p B001 M0))),(.x0,.xb,(.c Z2)),(.x5,.x0,(.c (.ds (.i .u8 .nil) (.v M51)))),(.x5,.x1,(.c (.si .i64 (.v M8)))),(.x5,.x2,(.c (.si .i64 (.v M7))))],[(B000,(.cells [Z1,Z3,Z1,.ds (.i .i64 (.i .i64 (.i .i64 (.i .i64 (.i .i64 (.i .i64 (.i .i64 (.i .i64 (.b (.s (.b (.s (.s .nil))))))))))))) (.v M0),.si .i64 (.v M4),Z1,.su B002 M0 M1 M1 M37,Z0,.su B006 M0 l.length l.length M4,.su B005 M0 M0 M1 M4,.su B003 M0 M1 M1 M6,.sl B004 M0 M1 M1,.sn])),(B001,(.cells [Z0,.si .i64 (.v M10),.sb (.v M60),.ss (.v M61),.sb (.v M62),.ss (.v M63),.sb (.v M64),.ss (.v M65),.sb (.v M66),.ss (.v M67),.b false,.s [],.b false,.s [],.b false,.s [],.b false,.s [],.b false,.s [],.b false,.s [],.b false,.s [],.b false,.s [],.b false,.s [],.b false,.s [],.b false,.s [],.b false,.s []])),(B002,(.cells [Z0,.si .i64 (.v M3),.sb (.v M20),.ss (.v M21),.sb (.v M22),.ss (.v M23),.sb (.v M24),.ss (.v M25),.sb (.v M26),.ss (.v M27),.sb (.v M28),.ss (.v M29),.b false,.s [],.b false,.s [],.b false,.s [],.b false,.s [],.b false,.s [],.b false,.s [],.b false,.s [],.b false,.s [],.b false,.s [],.b false,.s [],.b false,.s [],.b true,Z1,.b true])),(B003,(.cells [Z2,Z1,.si .i64 (.v M2),Z0,.ds (.i .i64 .nil) (.v M1),.sn])),(B004,(.cells [Z0,Z0,Z0])),(B005,(.cells [Z0,Z0,Z0,Z0])),(B006,(.cells (heldC M2 l)))],B007⟩
def st3 (k : Nat) : Lit := st3p (subs 5 k)
def st3x (k : Nat) : Lit := ⟨[(.x0,.x1,(.c (.ds (.i .u8 .nil) (.v M51)))),(.x0,.x5,(.c (.p B000 M0))),(.x0,.x9,(.c (.p B001 M0))),(.x0,.xb,(.c Z2))],(st3 k).mem,(st3 k).next⟩
def stU0p (l : List Nat) : Lit := ⟨[(.x0,.x1,(.c (.ds (.i .u8 .nil) (.v M51)))),(.x0,.x5,(.c (.p B000 M0))),(.x0,.x9,(.c (.p B001 M0))),(.x0,.xb,(.c Z2)),(.x1,.x2,(.c (.si .i64 (.v M12))))],[(B000,(.cells [Z1,Z3,Z1,.ds (.i .i64 (.i .i64 (.i .i64 (.i .i64 (.i .i64 (.i .i64 (.i .i64 (.i .i64 (.b (.s (.b (.s (.s .nil))))))))))))) (.v M0),.si .i64 (.v M4),Z1,.su B002 M0 M1 M1 M37,Z0,.su B006 M0 l.length l.length M4,.sl B005 M0 M0 M0,.su B003 M0 M1 M1 M6,.sl B004 M0 M1 M1,.sn])),(B001,(.cells [Z0,.si .i64 (.v M10),.sb (.v M60),.ss (.v M61),.sb (.v M62),.ss (.v M63),.sb (.v M64),.ss (.v M65),.sb (.v M66),.ss (.v M67),.b false,.s [],.b false,.s [],.b false,.s [],.b false,.s [],.b false,.s [],.b false,.s [],.b false,.s [],.b false,.s [],.b false,.s [],.b false,.s [],.b false,.s [],.b false,.s []])),(B002,(.cells [Z0,.si .i64 (.v M3),.sb (.v M20),.ss (.v M21),.sb (.v M22),.ss (.v M23),.sb (.v M24),.ss (.v M25),.sb (.v M26),.ss (.v M27),.sb (.v M28),.ss (.v M29),.b false,.s [],.b false,.s [],.b false,.s [],.b false,.s [],.b false,.s [],.b false,.s [],.b false,.s [],.b false,.s [],.b false,.s [],.b false,.s [],.b false,.s [],.b true,Z1,.b true])),(B003,(.cells [Z2,Z3,.si .i64 (.v M2),Z0,.ds (.i .i64 .nil) (.v M1),.sn])),(B004,(.cells [Z0,Z0,Z0])),(B005,(.cells [])),(B006,(.cells (heldC M2 l)))],B007⟩
def stU1p (l : List Nat) : Lit := ⟨[(.x0,.x1,(.c (.ds (.i .u8 .nil) (.v M51)))),(.x0,.x5,(.c (.p B000 M0))),(.x0,.x9,(.c (.p B001 M0))),(.x0,.xb,(.c Z2)),(.x1,.x2,(.c (.si .i64 (.v M12))))],[(B000,(.cells [Z1,Z3,Z1,.ds (.i .i64 (.i .i64 (.i .i64 (.i .i64 (.i .i64 (.i .i64 (.i .i64 (.i .i64 (.b (.s (.b (.s (.s .nil))))))))))))) (.v M0),.si .i64 (.v M4),Z1,.su B002 M0 M1 M1 M37,Z0,.su B006 M0 l.length (l.length + 1) M4,.sl B005 M0 M0 M0,.su B003 M0 M1 M1 M6,.sl B004 M0 M1 M1,.sn])),(B001,(.cells [Z0,.si .i64 (.v M10),.sb (.v M60),.ss (.v M61),.sb (.v M62),.ss (.v M63),.sb (.v M64),.ss (.v M65),.sb (.v M66),.ss (.v M67),.b false,.s [],.b false,.s [],.b false,.s [],.b false,.s [],.b false,.s [],.b false,.s [],.b false,.s [],.b false,.s [],.b false,.s [],.b false,.s [],.b false,.s [],.b false,.s []])),(B002,(.cells [Z0,.si .i64 (.v M3),.sb (.v M20),.ss (.v M21),.sb (.v M22),.ss (.v M23),.sb (.v M24),.ss (.v M25),.sb (.v M26),.ss (.v M27),.sb (.v M28),.ss (.v M29),.b false,.s [],.b false,.s [],.b false,.s [],.b false,.s [],.b false,.s [],.b false,.s [],.b false,.s [],.b false,.s [],.b false,.s [],.b false,.s [],.b false,.s [],.b true,Z1,.b true])),(B003,(.cells [Z2,Z3,.si .i64 (.v M2),Z0,.ds (.i .i64 .nil) (.v M1),.sn])),(B004,(.cells [Z0,Z0,Z0])),(B005,(.cells [])),(B006,(.cells (heldC M2 l ++ [Z0,Z0,Z0,Z0])))],B007⟩
def stU (v k : Nat) : Lit := match v with
  | 0 => stU0p (subs 5 k)
  | _ + 1 => stU1p (subs 5 k)
def sE : Lit := ⟨[(.x0,.x1,(.c (.ds (.i .u8 .nil) (.v M51)))),(.x0,.x5,(.c (.p B000 M0))),(.x0,.x9,(.c (.p B001 M0))),(.x0,.xb,(.c Z2)),(.x1,.x2,(.c (.si .i64 (.v M12))))],[(B000,(.cells [Z1,Z3,Z1,.ds (.i .i64 (.i .i64 (.i .i64 (.i .i64 (.i .i64 (.i .i64 (.i .i64 (.i .i64 (.b (.s (.b (.s (.s .nil))))))))))))) (.v M0),.si .i64 (.v M4),Z1,.su B002 M0 M1 M1 M37,Z0,.sl B005 M0 M0 M0,.sl B006 M0 M0 M0,.su B003 M0 M0 M1 M6,.sl B004 M0 M1 M1,.sn])),(B001,(.cells [Z0,.si .i64 (.v M10),.sb (.v M60),.ss (.v M61),.sb (.v M62),.ss (.v M63),.sb (.v M64),.ss (.v M65),.sb (.v M66),.ss (.v M67),.b false,.s [],.b false,.s [],.b false,.s [],.b false,.s [],.b false,.s [],.b false,.s [],.b false,.s [],.b false,.s [],.b false,.s [],.b false,.s [],.b false,.s [],.b false,.s []])),(B002,(.cells [Z0,.si .i64 (.v M3),.sb (.v M20),.ss (.v M21),.sb (.v M22),.ss (.v M23),.sb (.v M24),.ss (.v M25),.sb (.v M26),.ss (.v M27),.sb (.v M28),.ss (.v M29),.b false,.s [],.b false,.s [],.b false,.s [],.b false,.s [],.b false,.s [],.b false,.s [],.b false,.s [],.b false,.s [],.b false,.s [],.b false,.s [],.b false,.s [],.b true,Z1,.b true])),(B003,(.cells [Z0,Z0,Z0,Z0,.sn,.sn])),(B004,(.cells [Z0,Z0,Z0])),(B005,(.cells [])),(B006,(.cells []))],B007⟩
def fb4z : List Fc := [.rng (.f1 M5 (.v M0)) J0 J0,.rng (.v M2) J0 J0,.rng (.v M4) J0 J0,.rng (.f1 M5 (.v M1)) J0 J0,.dif (.v M2) (.f1 M5 (.v M0)) J0 J0,.pr M1 [(.v M0)],.pr M3 [(.v M1),(.v M2)]]
def fb4p : List Fc := [.rng (.f1 M5 (.v M0)) J1 J900,.rng (.v M2) J1 J900,.rng (.v M3) J1 J900,.rng (.v M4) J0 J0,.rng (.f1 M5 (.v M1)) J0 J900,.dif (.v M2) (.f1 M5 (.v M0)) J0 J0,.dif (.v M3) (.f1 M5 (.v M0)) J0 J0,.dif (.v M4) (.f1 M5 (.v M0)) (Int.negSucc M899) (Int.negSucc M0),.dif (.f1 M5 (.v M1)) (.f1 M5 (.v M0)) (Int.negSucc M899) J0,.pr M1 [(.v M0)],.pr M3 [(.v M1),(.v M2)],.pr M2 [(.v M20),(.v M21)],.pr M2 [(.v M22),(.v M23)],.pr M2 [(.v M24),(.v M25)],.pr M2 [(.v M26),(.v M27)]]
def fb4 (k : Nat) : List Fc := match k with
  | 0 => fb4z
  | _ + 1 => fb4p
def fIn1 : List Fc := [.rng (.v M7) J0 J20,.rng (.v M8) J0 J20,.rng (.f1 M5 (.v M50)) J0 J20,.dif (.v M7) (.v M8) (Int.negSucc M19) (Int.negSucc M0),.dif (.v M7) (.f1 M5 (.v M50)) (Int.negSucc M19) (Int.negSucc M0)]
def fOut1 : List Fc := [.rng (.v M7) J0 J20,.rng (.v M8) J0 J20,.rng (.f1 M5 (.v M50)) J0 J20,.dif (.v M7) (.v M8) J0 J0]
def fIn3 : List Fc := [.rng (.v M7) J0 J30,.rng (.v M8) J0 J30,.rng (.f1 M5 (.v M51)) J0 J30,.dif (.v M7) (.v M8) (Int.negSucc M29) (Int.negSucc M0),.dif (.v M7) (.f1 M5 (.v M51)) (Int.negSucc M29) (Int.negSucc M0)]
def fOut3 : List Fc := [.rng (.v M7) J0 J30,.rng (.v M8) J0 J30,.rng (.f1 M5 (.v M51)) J0 J30,.dif (.v M7) (.v M8) J0 J0]
def fL2 : List Fc := [.rng (.f1 M5 (.v M51)) J0 J30]
def fM3 : List Fc := [.pr M1 [(.f2 M1403 (.v M0) (.f2 M1410 (.f2 M1000 (.f1 M5 (.v M0)) (.num J1)) (.f2 M1410 (.num J3) (.f2 M1410 (.num J1) (.f2 M1410 (.v M2) (.f2 M1410 (.num J0) (.f2 M1410 (.num J0) (.f2 M1410 (.num J0) (.f2 M1410 (.num J0) (.f2 M1412 (.f1 M9 (.num J0)) (.f2 M1411 (.lit []) (.f2 M1412 (.f1 M9 (.num J0)) (.f2 M1411 (.lit []) (.f2 M1411 (.lit []) (.f1 M8 (.num J0))))))))))))))))]]
def fCm (k : Nat) : List Fc := match k with
  | 0 => []
  | _ + 1 => fM3
def fBz : List Fc := [.rng (.v M2) J0 J0,.rng (.f1 M5 (.v M1)) J0 J0,.pr M3 [(.v M1),(.v M2)],.rng (.f1 M5 (.v M0)) J0 J0,.rng (.v M4) J0 J0,.pr M1 [(.v M0)]]
def fBp : List Fc := [.rng (.v M2) J0 J0,.rng (.f1 M5 (.v M1)) J0 J0,.pr M3 [(.v M1),(.v M2)],.rng (.f1 M5 (.v M0)) J2 J900,.rng (.v M4) J1 J900,.dif (.v M4) (.f1 M5 (.v M0)) J0 J0,.rng (.v M3) J1 J900,.dif (.v M3) (.f1 M5 (.v M0)) (Int.negSucc M899) (Int.negSucc M0),.pr M1 [(.v M0)],.pr M2 [(.v M20),(.v M21)],.pr M2 [(.v M22),(.v M23)],.pr M2 [(.v M24),(.v M25)],.pr M2 [(.v M26),(.v M27)]]
def fB (z : Nat) : List Fc := match z with
  | 0 => fBz
  | _ + 1 => fBp
def fK : List Fc := [.rng (.f1 M5 (.v M0)) J1 J900,.rng (.v M2) J1 J900,.rng (.v M3) J1 J900,.rng (.v M4) J0 J900,.rng (.f1 M5 (.v M1)) J0 J900,.dif (.v M2) (.f1 M5 (.v M0)) J0 J0,.dif (.v M3) (.f1 M5 (.v M0)) J0 J0,.dif (.v M4) (.f1 M5 (.v M0)) (Int.negSucc M899) (Int.negSucc M0),.dif (.f1 M5 (.v M1)) (.f1 M5 (.v M0)) (Int.negSucc M899) J0,.pr M1 [(.v M0)],.pr M3 [(.v M1),(.v M2)],.pr M2 [(.v M20),(.v M21)],.pr M2 [(.v M22),(.v M23)],.pr M2 [(.v M24),(.v M25)],.pr M2 [(.v M26),(.v M27)],.pr M2 [(.v M28),(.v M29)]]
def fI : List Fc := [.rng (.v M12) J0 J31,.rng (.f1 M5 (.v M51)) J1 J30,.dif (.v M12) (.f1 M5 (.v M51)) (Int.negSucc M30) J0]
def fU : List Fc := [.rng (.f1 M5 (.v M0)) J1 J900,.rng (.v M2) J1 J900,.rng (.v M3) J1 J900,.rng (.v M4) J0 J900,.dif (.v M2) (.f1 M5 (.v M0)) J0 J0,.dif (.v M3) (.f1 M5 (.v M0)) (Int.negSucc M899) J0,.dif (.v M4) (.f1 M5 (.v M0)) (Int.negSucc M899) (Int.negSucc M0),.dif (.f1 M5 (.v M1)) (.f1 M5 (.v M0)) (Int.negSucc M899) J0,.pr M1 [(.v M0)],.pr M3 [(.v M1),(.v M2)],.pr M2 [(.v M20),(.v M21)],.pr M2 [(.v M22),(.v M23)],.pr M2 [(.v M24),(.v M25)],.pr M2 [(.v M26),(.v M27)],.pr M2 [(.v M28),(.v M29)]]
def fQ0 : List Fc := [.rng (.f1 M5 (.v M1)) J0 J0]
def fE : List Fc := [.rng (.f1 M5 (.v M0)) J2 J900,.rng (.v M3) J1 J900,.rng (.v M4) J0 J900,.dif (.v M3) (.f1 M5 (.v M0)) (Int.negSucc M899) J0,.dif (.v M4) (.f1 M5 (.v M0)) (Int.negSucc M899) (Int.negSucc M0),.pr M1 [(.v M0)],.pr M2 [(.v M60),(.v M61)],.pr M2 [(.v M62),(.v M63)],.pr M2 [(.v M64),(.v M65)],.pr M2 [(.v M66),(.v M67)],.rng (.v M12) J2 J31,.rng (.f1 M5 (.v M51)) J1 J30,.dif (.v M12) (.f1 M5 (.v M51)) J1 J1]
def fOx : List Fc := [.rng (.f1 M5 (.v M51)) J0 J0,.rng (.v M8) J0 J0,.rng (.v M7) J0 J0,.dif (.v M7) (.v M8) J0 J0]
def fWw : List Fc := [.pr M2 [(.v M60),(.v M61)],.pr M2 [(.v M62),(.v M63)],.pr M2 [(.v M64),(.v M65)],.pr M2 [(.v M66),(.v M67)]]
def fZ : List Fc := [.rng (.f1 M5 (.v M51)) J0 J0]
def tYab : Nm := (.f2 M1403 (.v M0) (.f2 M1410 (.f2 M1000 (.f1 M5 (.v M0)) (.num J1)) (.f2 M1410 (.num J4) (.f2 M1410 (.num J2) (.f2 M1410 (.v M2) (.f2 M1410 (.num J0) (.f2 M1410 (.num J0) (.f2 M1410 (.num J0) (.f2 M1410 (.num J0) (.f2 M1412 (.f1 M9 (.num J0)) (.f2 M1411 (.lit []) (.f2 M1412 (.f1 M9 (.num J0)) (.f2 M1411 (.lit []) (.f2 M1411 (.lit []) (.f1 M8 (.num J0))))))))))))))))
def fAB (k : Nat) : List Fc := [.pr M5 [tYab,(.v M1),(.num (Int.ofNat k))]]
abbrev tQ : Nm := (.f2 M1000 (.f1 M5 (.v M1)) (.num (Int.negSucc M0)))
abbrev tT : Nm := (.f2 M100 (.v M1) tQ)
abbrev tU : Nm := (.f2 M1000 tT (.num (Int.negSucc M0)))
abbrev tE (o : Nat) : Nm := .f2 o (.v M0) tU
abbrev tD : Nm := .f2 M1404 (.v M1) tQ
def fg10 (s : Nat) : List Fc := [.rng (.f2 M3 (.f2 M100 (.v M50) (.v M7)) (.num J4)) (Int.ofNat s) (Int.ofNat s),.rng (.f2 M100 (.v M50) (.v M7)) J0 J200,.rng (.f2 M3 (.f2 M100 (.v M50) (.v M7)) (.num J26)) J0 J25,.rng (.f1 M6 (.f1 M10 (.f2 M1000 (.f2 M3 (.f2 M100 (.v M50) (.v M7)) (.num J26)) (.num J97)))) J1 J1]
def fg11 (s : Nat) : List Fc := [.rng (.f2 M3 (.f2 M100 (.v M50) (.v M7)) (.num J4)) (Int.ofNat s) (Int.ofNat s),.rng (.f2 M100 (.v M50) (.v M7)) J201 J255,.rng (.f2 M3 (.f2 M100 (.v M50) (.v M7)) (.num J26)) J0 J25,.rng (.f1 M6 (.f1 M10 (.f2 M1000 (.f2 M3 (.f2 M100 (.v M50) (.v M7)) (.num J26)) (.num J97)))) J1 J1]
def fg7 (s : Nat) : List Fc := [.rng (.f2 M3 (.f2 M100 (.v M51) (.v M7)) (.num J5)) (Int.ofNat s) (Int.ofNat s),.rng (.f2 M100 (.v M51) (.v M7)) J0 J255,.rng (.f2 M3 (.f2 M100 (.v M51) (.v M7)) (.num J20)) J0 J19,.rng (.f1 M6 (.f1 M10 (.f2 M1000 (.f2 M3 (.f2 M100 (.v M51) (.v M7)) (.num J20)) (.num J65)))) J1 J1]
def fg (s k2 : Nat) : List Fc := [.rng (.f1 M5 (.v M1)) J1 J900,.rng tT J1 J900,.dif tT (.f1 M5 (.v M0)) (Int.negSucc M899) J0,.dif tT (.v M2) (Int.negSucc M899) J0,.rng (tE M100) J1 J900,.dif (tE M100) tT J0 J0,.dif (tE M100) (.v M2) (Int.negSucc M899) J0,.dif (tE M100) (.f1 M5 (.v M0)) (Int.negSucc M899) J0,.rng (tE M106) J0 J0,.rng (tE M107) (Int.ofNat s) (Int.ofNat s),.pr M2 [(tE M108),(tE M109)],.pr M2 [(tE M110),(tE M111)],.pr M4 [(.v M1),(tE M100),tQ],.pr M5 [(.v M0),tD,(.num (Int.ofNat k2))]]
def pN (l : List Nat) : List (Nat × Nm) := l.map fun n => (n,.v n)
def pU (i : Nat) (t : Nm) (l : List Nat) : List (Nat × Nm) := l.map fun n => (n,bif Nat.beq n i then t else .v n)
def pD (i : Nat) (t e : Nm) (l : List Nat) : List (Nat × Nm) := l.map fun n => (n,bif Nat.beq n i then t else e)
def r1_00 (s : Nat) : Rn := ⟨[(M2,(.num J1))] ++ [(M3,(.num J1))] ++ pN [4] ++ [(M7,(.f2 M1000 (.v M7) (.num J1)))] ++ pN [8],pD (21 + 2 * s) (.f1 M10 (.f2 M1000 (.f2 M3 (.f2 M100 (.v M50) (.v M7)) (.num J26)) (.num J97))) (.lit []) [21,23,25,27],pD (20 + 2 * s) (.f1 M9 (.num J1)) (.f1 M9 (.num J0)) [20,22,24,26],[(M0,(.f2 M1403 (.f1 M7 (.num J0)) (.f2 M1410 (.num J1) (.f2 M1410 (.num J1) (.f2 M1410 (.num J1) (.f2 M1410 (.v M2) (.f2 M1410 (.num J0) (.f2 M1410 (.num J0) (.f2 M1410 (.num J0) (.f2 M1410 (.num (Int.ofNat s)) (.f2 M1412 (.f1 M9 (.num J0)) (.f2 M1411 (.lit []) (.f2 M1412 (.f1 M9 (.num J1)) (.f2 M1411 (.f1 M10 (.f2 M1000 (.f2 M3 (.f2 M100 (.v M50) (.v M7)) (.num J26)) (.num J97))) (.f2 M1411 (.lit []) (.f1 M8 (.num J0)))))))))))))))))] ++ [(M1,(.f2 M1403 (.f1 M7 (.num J0)) (.f2 M1410 (.num J1) (.f1 M8 (.num J0)))))] ++ pN [50],[]⟩
def r1_01 (s : Nat) : Rn := ⟨[(M2,(.num J1))] ++ [(M3,(.num J1))] ++ pN [4] ++ [(M7,(.f2 M1000 (.v M7) (.num J1)))] ++ pN [8],pD (21 + 2 * s) (.lit []) (.lit []) [21,23,25,27],pD (20 + 2 * s) (.f1 M9 (.num J0)) (.f1 M9 (.num J0)) [20,22,24,26],[(M0,(.f2 M1403 (.f1 M7 (.num J0)) (.f2 M1410 (.num J1) (.f2 M1410 (.num J1) (.f2 M1410 (.num J1) (.f2 M1410 (.v M2) (.f2 M1410 (.num J0) (.f2 M1410 (.num J0) (.f2 M1410 (.num J0) (.f2 M1410 (.num (Int.ofNat s)) (.f2 M1412 (.f1 M9 (.num J0)) (.f2 M1411 (.lit []) (.f2 M1412 (.f1 M9 (.num J0)) (.f2 M1411 (.lit []) (.f2 M1411 (.lit []) (.f1 M8 (.num J0)))))))))))))))))] ++ [(M1,(.f2 M1403 (.f1 M7 (.num J0)) (.f2 M1410 (.num J1) (.f1 M8 (.num J0)))))] ++ pN [50],[]⟩
def r1_10 (s : Nat) : Rn := ⟨[(M2,(.f2 M1000 (.f1 M5 (.v M0)) (.num J1)))] ++ [(M3,(.f2 M1000 (.f1 M5 (.v M0)) (.num J1)))] ++ pN [4] ++ [(M7,(.f2 M1000 (.v M7) (.num J1)))] ++ pN [8],pU (21 + 2 * s) (.f1 M10 (.f2 M1000 (.f2 M3 (.f2 M100 (.v M50) (.v M7)) (.num J26)) (.num J97))) [21,23,25,27],pU (20 + 2 * s) (.f1 M9 (.num J1)) [20,22,24,26],[(M0,(.f2 M1403 (.v M0) (.f2 M1410 (.f2 M1000 (.f1 M5 (.v M0)) (.num J1)) (.f2 M1410 (.num J1) (.f2 M1410 (.num J1) (.f2 M1410 (.v M2) (.f2 M1410 (.v M3) (.f2 M1410 (.num J0) (.f2 M1410 (.num J0) (.f2 M1410 (.num (Int.ofNat s)) (.f2 M1412 (.v (20 + 2 * s)) (.f2 M1411 (.v (21 + 2 * s)) (.f2 M1412 (.f1 M9 (.num J1)) (.f2 M1411 (.f1 M10 (.f2 M1000 (.f2 M3 (.f2 M100 (.v M50) (.v M7)) (.num J26)) (.num J97))) (.f2 M1411 (.lit []) (.f1 M8 (.num J0)))))))))))))))))] ++ [(M1,(.f2 M1403 (.v M1) (.f2 M1410 (.f2 M1000 (.f1 M5 (.v M0)) (.num J1)) (.f1 M8 (.num J0)))))] ++ pN [50],[]⟩
def r1_11 (s : Nat) : Rn := ⟨[(M2,(.f2 M1000 (.f1 M5 (.v M0)) (.num J1)))] ++ [(M3,(.f2 M1000 (.f1 M5 (.v M0)) (.num J1)))] ++ pN [4] ++ [(M7,(.f2 M1000 (.v M7) (.num J1)))] ++ pN [8],pU (21 + 2 * s) (.lit []) [21,23,25,27],pU (20 + 2 * s) (.f1 M9 (.num J0)) [20,22,24,26],[(M0,(.f2 M1403 (.v M0) (.f2 M1410 (.f2 M1000 (.f1 M5 (.v M0)) (.num J1)) (.f2 M1410 (.num J1) (.f2 M1410 (.num J1) (.f2 M1410 (.v M2) (.f2 M1410 (.v M3) (.f2 M1410 (.num J0) (.f2 M1410 (.num J0) (.f2 M1410 (.num (Int.ofNat s)) (.f2 M1412 (.v (20 + 2 * s)) (.f2 M1411 (.v (21 + 2 * s)) (.f2 M1412 (.f1 M9 (.num J0)) (.f2 M1411 (.lit []) (.f2 M1411 (.lit []) (.f1 M8 (.num J0)))))))))))))))))] ++ [(M1,(.f2 M1403 (.v M1) (.f2 M1410 (.f2 M1000 (.f1 M5 (.v M0)) (.num J1)) (.f1 M8 (.num J0)))))] ++ pN [50],[]⟩
def r1 (k s d : Nat) : Rn := match k,d with
  | 0,0 => r1_00 s
  | 0,_ => r1_01 s
  | _ + 1,0 => r1_10 s
  | _ + 1,_ => r1_11 s
def rx1_0 : Rn := ⟨[(M2,(.v M2)),(M4,(.v M4))],[],[],[(M0,(.v M0)),(M1,(.v M1))],[]⟩
def rx1_1 : Rn := ⟨[(M2,(.v M2)),(M3,(.v M3)),(M4,(.v M4))],[(M21,(.v M21)),(M23,(.v M23)),(M25,(.v M25)),(M27,(.v M27))],[(M20,(.v M20)),(M22,(.v M22)),(M24,(.v M24)),(M26,(.v M26))],[(M0,(.v M0)),(M1,(.v M1))],[]⟩
def rx1 (k : Nat) : Rn := match k with
  | 0 => rx1_0
  | _ + 1 => rx1_1
def rcr_0 : Rn := ⟨[(M2,(.v M2)),(M4,(.v M4))],[],[],[(M0,(.v M0)),(M1,(.v M1))],[]⟩
def rcr_1 : Rn := ⟨[(M2,(.v M2)),(M3,(.v M3)),(M4,(.v M4))],[(M21,(.v M21)),(M23,(.v M23)),(M25,(.v M25)),(M27,(.v M27))],[(M20,(.v M20)),(M22,(.v M22)),(M24,(.v M24)),(M26,(.v M26))],[(M0,(.v M0)),(M1,(.v M1))],[]⟩
def rcr (k : Nat) : Rn := match k with
  | 0 => rcr_0
  | _ + 1 => rcr_1
def rA_0 : Rn := ⟨[(M2,(.v M2)),(M4,(.v M4))],[],[],[(M0,(.v M0)),(M1,(.v M1)),(M51,(.v M51))],[]⟩
def rA_1 : Rn := ⟨[(M2,(.v M2)),(M3,(.v M3)),(M4,(.v M4))],[(M21,(.v M21)),(M23,(.v M23)),(M25,(.v M25)),(M27,(.v M27))],[(M20,(.v M20)),(M22,(.v M22)),(M24,(.v M24)),(M26,(.v M26))],[(M0,(.v M0)),(M1,(.v M1)),(M51,(.v M51))],[]⟩
def rA (k : Nat) : Rn := match k with
  | 0 => rA_0
  | _ + 1 => rA_1
def r2_0 : Rn := ⟨[(M2,(.num J0)),(M4,(.v M4)),(M7,(.num J0)),(M8,(.f1 M5 (.v M51))),(M10,(.num J0))],[(M61,(.lit [])),(M63,(.lit [])),(M65,(.lit [])),(M67,(.lit []))],[(M60,(.f1 M9 (.num J0))),(M62,(.f1 M9 (.num J0))),(M64,(.f1 M9 (.num J0))),(M66,(.f1 M9 (.num J0)))],[(M0,(.v M0)),(M1,(.f1 M7 (.num J0))),(M51,(.v M51))],[]⟩
def r2_1 : Rn := ⟨[(M2,(.num J0)),(M3,(.v M3)),(M4,(.f2 M1000 (.f1 M5 (.v M0)) (.num J1))),(M7,(.num J0)),(M8,(.f1 M5 (.v M51))),(M10,(.v M3))],[(M21,(.v M21)),(M23,(.v M23)),(M25,(.v M25)),(M27,(.v M27)),(M61,(.v M21)),(M63,(.v M23)),(M65,(.v M25)),(M67,(.v M27))],[(M20,(.v M20)),(M22,(.v M22)),(M24,(.v M24)),(M26,(.v M26)),(M60,(.v M20)),(M62,(.v M22)),(M64,(.v M24)),(M66,(.v M26))],[(M0,(.f2 M1403 (.v M0) (.f2 M1410 (.f2 M1000 (.f1 M5 (.v M0)) (.num J1)) (.f2 M1410 (.num J3) (.f2 M1410 (.num J1) (.f2 M1410 (.v M2) (.f2 M1410 (.num J0) (.f2 M1410 (.num J0) (.f2 M1410 (.num J0) (.f2 M1410 (.num J0) (.f2 M1412 (.f1 M9 (.num J0)) (.f2 M1411 (.lit []) (.f2 M1412 (.f1 M9 (.num J0)) (.f2 M1411 (.lit []) (.f2 M1411 (.lit []) (.f1 M8 (.num J0))))))))))))))))),(M1,(.f1 M7 (.num J0))),(M51,(.v M51))],[]⟩
def r2 (k : Nat) : Rn := match k with
  | 0 => r2_0
  | _ + 1 => r2_1
def rBx_0 : Rn := ⟨[(M2,(.v M2)),(M4,(.v M4)),(M10,(.v M10))],[(M61,(.v M61)),(M63,(.v M63)),(M65,(.v M65)),(M67,(.v M67))],[(M60,(.v M60)),(M62,(.v M62)),(M64,(.v M64)),(M66,(.v M66))],[(M0,(.v M0)),(M1,(.v M1)),(M51,(.v M51))],[]⟩
def rBx_1 : Rn := ⟨[(M2,(.v M2)),(M3,(.v M3)),(M4,(.v M4)),(M10,(.v M10))],[(M21,(.v M21)),(M23,(.v M23)),(M25,(.v M25)),(M27,(.v M27)),(M61,(.v M61)),(M63,(.v M63)),(M65,(.v M65)),(M67,(.v M67))],[(M20,(.v M20)),(M22,(.v M22)),(M24,(.v M24)),(M26,(.v M26)),(M60,(.v M60)),(M62,(.v M62)),(M64,(.v M64)),(M66,(.v M66))],[(M0,(.v M0)),(M1,(.v M1)),(M51,(.v M51))],[]⟩
def rBx (k : Nat) : Rn := match k with
  | 0 => rBx_0
  | _ + 1 => rBx_1
def r7_0 (s : Nat) : Rn := ⟨[(M2,(.num J1))] ++ [(M3,(.num J1))] ++ pN [4] ++ [(M7,(.f2 M1000 (.v M7) (.num J1)))] ++ pN [8,10],pD (21 + 2 * s) (.f1 M10 (.f2 M1000 (.f2 M3 (.f2 M100 (.v M51) (.v M7)) (.num J20)) (.num J65))) (.lit []) [21,23,25,27,29] ++ pN [61,63,65,67],pD (20 + 2 * s) (.f1 M9 (.num J1)) (.f1 M9 (.num J0)) [20,22,24,26,28] ++ pN [60,62,64,66],[(M0,(.f2 M1403 (.f1 M7 (.num J0)) (.f2 M1410 (.num J1) (.f2 M1410 (.num J1) (.f2 M1410 (.num J2) (.f2 M1410 (.v M2) (.f2 M1410 (.num J0) (.f2 M1410 (.num J0) (.f2 M1410 (.num J0) (.f2 M1410 (.num (Int.ofNat s)) (.f2 M1412 (.f1 M9 (.num J0)) (.f2 M1411 (.lit []) (.f2 M1412 (.f1 M9 (.num J1)) (.f2 M1411 (.f1 M10 (.f2 M1000 (.f2 M3 (.f2 M100 (.v M51) (.v M7)) (.num J20)) (.num J65))) (.f2 M1411 (.lit []) (.f1 M8 (.num J0)))))))))))))))))] ++ [(M1,(.f2 M1403 (.f1 M7 (.num J0)) (.f2 M1410 (.num J1) (.f1 M8 (.num J0)))))] ++ pN [51],[]⟩
def r7_1 (s : Nat) : Rn := ⟨[(M2,(.f2 M1000 (.f1 M5 (.v M0)) (.num J1)))] ++ [(M3,(.f2 M1000 (.f1 M5 (.v M0)) (.num J1)))] ++ pN [4] ++ [(M7,(.f2 M1000 (.v M7) (.num J1)))] ++ pN [8,10],pU (21 + 2 * s) (.f1 M10 (.f2 M1000 (.f2 M3 (.f2 M100 (.v M51) (.v M7)) (.num J20)) (.num J65))) [21,23,25,27] ++ pD (21 + 2 * s) (.f1 M10 (.f2 M1000 (.f2 M3 (.f2 M100 (.v M51) (.v M7)) (.num J20)) (.num J65))) (.lit []) [29] ++ pN [61,63,65,67],pU (20 + 2 * s) (.f1 M9 (.num J1)) [20,22,24,26] ++ pD (20 + 2 * s) (.f1 M9 (.num J1)) (.f1 M9 (.num J0)) [28] ++ pN [60,62,64,66],[(M0,(.f2 M1403 (.v M0) (.f2 M1410 (.f2 M1000 (.f1 M5 (.v M0)) (.num J1)) (.f2 M1410 (.num J1) (.f2 M1410 (.num J2) (.f2 M1410 (.v M2) (.f2 M1410 (.v M3) (.f2 M1410 (.num J0) (.f2 M1410 (.num J0) (.f2 M1410 (.num (Int.ofNat s)) (.f2 M1412 (bif Nat.beq s 4 then (.f1 M9 (.num J0)) else .v (20 + 2 * s)) (.f2 M1411 (bif Nat.beq s 4 then (.lit []) else .v (21 + 2 * s)) (.f2 M1412 (.f1 M9 (.num J1)) (.f2 M1411 (.f1 M10 (.f2 M1000 (.f2 M3 (.f2 M100 (.v M51) (.v M7)) (.num J20)) (.num J65))) (.f2 M1411 (.lit []) (.f1 M8 (.num J0)))))))))))))))))] ++ [(M1,(.f2 M1403 (.f1 M7 (.num J0)) (.f2 M1410 (.f2 M1000 (.f1 M5 (.v M0)) (.num J1)) (.f1 M8 (.num J0)))))] ++ pN [51],[]⟩
def r7 (z s : Nat) : Rn := match z with
  | 0 => r7_0 s
  | _ + 1 => r7_1 s
def r3 (s : Nat) : Rn := ⟨[(M2,(.f2 M1000 (.f1 M5 (.v M0)) (.num J1)))] ++ [(M3,(.f2 M1000 (.f1 M5 (.v M0)) (.num J1)))] ++ pN [4] ++ [(M7,(.f2 M1000 (.v M7) (.num J1)))] ++ pN [8,10],pU (21 + 2 * s) (.f1 M10 (.f2 M1000 (.f2 M3 (.f2 M100 (.v M51) (.v M7)) (.num J20)) (.num J65))) [21,23,25,27,29] ++ pN [61,63,65,67],pU (20 + 2 * s) (.f1 M9 (.num J1)) [20,22,24,26,28] ++ pN [60,62,64,66],[(M0,(.f2 M1403 (.v M0) (.f2 M1410 (.f2 M1000 (.f1 M5 (.v M0)) (.num J1)) (.f2 M1410 (.num J1) (.f2 M1410 (.num J2) (.f2 M1410 (.v M2) (.f2 M1410 (.v M3) (.f2 M1410 (.num J0) (.f2 M1410 (.num J0) (.f2 M1410 (.num (Int.ofNat s)) (.f2 M1412 (.v (20 + 2 * s)) (.f2 M1411 (.v (21 + 2 * s)) (.f2 M1412 (.f1 M9 (.num J1)) (.f2 M1411 (.f1 M10 (.f2 M1000 (.f2 M3 (.f2 M100 (.v M51) (.v M7)) (.num J20)) (.num J65))) (.f2 M1411 (.lit []) (.f1 M8 (.num J0)))))))))))))))))] ++ [(M1,(.f2 M1403 (.v M1) (.f2 M1410 (.f2 M1000 (.f1 M5 (.v M0)) (.num J1)) (.f1 M8 (.num J0)))))] ++ pN [51],[]⟩
def rx3 : Rn := ⟨[(M2,(.v M2)),(M3,(.v M3)),(M4,(.v M4)),(M10,(.v M10))],[(M21,(.v M21)),(M23,(.v M23)),(M25,(.v M25)),(M27,(.v M27)),(M29,(.v M29)),(M61,(.v M61)),(M63,(.v M63)),(M65,(.v M65)),(M67,(.v M67))],[(M20,(.v M20)),(M22,(.v M22)),(M24,(.v M24)),(M26,(.v M26)),(M28,(.v M28)),(M60,(.v M60)),(M62,(.v M62)),(M64,(.v M64)),(M66,(.v M66))],[(M0,(.v M0)),(M1,(.v M1)),(M51,(.v M51))],[]⟩
def rab : Rn := ⟨[(M2,(.f2 M1000 (.f1 M5 (.v M0)) (.num J1))),(M3,(.v M3)),(M4,(.v M4)),(M10,(.v M10)),(M12,(.num J0))],[(M21,(.v M21)),(M23,(.v M23)),(M25,(.v M25)),(M27,(.v M27)),(M29,(.v M29)),(M61,(.v M61)),(M63,(.v M63)),(M65,(.v M65)),(M67,(.v M67))],[(M20,(.v M20)),(M22,(.v M22)),(M24,(.v M24)),(M26,(.v M26)),(M28,(.v M28)),(M60,(.v M60)),(M62,(.v M62)),(M64,(.v M64)),(M66,(.v M66))],[(M0,(.f2 M1403 (.v M0) (.f2 M1410 (.f2 M1000 (.f1 M5 (.v M0)) (.num J1)) (.f2 M1410 (.num J4) (.f2 M1410 (.num J2) (.f2 M1410 (.v M2) (.f2 M1410 (.num J0) (.f2 M1410 (.num J0) (.f2 M1410 (.num J0) (.f2 M1410 (.num J0) (.f2 M1412 (.f1 M9 (.num J0)) (.f2 M1411 (.lit []) (.f2 M1412 (.f1 M9 (.num J0)) (.f2 M1411 (.lit []) (.f2 M1411 (.lit []) (.f1 M8 (.num J0))))))))))))))))),(M1,(.v M1)),(M51,(.v M51))],[]⟩
def rS : Rn := ⟨[(M2,(.num J0)),(M4,(.num J0)),(M7,(.num J0)),(M8,(.f1 M5 (.v M50)))],[],[],[(M0,(.f1 M7 (.num J0))),(M1,(.f1 M7 (.num J0))),(M50,(.v M50))],[]⟩
def rP : Rn := ⟨[],[],[],[(M50,(.v M50)),(M51,(.v M51))],[]⟩
def rPc : Rn := ⟨[],[],[],[(M50,(.v M50)),(M51,(.v M51))],[]⟩
def rF : Rn := ⟨[(M3,(.v M3)),(M4,(.v M4)),(M10,(.v M10)),(M12,(.f2 M1000 (.v M12) (.num J1)))],[(M21,(.v M21)),(M23,(.v M23)),(M25,(.v M25)),(M27,(.v M27)),(M29,(.v M29)),(M61,(.v M61)),(M63,(.v M63)),(M65,(.v M65)),(M67,(.v M67))],[(M20,(.v M20)),(M22,(.v M22)),(M24,(.v M24)),(M26,(.v M26)),(M28,(.v M28)),(M60,(.v M60)),(M62,(.v M62)),(M64,(.v M64)),(M66,(.v M66))],[(M0,(.f2 M1403 (.v M0) (.f2 M1410 (.f2 M1000 (.f1 M5 (.v M0)) (.num J1)) (.f2 M1410 (.num J5) (.f2 M1410 (.num J2) (.f2 M1410 (.v M2) (.f2 M1410 (.num J0) (.f2 M1410 (.num J0) (.f2 M1410 (.num J0) (.f2 M1410 (.num J0) (.f2 M1412 (.f1 M9 (.num J0)) (.f2 M1411 (.lit []) (.f2 M1412 (.f1 M9 (.num J0)) (.f2 M1411 (.lit []) (.f2 M1411 (.lit []) (.f1 M8 (.num J0))))))))))))))))),(M51,(.v M51))],[]⟩
def rX : Rn := ⟨[(M3,(.v M3)),(M4,(.v M4)),(M10,(.v M10)),(M12,(.v M12))],[(M21,(.v M21)),(M23,(.v M23)),(M25,(.v M25)),(M27,(.v M27)),(M29,(.v M29)),(M61,(.v M61)),(M63,(.v M63)),(M65,(.v M65)),(M67,(.v M67))],[(M20,(.v M20)),(M22,(.v M22)),(M24,(.v M24)),(M26,(.v M26)),(M28,(.v M28)),(M60,(.v M60)),(M62,(.v M62)),(M64,(.v M64)),(M66,(.v M66))],[(M0,(.v M0)),(M51,(.v M51))],[]⟩
def r5 (s : Nat) : Rn := ⟨[(M2,(.f2 M1000 (.f1 M5 (.v M0)) (.num J1)))] ++ [(M3,(.f2 M1000 (.f1 M5 (.v M0)) (.num J1)))] ++ pN [4,10] ++ [(M12,(.f2 M1000 (.v M12) (.num J1)))],pU (21 + 2 * s) (tE M109) [21,23,25,27,29] ++ pN [61,63,65,67],pU (20 + 2 * s) (tE M108) [20,22,24,26,28] ++ pN [60,62,64,66],[(M0,(.f2 M1403 (.v M0) (.f2 M1410 (.f2 M1000 (.f1 M5 (.v M0)) (.num J1)) (.f2 M1410 (.num J2) (.f2 M1410 (.num J2) (.f2 M1410 (.v M2) (.f2 M1410 (.v M3) (.f2 M1410 (tE M100) (.f2 M1410 (.num J0) (.f2 M1410 (.num (Int.ofNat s)) (.f2 M1412 (tE M110) (.f2 M1411 (tE M111) (.f2 M1412 (tE M108) (.f2 M1411 (tE M109) (.f2 M1411 (.lit []) (.f1 M8 (.num J0)))))))))))))))))] ++ [(M1,tD)] ++ pN [51],[]⟩
def t1 : List (List (List Nat)) := [[[0,1,224,186,4,64,73],[0,1,224,186,4,64,73],[0,1,224,186,4,64,73],[0,1,224,186,4,64,73]],
  [[0,1,208,170,4,5,6],[0,1,257,219,4,80,95],[0,1,257,219,4,80,95],[0,1,257,219,4,80,95]],
  [[0,1,266,228,4,86,104],[0,1,208,170,4,5,6],[0,1,257,219,4,80,95],[0,1,257,219,4,80,95]],
  [[0,1,234,196,4,5,6],[0,1,234,196,4,5,6],[0,1,283,245,4,95,113],[0,1,283,245,4,95,113]],
  [[0,1,266,228,4,86,104],[0,1,266,228,4,86,104],[0,1,208,170,4,5,6],[0,1,257,219,4,80,95]],
  [[0,1,234,196,4,5,6],[0,1,301,263,4,107,131],[0,1,234,196,4,5,6],[0,1,283,245,4,95,113]],
  [[0,1,301,263,4,107,131],[0,1,234,196,4,5,6],[0,1,234,196,4,5,6],[0,1,283,245,4,95,113]],
  [[0,1,257,219,4,5,6],[0,1,257,219,4,5,6],[0,1,257,219,4,5,6],[0,1,318,280,4,116,140]],
  [[0,1,266,228,4,86,104],[0,1,266,228,4,86,104],[0,1,266,228,4,86,104],[0,1,208,170,4,5,6]],
  [[0,1,234,196,4,5,6],[0,1,301,263,4,107,131],[0,1,301,263,4,107,131],[0,1,234,196,4,5,6]],
  [[0,1,301,263,4,107,131],[0,1,234,196,4,5,6],[0,1,301,263,4,107,131],[0,1,234,196,4,5,6]],
  [[0,1,257,219,4,5,6],[0,1,257,219,4,5,6],[0,1,327,289,4,122,149],[0,1,257,219,4,5,6]],
  [[0,1,301,263,4,107,131],[0,1,301,263,4,107,131],[0,1,234,196,4,5,6],[0,1,234,196,4,5,6]],
  [[0,1,257,219,4,5,6],[0,1,330,292,4,122,149],[0,1,257,219,4,5,6],[0,1,257,219,4,5,6]],
  [[0,1,330,292,4,122,149],[0,1,257,219,4,5,6],[0,1,257,219,4,5,6],[0,1,257,219,4,5,6]],
  [[0,1,283,245,4,5,6],[0,1,283,245,4,5,6],[0,1,280,242,4,5,6],[0,1,280,242,4,5,6]]]
def tm : List (List (List Nat)) := [[[0,1,2,3,4],[0,2,3,4],[4,1,2,3],[0,65,1,86,3]],
  [[0,1,2,3,4,5,6],[0,2,3,4,5,6],[6,1,2,3,4,5],[0,152,1,173,3,137,136]],
  [[0,1,2,3,4,5,6],[0,2,3,4,5,6],[6,1,2,3,4,5],[0,152,1,173,3,137,136]],
  [[0,1,2,3,4,5,6],[0,2,3,4,5,6],[6,1,2,3,4,5],[0,177,1,198,3,160,159]],
  [[0,1,2,3,4,5,6],[0,2,3,4,5,6],[6,1,2,3,4,5],[0,152,1,173,3,137,136]],
  [[0,1,2,3,4,5,6],[0,2,3,4,5,6],[6,1,2,3,4,5],[0,177,1,198,3,160,159]],
  [[0,1,2,3,4,5,6],[0,2,3,4,5,6],[6,1,2,3,4,5],[0,177,1,198,3,160,159]],
  [[0,1,2,3,4,5,6],[0,2,3,4,5,6],[6,1,2,3,4,5],[0,202,1,223,3,183,182]],
  [[0,1,2,3,4,5,6],[0,2,3,4,5,6],[6,1,2,3,4,5],[0,152,1,173,3,137,136]],
  [[0,1,2,3,4,5,6],[0,2,3,4,5,6],[6,1,2,3,4,5],[0,177,1,198,3,160,159]],
  [[0,1,2,3,4,5,6],[0,2,3,4,5,6],[6,1,2,3,4,5],[0,177,1,198,3,160,159]],
  [[0,1,2,3,4,5,6],[0,2,3,4,5,6],[6,1,2,3,4,5],[0,202,1,223,3,183,182]],
  [[0,1,2,3,4,5,6],[0,2,3,4,5,6],[6,1,2,3,4,5],[0,177,1,198,3,160,159]],
  [[0,1,2,3,4,5,6],[0,2,3,4,5,6],[6,1,2,3,4,5],[0,202,1,223,3,183,182]],
  [[0,1,2,3,4,5,6],[0,2,3,4,5,6],[6,1,2,3,4,5],[0,202,1,223,3,183,182]],
  [[0,1,2,3,4,5,6],[0,2,3,4,5,6],[6,1,2,3,4,5],[0,227,1,248,3,206,205]]]
def t7 : List (List (List Nat)) := [[[0,1,223,185,4,63,72],[0,1,223,185,4,63,72],[0,1,223,185,4,63,72],[0,1,223,185,4,63,72],[0,1,223,185,4,63,72],[0,1,2,3,4]],
  [[0,1,227,189,4,67,76],[0,1,227,189,4,67,76],[0,1,227,189,4,67,76],[0,1,227,189,4,67,76],[0,1,227,189,4,67,76],[0,1,2,3,4,5,6]],
  [[0,1,227,189,4,67,76],[0,1,227,189,4,67,76],[0,1,227,189,4,67,76],[0,1,227,189,4,67,76],[0,1,227,189,4,67,76],[0,1,2,3,4,5,6]],
  [[0,1,227,189,4,67,76],[0,1,227,189,4,67,76],[0,1,227,189,4,67,76],[0,1,227,189,4,67,76],[0,1,227,189,4,67,76],[0,1,2,3,4,5,6]],
  [[0,1,227,189,4,67,76],[0,1,227,189,4,67,76],[0,1,227,189,4,67,76],[0,1,227,189,4,67,76],[0,1,227,189,4,67,76],[0,1,2,3,4,5,6]]]
def t3 : List (List (List Nat)) := [[[],[],[],[],[],[],[]],
  [[0,1,207,169,4,5,6],[0,1,256,218,4,79,94],[0,1,256,218,4,79,94],[0,1,256,218,4,79,94],[0,1,256,218,4,79,94],[0,1,2,3,4,5,6],[0,1,2,122,4,55,54]],
  [[0,1,265,227,4,85,103],[0,1,207,169,4,5,6],[0,1,256,218,4,79,94],[0,1,256,218,4,79,94],[0,1,256,218,4,79,94],[0,1,2,3,4,5,6],[0,1,2,122,4,55,54]],
  [[0,1,233,195,4,5,6],[0,1,233,195,4,5,6],[0,1,282,244,4,94,112],[0,1,282,244,4,94,112],[0,1,282,244,4,94,112],[0,1,2,3,4,5,6],[0,1,2,146,4,70,69]],
  [[0,1,265,227,4,85,103],[0,1,265,227,4,85,103],[0,1,207,169,4,5,6],[0,1,256,218,4,79,94],[0,1,256,218,4,79,94],[0,1,2,3,4,5,6],[0,1,2,122,4,55,54]],
  [[0,1,233,195,4,5,6],[0,1,300,262,4,106,130],[0,1,233,195,4,5,6],[0,1,282,244,4,94,112],[0,1,282,244,4,94,112],[0,1,2,3,4,5,6],[0,1,2,146,4,70,69]],
  [[0,1,300,262,4,106,130],[0,1,233,195,4,5,6],[0,1,233,195,4,5,6],[0,1,282,244,4,94,112],[0,1,282,244,4,94,112],[0,1,2,3,4,5,6],[0,1,2,146,4,70,69]],
  [[0,1,256,218,4,5,6],[0,1,256,218,4,5,6],[0,1,256,218,4,5,6],[0,1,317,279,4,115,139],[0,1,317,279,4,115,139],[0,1,2,3,4,5,6],[0,1,2,170,4,85,84]],
  [[0,1,265,227,4,85,103],[0,1,265,227,4,85,103],[0,1,265,227,4,85,103],[0,1,207,169,4,5,6],[0,1,256,218,4,79,94],[0,1,2,3,4,5,6],[0,1,2,122,4,55,54]],
  [[0,1,233,195,4,5,6],[0,1,300,262,4,106,130],[0,1,300,262,4,106,130],[0,1,233,195,4,5,6],[0,1,282,244,4,94,112],[0,1,2,3,4,5,6],[0,1,2,146,4,70,69]],
  [[0,1,300,262,4,106,130],[0,1,233,195,4,5,6],[0,1,300,262,4,106,130],[0,1,233,195,4,5,6],[0,1,282,244,4,94,112],[0,1,2,3,4,5,6],[0,1,2,146,4,70,69]],
  [[0,1,256,218,4,5,6],[0,1,256,218,4,5,6],[0,1,326,288,4,121,148],[0,1,256,218,4,5,6],[0,1,317,279,4,115,139],[0,1,2,3,4,5,6],[0,1,2,170,4,85,84]],
  [[0,1,300,262,4,106,130],[0,1,300,262,4,106,130],[0,1,233,195,4,5,6],[0,1,233,195,4,5,6],[0,1,282,244,4,94,112],[0,1,2,3,4,5,6],[0,1,2,146,4,70,69]],
  [[0,1,256,218,4,5,6],[0,1,329,291,4,121,148],[0,1,256,218,4,5,6],[0,1,256,218,4,5,6],[0,1,317,279,4,115,139],[0,1,2,3,4,5,6],[0,1,2,170,4,85,84]],
  [[0,1,329,291,4,121,148],[0,1,256,218,4,5,6],[0,1,256,218,4,5,6],[0,1,256,218,4,5,6],[0,1,317,279,4,115,139],[0,1,2,3,4,5,6],[0,1,2,170,4,85,84]],
  [[0,1,282,244,4,5,6],[0,1,282,244,4,5,6],[0,1,279,241,4,5,6],[0,1,279,241,4,5,6],[0,1,346,308,4,130,157],[0,1,2,3,4,5,6],[0,1,2,194,4,100,99]],
  [[0,1,265,227,4,85,103],[0,1,265,227,4,85,103],[0,1,265,227,4,85,103],[0,1,265,227,4,85,103],[0,1,207,169,4,5,6],[0,1,2,3,4,5,6],[0,1,2,122,4,55,54]],
  [[0,1,233,195,4,5,6],[0,1,300,262,4,106,130],[0,1,300,262,4,106,130],[0,1,300,262,4,106,130],[0,1,233,195,4,5,6],[0,1,2,3,4,5,6],[0,1,2,146,4,70,69]],
  [[0,1,300,262,4,106,130],[0,1,233,195,4,5,6],[0,1,300,262,4,106,130],[0,1,300,262,4,106,130],[0,1,233,195,4,5,6],[0,1,2,3,4,5,6],[0,1,2,146,4,70,69]],
  [[0,1,256,218,4,5,6],[0,1,256,218,4,5,6],[0,1,326,288,4,121,148],[0,1,326,288,4,121,148],[0,1,256,218,4,5,6],[0,1,2,3,4,5,6],[0,1,2,170,4,85,84]],
  [[0,1,300,262,4,106,130],[0,1,300,262,4,106,130],[0,1,233,195,4,5,6],[0,1,300,262,4,106,130],[0,1,233,195,4,5,6],[0,1,2,3,4,5,6],[0,1,2,146,4,70,69]],
  [[0,1,256,218,4,5,6],[0,1,329,291,4,121,148],[0,1,256,218,4,5,6],[0,1,326,288,4,121,148],[0,1,256,218,4,5,6],[0,1,2,3,4,5,6],[0,1,2,170,4,85,84]],
  [[0,1,329,291,4,121,148],[0,1,256,218,4,5,6],[0,1,256,218,4,5,6],[0,1,326,288,4,121,148],[0,1,256,218,4,5,6],[0,1,2,3,4,5,6],[0,1,2,170,4,85,84]],
  [[0,1,282,244,4,5,6],[0,1,282,244,4,5,6],[0,1,279,241,4,5,6],[0,1,355,317,4,136,166],[0,1,279,241,4,5,6],[0,1,2,3,4,5,6],[0,1,2,194,4,100,99]],
  [[0,1,300,262,4,106,130],[0,1,300,262,4,106,130],[0,1,300,262,4,106,130],[0,1,233,195,4,5,6],[0,1,233,195,4,5,6],[0,1,2,3,4,5,6],[0,1,2,146,4,70,69]],
  [[0,1,256,218,4,5,6],[0,1,329,291,4,121,148],[0,1,329,291,4,121,148],[0,1,256,218,4,5,6],[0,1,256,218,4,5,6],[0,1,2,3,4,5,6],[0,1,2,170,4,85,84]],
  [[0,1,329,291,4,121,148],[0,1,256,218,4,5,6],[0,1,329,291,4,121,148],[0,1,256,218,4,5,6],[0,1,256,218,4,5,6],[0,1,2,3,4,5,6],[0,1,2,170,4,85,84]],
  [[0,1,282,244,4,5,6],[0,1,282,244,4,5,6],[0,1,352,314,4,136,166],[0,1,279,241,4,5,6],[0,1,279,241,4,5,6],[0,1,2,3,4,5,6],[0,1,2,194,4,100,99]],
  [[0,1,329,291,4,121,148],[0,1,329,291,4,121,148],[0,1,256,218,4,5,6],[0,1,256,218,4,5,6],[0,1,256,218,4,5,6],[0,1,2,3,4,5,6],[0,1,2,170,4,85,84]],
  [[0,1,282,244,4,5,6],[0,1,364,326,4,142,175],[0,1,282,244,4,5,6],[0,1,279,241,4,5,6],[0,1,279,241,4,5,6],[0,1,2,3,4,5,6],[0,1,2,194,4,100,99]],
  [[0,1,364,326,4,142,175],[0,1,282,244,4,5,6],[0,1,282,244,4,5,6],[0,1,279,241,4,5,6],[0,1,279,241,4,5,6],[0,1,2,3,4,5,6],[0,1,2,194,4,100,99]],
  [[0,1,305,267,4,5,6],[0,1,305,267,4,5,6],[0,1,302,264,4,5,6],[0,1,305,267,4,5,6],[0,1,305,267,4,5,6],[0,1,2,3,4,5,6],[0,1,2,218,4,115,114]]]
def t50 : List (List (List Nat)) := [[[],[],[],[],[],[],[],[],[],[]],
  [[0,1,222,187,4,5,6],[0,1,222,187,4,242,241],[],[],[],[],[],[],[],[]],
  [[],[],[0,1,222,187,4,5,6],[0,1,222,187,4,242,241],[],[],[],[],[],[]],
  [[0,1,254,219,4,5,6],[0,1,254,219,4,281,280],[0,1,254,219,4,5,6],[0,1,254,219,4,281,280],[],[],[],[],[],[]],
  [[],[],[],[],[0,1,222,187,4,5,6],[0,1,222,187,4,242,241],[],[],[],[]],
  [[0,1,254,219,4,5,6],[0,1,254,219,4,281,280],[],[],[0,1,254,219,4,5,6],[0,1,254,219,4,281,280],[],[],[],[]],
  [[],[],[0,1,254,219,4,5,6],[0,1,254,219,4,281,280],[0,1,254,219,4,5,6],[0,1,254,219,4,281,280],[],[],[],[]],
  [[0,1,286,251,4,5,6],[0,1,286,251,4,320,319],[0,1,286,251,4,5,6],[0,1,286,251,4,320,319],[0,1,286,251,4,5,6],[0,1,286,251,4,320,319],[],[],[],[]],
  [[],[],[],[],[],[],[0,1,222,187,4,5,6],[0,1,222,187,4,242,241],[],[]],
  [[0,1,254,219,4,5,6],[0,1,254,219,4,281,280],[],[],[],[],[0,1,254,219,4,5,6],[0,1,254,219,4,281,280],[],[]],
  [[],[],[0,1,254,219,4,5,6],[0,1,254,219,4,281,280],[],[],[0,1,254,219,4,5,6],[0,1,254,219,4,281,280],[],[]],
  [[0,1,286,251,4,5,6],[0,1,286,251,4,320,319],[0,1,286,251,4,5,6],[0,1,286,251,4,320,319],[],[],[0,1,286,251,4,5,6],[0,1,286,251,4,320,319],[],[]],
  [[],[],[],[],[0,1,254,219,4,5,6],[0,1,254,219,4,281,280],[0,1,254,219,4,5,6],[0,1,254,219,4,281,280],[],[]],
  [[0,1,286,251,4,5,6],[0,1,286,251,4,320,319],[],[],[0,1,286,251,4,5,6],[0,1,286,251,4,320,319],[0,1,286,251,4,5,6],[0,1,286,251,4,320,319],[],[]],
  [[],[],[0,1,286,251,4,5,6],[0,1,286,251,4,320,319],[0,1,286,251,4,5,6],[0,1,286,251,4,320,319],[0,1,286,251,4,5,6],[0,1,286,251,4,320,319],[],[]],
  [[0,1,318,283,4,5,6],[0,1,318,283,4,359,358],[0,1,318,283,4,5,6],[0,1,318,283,4,359,358],[0,1,318,283,4,5,6],[0,1,318,283,4,359,358],[0,1,318,283,4,5,6],[0,1,318,283,4,359,358],[],[]],
  [[],[],[],[],[],[],[],[],[0,1,222,187,4,5,6],[0,1,222,187,4,242,241]],
  [[0,1,254,219,4,5,6],[0,1,254,219,4,281,280],[],[],[],[],[],[],[0,1,254,219,4,5,6],[0,1,254,219,4,281,280]],
  [[],[],[0,1,254,219,4,5,6],[0,1,254,219,4,281,280],[],[],[],[],[0,1,254,219,4,5,6],[0,1,254,219,4,281,280]],
  [[0,1,286,251,4,5,6],[0,1,286,251,4,320,319],[0,1,286,251,4,5,6],[0,1,286,251,4,320,319],[],[],[],[],[0,1,286,251,4,5,6],[0,1,286,251,4,320,319]],
  [[],[],[],[],[0,1,254,219,4,5,6],[0,1,254,219,4,281,280],[],[],[0,1,254,219,4,5,6],[0,1,254,219,4,281,280]],
  [[0,1,286,251,4,5,6],[0,1,286,251,4,320,319],[],[],[0,1,286,251,4,5,6],[0,1,286,251,4,320,319],[],[],[0,1,286,251,4,5,6],[0,1,286,251,4,320,319]],
  [[],[],[0,1,286,251,4,5,6],[0,1,286,251,4,320,319],[0,1,286,251,4,5,6],[0,1,286,251,4,320,319],[],[],[0,1,286,251,4,5,6],[0,1,286,251,4,320,319]],
  [[0,1,318,283,4,5,6],[0,1,318,283,4,359,358],[0,1,318,283,4,5,6],[0,1,318,283,4,359,358],[0,1,318,283,4,5,6],[0,1,318,283,4,359,358],[],[],[0,1,318,283,4,5,6],[0,1,318,283,4,359,358]],
  [[],[],[],[],[],[],[0,1,254,219,4,5,6],[0,1,254,219,4,281,280],[0,1,254,219,4,5,6],[0,1,254,219,4,281,280]],
  [[0,1,286,251,4,5,6],[0,1,286,251,4,320,319],[],[],[],[],[0,1,286,251,4,5,6],[0,1,286,251,4,320,319],[0,1,286,251,4,5,6],[0,1,286,251,4,320,319]],
  [[],[],[0,1,286,251,4,5,6],[0,1,286,251,4,320,319],[],[],[0,1,286,251,4,5,6],[0,1,286,251,4,320,319],[0,1,286,251,4,5,6],[0,1,286,251,4,320,319]],
  [[0,1,318,283,4,5,6],[0,1,318,283,4,359,358],[0,1,318,283,4,5,6],[0,1,318,283,4,359,358],[],[],[0,1,318,283,4,5,6],[0,1,318,283,4,359,358],[0,1,318,283,4,5,6],[0,1,318,283,4,359,358]],
  [[],[],[],[],[0,1,286,251,4,5,6],[0,1,286,251,4,320,319],[0,1,286,251,4,5,6],[0,1,286,251,4,320,319],[0,1,286,251,4,5,6],[0,1,286,251,4,320,319]],
  [[0,1,318,283,4,5,6],[0,1,318,283,4,359,358],[],[],[0,1,318,283,4,5,6],[0,1,318,283,4,359,358],[0,1,318,283,4,5,6],[0,1,318,283,4,359,358],[0,1,318,283,4,5,6],[0,1,318,283,4,359,358]],
  [[],[],[0,1,318,283,4,5,6],[0,1,318,283,4,359,358],[0,1,318,283,4,5,6],[0,1,318,283,4,359,358],[0,1,318,283,4,5,6],[0,1,318,283,4,359,358],[0,1,318,283,4,5,6],[0,1,318,283,4,359,358]],
  [[0,1,350,315,4,5,6],[0,1,350,315,4,398,397],[0,1,350,315,4,5,6],[0,1,350,315,4,398,397],[0,1,350,315,4,5,6],[0,1,350,315,4,398,397],[0,1,350,315,4,5,6],[0,1,350,315,4,398,397],[0,1,350,315,4,5,6],[0,1,350,315,4,398,397]]]
def t51 : List (List (List Nat)) := [[[],[],[],[],[],[],[],[],[],[]],
  [[0,1,222,187,4,5,6],[0,1,222,187,4,242,241],[],[],[],[],[],[],[],[]],
  [[],[],[0,1,222,187,4,5,6],[0,1,222,187,4,242,241],[],[],[],[],[],[]],
  [[0,1,254,219,4,5,6],[0,1,254,219,4,281,280],[0,1,254,219,4,5,6],[0,1,254,219,4,281,280],[],[],[],[],[],[]],
  [[],[],[],[],[0,1,222,187,4,5,6],[0,1,222,187,4,242,241],[],[],[],[]],
  [[0,1,254,219,4,5,6],[0,1,254,219,4,281,280],[],[],[0,1,254,219,4,5,6],[0,1,254,219,4,281,280],[],[],[],[]],
  [[],[],[0,1,254,219,4,5,6],[0,1,254,219,4,281,280],[0,1,254,219,4,5,6],[0,1,254,219,4,281,280],[],[],[],[]],
  [[0,1,286,251,4,5,6],[0,1,286,251,4,320,319],[0,1,286,251,4,5,6],[0,1,286,251,4,320,319],[0,1,286,251,4,5,6],[0,1,286,251,4,320,319],[],[],[],[]],
  [[],[],[],[],[],[],[0,1,222,187,4,5,6],[0,1,222,187,4,242,241],[],[]],
  [[0,1,254,219,4,5,6],[0,1,254,219,4,281,280],[],[],[],[],[0,1,254,219,4,5,6],[0,1,254,219,4,281,280],[],[]],
  [[],[],[0,1,254,219,4,5,6],[0,1,254,219,4,281,280],[],[],[0,1,254,219,4,5,6],[0,1,254,219,4,281,280],[],[]],
  [[0,1,286,251,4,5,6],[0,1,286,251,4,320,319],[0,1,286,251,4,5,6],[0,1,286,251,4,320,319],[],[],[0,1,286,251,4,5,6],[0,1,286,251,4,320,319],[],[]],
  [[],[],[],[],[0,1,254,219,4,5,6],[0,1,254,219,4,281,280],[0,1,254,219,4,5,6],[0,1,254,219,4,281,280],[],[]],
  [[0,1,286,251,4,5,6],[0,1,286,251,4,320,319],[],[],[0,1,286,251,4,5,6],[0,1,286,251,4,320,319],[0,1,286,251,4,5,6],[0,1,286,251,4,320,319],[],[]],
  [[],[],[0,1,286,251,4,5,6],[0,1,286,251,4,320,319],[0,1,286,251,4,5,6],[0,1,286,251,4,320,319],[0,1,286,251,4,5,6],[0,1,286,251,4,320,319],[],[]],
  [[0,1,318,283,4,5,6],[0,1,318,283,4,359,358],[0,1,318,283,4,5,6],[0,1,318,283,4,359,358],[0,1,318,283,4,5,6],[0,1,318,283,4,359,358],[0,1,318,283,4,5,6],[0,1,318,283,4,359,358],[],[]],
  [[],[],[],[],[],[],[],[],[0,1,222,187,4,5,6],[0,1,222,187,4,242,241]],
  [[0,1,254,219,4,5,6],[0,1,254,219,4,281,280],[],[],[],[],[],[],[0,1,254,219,4,5,6],[0,1,254,219,4,281,280]],
  [[],[],[0,1,254,219,4,5,6],[0,1,254,219,4,281,280],[],[],[],[],[0,1,254,219,4,5,6],[0,1,254,219,4,281,280]],
  [[0,1,286,251,4,5,6],[0,1,286,251,4,320,319],[0,1,286,251,4,5,6],[0,1,286,251,4,320,319],[],[],[],[],[0,1,286,251,4,5,6],[0,1,286,251,4,320,319]],
  [[],[],[],[],[0,1,254,219,4,5,6],[0,1,254,219,4,281,280],[],[],[0,1,254,219,4,5,6],[0,1,254,219,4,281,280]],
  [[0,1,286,251,4,5,6],[0,1,286,251,4,320,319],[],[],[0,1,286,251,4,5,6],[0,1,286,251,4,320,319],[],[],[0,1,286,251,4,5,6],[0,1,286,251,4,320,319]],
  [[],[],[0,1,286,251,4,5,6],[0,1,286,251,4,320,319],[0,1,286,251,4,5,6],[0,1,286,251,4,320,319],[],[],[0,1,286,251,4,5,6],[0,1,286,251,4,320,319]],
  [[0,1,318,283,4,5,6],[0,1,318,283,4,359,358],[0,1,318,283,4,5,6],[0,1,318,283,4,359,358],[0,1,318,283,4,5,6],[0,1,318,283,4,359,358],[],[],[0,1,318,283,4,5,6],[0,1,318,283,4,359,358]],
  [[],[],[],[],[],[],[0,1,254,219,4,5,6],[0,1,254,219,4,281,280],[0,1,254,219,4,5,6],[0,1,254,219,4,281,280]],
  [[0,1,286,251,4,5,6],[0,1,286,251,4,320,319],[],[],[],[],[0,1,286,251,4,5,6],[0,1,286,251,4,320,319],[0,1,286,251,4,5,6],[0,1,286,251,4,320,319]],
  [[],[],[0,1,286,251,4,5,6],[0,1,286,251,4,320,319],[],[],[0,1,286,251,4,5,6],[0,1,286,251,4,320,319],[0,1,286,251,4,5,6],[0,1,286,251,4,320,319]],
  [[0,1,318,283,4,5,6],[0,1,318,283,4,359,358],[0,1,318,283,4,5,6],[0,1,318,283,4,359,358],[],[],[0,1,318,283,4,5,6],[0,1,318,283,4,359,358],[0,1,318,283,4,5,6],[0,1,318,283,4,359,358]],
  [[],[],[],[],[0,1,286,251,4,5,6],[0,1,286,251,4,320,319],[0,1,286,251,4,5,6],[0,1,286,251,4,320,319],[0,1,286,251,4,5,6],[0,1,286,251,4,320,319]],
  [[0,1,318,283,4,5,6],[0,1,318,283,4,359,358],[],[],[0,1,318,283,4,5,6],[0,1,318,283,4,359,358],[0,1,318,283,4,5,6],[0,1,318,283,4,359,358],[0,1,318,283,4,5,6],[0,1,318,283,4,359,358]],
  [[],[],[0,1,318,283,4,5,6],[0,1,318,283,4,359,358],[0,1,318,283,4,5,6],[0,1,318,283,4,359,358],[0,1,318,283,4,5,6],[0,1,318,283,4,359,358],[0,1,318,283,4,5,6],[0,1,318,283,4,359,358]],
  [[0,1,350,315,4,5,6],[0,1,350,315,4,398,397],[0,1,350,315,4,5,6],[0,1,350,315,4,398,397],[0,1,350,315,4,5,6],[0,1,350,315,4,398,397],[0,1,350,315,4,5,6],[0,1,350,315,4,398,397],[0,1,350,315,4,5,6],[0,1,350,315,4,398,397]]]
def at2 (t : List (List (List Nat))) (k s : Nat) : List (Bid × Bid) := bM ((t.getD k []).getD s [])
def fA : List Fc := [.rng (.f1 M5 (.v M50)) J21 J9223372036854775807]
def fBb : List Fc := [.rng (.f1 M5 (.v M50)) J0 J20,.rng (.f1 M5 (.v M51)) J31 J9223372036854775807]
def fC : List Fc := [.rng (.f1 M5 (.v M50)) J0 J20,.rng (.f1 M5 (.v M51)) J0 J30]
def fC0 : List Fc := [.rng (.f1 M5 (.v M50)) J0 J20]
def subC (L : List (AC × AC)) (c : AC) : AC := match L with
  | [] => c
  | x :: l => bif decide (x.1 = c) then x.2 else subC l c
def sub5 (s : Nat) : List (AC × AC) := [(.sb (.v (20 + 2 * s)),.sb (tE M110)),(.ss (.v (21 + 2 * s)),.ss (tE M111))]
def subZ0 : List (AC × AC) := [(.sb (.v M60),.b false),(.sb (.v M62),.b false),(.sb (.v M64),.b false),(.sb (.v M66),.b false),(.ss (.v M61),.s []),(.ss (.v M63),.s []),(.ss (.v M65),.s []),(.ss (.v M67),.s [])]
def subW : List (AC × AC) := [(.sb (.v M20),.sb (.v M60)),(.sb (.v M22),.sb (.v M62)),(.sb (.v M24),.sb (.v M64)),(.sb (.v M26),.sb (.v M66)),(.ss (.v M21),.ss (.v M61)),(.ss (.v M23),.ss (.v M63)),(.ss (.v M25),.ss (.v M65)),(.ss (.v M27),.ss (.v M67))]
def subE : List (AC × AC) := subW ++ [(.sb (.v M28),.b false),(.ss (.v M29),.s [])]
def subZ (z : Nat) : List (AC × AC) := match z with
  | 0 => subZ0
  | _ + 1 => subW
def fW (z : Nat) : List Fc := match z with
  | 0 => []
  | _ + 1 => fWw
def k2m (k s : Nat) : Nat := Nat.xor k (2 ^ s)
def cnt (k : Nat) : Nat := (subs 4 k).length
noncomputable def run10 (k s : Nat) : Bool := endsAt .nrm (at2 t1 k s) (r1 k s 0).nms (st1 (k ||| 2 ^ s)) (aev Tryz.prog (envR (fg10 s ++ (fIn1 ++ (fb4 k)))) (tblM (fg10 s ++ (fIn1 ++ (fb4 k)))) M9000 (chB) (st1 k).frame (st1 k).hp)
noncomputable def run11 (k s : Nat) : Bool := endsAt .nrm (at2 t1 k s) (r1 k s 1).nms (st1 (k ||| 2 ^ s)) (aev Tryz.prog (envR (fg11 s ++ (fIn1 ++ (fb4 k)))) (tblM (fg11 s ++ (fIn1 ++ (fb4 k)))) M9000 (chB) (st1 k).frame (st1 k).hp)
noncomputable def run1x (k : Nat) : Bool := endsAt (.ex M0) (at2 tm k 0) (rx1 k).nms (st1x k) (aev Tryz.prog (envR (fOut1)) (tblM (fOut1)) M9000 (chB) (st1 k).frame (st1 k).hp)
noncomputable def run1r (k : Nat) : Bool := endsAt .ret (at2 tm k 1) (rcr k).nms (stCr k) (aev Tryz.prog (envR ([])) (tblM ([])) M9000 (chRe) (st1x k).frame (st1x k).hp)
noncomputable def run2 (k : Nat) : Bool := endsAt .nrm (at2 tm k 3) (r2 k).nms (stB (cnt k)) (runL Tryz.prog (envR (fL2 ++ (fCm k ++ (fb4 k)))) (tblM (fL2 ++ (fCm k ++ (fb4 k)))) M9000 (cutL 4 lw2 ++ [lwRi]) (stA k).frame (stA k).hp)
noncomputable def run7 (z s : Nat) : Bool := endsAt .nrm (at2 t7 z s) (r7 z s).nms (st3 (2 ^ s)) (aev Tryz.prog (envR (fg7 s ++ (fIn3 ++ (fB z)))) (tblM (fg7 s ++ (fIn3 ++ (fB z)))) M9000 (lwB3) (stB z).frame (stB z).hp)
noncomputable def run7x (z : Nat) : Bool := endsAt (.ex M0) (at2 t7 z 5) (rBx z).nms (stBx z) (aev Tryz.prog (envR (fOx)) (tblM (fOx)) M9000 (lwB3) (stB z).frame (stB z).hp)
noncomputable def run7z (z : Nat) : Bool := endsAt .ret ([]) (({} : Rn)).nms (sTL) (aev Tryz.prog (envR (fZ ++ (fB z ++ (fW z)))) (tblM (fZ ++ (fB z ++ (fW z)))) M9000 (lw4) ((stBx z).map (subC (subZ z))).frame ((stBx z).map (subC (subZ z))).hp)
noncomputable def run3 (k s : Nat) : Bool := endsAt .nrm (at2 t3 k s) (r3 s).nms (st3 (k ||| 2 ^ s)) (aev Tryz.prog (envR (fg7 s ++ (fIn3 ++ (fK)))) (tblM (fg7 s ++ (fIn3 ++ (fK)))) M9000 (lwB3) (st3 k).frame (st3 k).hp)
noncomputable def run3x (k : Nat) : Bool := endsAt (.ex M0) (at2 t3 k 5) (rx3).nms (st3x k) (aev Tryz.prog (envR (fOut3)) (tblM (fOut3)) M9000 (lwB3) (st3 k).frame (st3 k).hp)
noncomputable def runAb (k : Nat) : Bool := endsAt .nrm (at2 t3 k 6) (rab).nms (stU 0 k) (runL Tryz.prog (envR (fAB k ++ (fK))) (tblM (fAB k ++ (fK))) M9000 (cutL 3 lw4) (st3x k).frame (st3x k).hp)
noncomputable def run50m (k s : Nat) : Bool := endsAt .nrm (at2 t50 k (2 * s)) (r5 s).nms (stU 0 k) (aev Tryz.prog (envR (fg s k ++ (fI ++ (fU)))) (tblM (fg s k ++ (fI ++ (fU)))) M9000 (lwB5) ((stU 0 k).map (subC (sub5 s))).frame ((stU 0 k).map (subC (sub5 s))).hp)
noncomputable def run50d (k s : Nat) : Bool := endsAt .nrm (at2 t50 k (2 * s + 1)) (r5 s).nms (stU 1 (k2m k s)) (aev Tryz.prog (envR (fg s (k2m k s) ++ (fI ++ (fU)))) (tblM (fg s (k2m k s) ++ (fI ++ (fU)))) M9000 (lwB5) ((stU 0 k).map (subC (sub5 s))).frame ((stU 0 k).map (subC (sub5 s))).hp)
noncomputable def run51m (k s : Nat) : Bool := endsAt .nrm (at2 t51 k (2 * s)) (r5 s).nms (stU 1 k) (aev Tryz.prog (envR (fg s k ++ (fI ++ (fU)))) (tblM (fg s k ++ (fI ++ (fU)))) M9000 (lwB5) ((stU 1 k).map (subC (sub5 s))).frame ((stU 1 k).map (subC (sub5 s))).hp)
noncomputable def run51d (k s : Nat) : Bool := endsAt .nrm (at2 t51 k (2 * s + 1)) (r5 s).nms (stU 1 (k2m k s)) (aev Tryz.prog (envR (fg s (k2m k s) ++ (fI ++ (fU)))) (tblM (fg s (k2m k s) ++ (fI ++ (fU)))) M9000 (lwB5) ((stU 1 k).map (subC (sub5 s))).frame ((stU 1 k).map (subC (sub5 s))).hp)
noncomputable def run1 (k s : Nat) : Bool := run10 k s && run11 k s
noncomputable def run1q (k : Nat) : Bool := (run1x k && run1r k) && run2 k
noncomputable def run7q (z : Nat) : Bool := ((run7 z 0 && run7 z 1) && (run7 z 2 && run7 z 3)) && (run7 z 4 && (run7x z && run7z z))
noncomputable def run3q (k : Nat) : Bool := run3x k && runAb k
noncomputable def run5 (k s : Nat) : Bool := (run50m k s && run50d k s) && (run51m k s && run51d k s)
theorem runS : endsAt .nrm (bM [0, 8, 107, 23, 3]) (rS).nms (st1 0) (runL Tryz.prog (envR (fC0)) tblC M9000 (cutL 5 chBody ++ [chRi]) (sC0).frame (sC0).hp) = true := by kernel_rfl
theorem runTA : endsAt .ret ([]) (({} : Rn)).nms (sTL) (aev Tryz.prog (envR (fA)) (tblM (fA)) M9000 (lwBody) (s0L).frame (s0L).hp) = true := by kernel_rfl
theorem runTB : endsAt .ret ([]) (({} : Rn)).nms (sTL) (aev Tryz.prog (envR (fBb)) (tblM (fBb)) M9000 (lwBody) (s0L).frame (s0L).hp) = true := by kernel_rfl
theorem runP : endsAt .nrm ([]) (rP).nms (sP0) (runL Tryz.prog (envR (fC)) (tblM (fC)) M9000 (cutL 2 lwBody) (s0L).frame (s0L).hp) = true := by kernel_rfl
theorem runF : endsAt .nrm (bM [0, 1, 2, 107, 4, 133, 134]) (rF).nms (sE) (aev Tryz.prog (envR (fQ0 ++ (fI ++ (fU)))) (tblM (fQ0 ++ (fI ++ (fU)))) M9000 (lwB5) (stU 1 0).frame (stU 1 0).hp) = true := by kernel_rfl
theorem runX : endsAt (.ex M2) (bM [0, 1, 2, 3, 4, 5, 6]) (rX).nms (sE) (aev Tryz.prog (envR ([])) (tblM ([])) M9000 (lwB5) (sE).frame (sE).hp) = true := by kernel_rfl
theorem runE : endsAt .ret ([]) (({} : Rn)).nms (sTL) (aev Tryz.prog (envR (fE)) (tblM (fE)) M9000 (lw6) (sE.map (subC subE)).frame (sE.map (subC subE)).hp) = true := by kernel_rfl
theorem saysT : saysTrue lwRes sTL = true := by kernel_rfl
end Go.Proofs.YtnofmmceafkkoaaGreat
