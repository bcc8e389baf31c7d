/-
  RollbackCells: states and what is known at them (printed by a program).
-/
import Derived.Test.YtnofmmceafkkoaaGreatSt
import Derived.Test.YtnofmmceafkkoaaGreatEcT
set_option linter.unusedSimpArgs false
set_option linter.unusedVariables false
set_option maxRecDepth 100000
namespace Go.Proofs.YtnofmmceafkkoaaGreat
open Go.RowKit
def chBody : ACd := bodyA c8
def chRes : List AR := resA c8
def chX : ACd := cutR 5 chBody
def chRi : ACd := fstA (fstA chX)
def chB : ACd := innA (innA (sndA (fstA chX)))
def chRe : ACd := sndA chX
theorem chX_eq : chX = .seq (.seq chRi (.block M0 (.loop chB))) chRe := by kernel_rfl
theorem chCut : cutA 5 chBody = some (cutL 5 chBody, chX) := by kernel_rfl
def lwBody : ACd := bodyA c6
def lwRes : List AR := resA c6
def lw1 : ACd := cutR 2 lwBody
def lwRC : ACd := fstA lw1
def lw2 : ACd := sndA lw1
def lw3 : ACd := cutR 3 lw2
def lwX : ACd := fstA lw3
def lwRi : ACd := fstA lwX
def lwB : ACd := innA (innA (sndA lwX))
def lw4 : ACd := sndA lw3
def lwY : ACd := fstA lw4
def lwRj : ACd := fstA lwY
def lwF : ACd := innA (innA (sndA lwY))
def lw5 : ACd := sndA lw4
def rd1 : ACd := cutR 2 lwB
def rdX : ACd := innA (fstA rd1)
def rdI : ACd := sndA rd1
def rd2 : ACd := cutR 4 rdX
def inX : ACd := fstA rd2
def inRi : ACd := fstA inX
def inB : ACd := innA (innA (sndA inX))
def rd3 : ACd := sndA rd2
theorem lw1_eq : lw1 = .seq lwRC lw2 := by kernel_rfl
theorem lw3_eq : lw3 = .seq (.seq lwRi (.block M0 (.loop lwB))) lw4 := by kernel_rfl
theorem lw4_eq : lw4 = .seq (.seq lwRj (.block M4 (.loop lwF))) lw5 := by kernel_rfl
theorem rd1_eq : rd1 = .seq (.block M1 rdX) rdI := by kernel_rfl
theorem rd2_eq : rd2 = .seq (.seq inRi (.block M2 (.loop inB))) rd3 := by kernel_rfl
theorem cutL1 : cutA 2 lwBody = some (cutL 2 lwBody, lw1) := by kernel_rfl
theorem cutL2 : cutA 3 lw2 = some (cutL 3 lw2, lw3) := by kernel_rfl
theorem cutB : cutA 2 lwB = some (cutL 2 lwB, rd1) := by kernel_rfl
theorem cutX : cutA 4 rdX = some (cutL 4 rdX, rd2) := by kernel_rfl
def subs (n k : Nat) : List Nat := (List.range n).filter fun i => Nat.testBit k i
def hcell (t s : Nat) : List AC := [.i .i64 (.ofNat t),.i .i64 (.ofNat M0),.i .i64 (.ofNat s),.i .i64 (.ofNat M2)]
def heldC : List Nat → List AC
  | [] => []
  | s :: l => hcell M1 s ++ heldC l
def heldH (a b : Nat) : List AC := (subs 4 (a ||| b)).flatMap fun s => hcell (bif Nat.testBit a s then M1 else M2) s
def cntH (a b : Nat) : Nat := (subs 4 (a ||| b)).length
def mineH (b : Nat) : List AC := (List.range 4).map fun i => .b (Nat.testBit b i)
def sC0 : Lit := ⟨[(.x0,.x0,(.c (.ds (.i .u8 .nil) (.v M50)))),(.x0,.x1,(.c (.b true)))],[],B000⟩
def s0L : Lit := ⟨[(.x0,.x0,(.c (.ds (.i .u8 .nil) (.v M50)))),(.x0,.x1,(.c (.ds (.i .u8 .nil) (.v M51))))],[],B000⟩
def sTL : Lit := ⟨[(.x0,.x4,(.c (.b true)))],[],B000⟩
def sPL : Lit := ⟨[(.x0,.x0,(.c (.ds (.i .u8 .nil) (.v M50)))),(.x0,.x1,(.c (.ds (.i .u8 .nil) (.v M51)))),(.x0,.x4,(.c (.b false))),(.x3,.x0,(.c (.ds (.i .u8 .nil) (.v M50))))],[],B000⟩
def sP0 : Lit := ⟨[(.x0,.x0,(.c (.ds (.i .u8 .nil) (.v M50)))),(.x0,.x1,(.c (.ds (.i .u8 .nil) (.v M51)))),(.x0,.x4,(.c (.b false)))],[],B000⟩
def st1z : Lit := ⟨[(.x0,.x1,(.c (.b true))),(.x0,.x4,(.c (.p B000 M0))),(.x0,.x7,(.c (.p B001 M0))),(.x0,.x9,(.c Z1)),(.x2,.xe,(.c (.ds (.i .u8 .nil) (.v M50)))),(.x2,.xf,(.c (.si .i64 (.v M8)))),(.x3,.x0,(.c (.si .i64 (.v M7))))],[(B000,(.cells [Z0,Z0,Z0,.sn,Z0,Z0,.sn,Z0,.sn,.sn,.sn,.sn,.sn])),(B001,(.cells [Z1,Z2,Z1,.ds (.i .i64 (.i .i64 (.i .i64 (.i .i64 (.i .i64 (.i .i64 (.i .i64 (.i .i64 (.b (.s (.b (.s (.s .nil))))))))))))) (.v M0),.si .i64 (.v M4),Z1,.su B002 M0 M1 M1 M37,Z0,.sn,.sn,.su B003 M0 M1 M1 M6,.sl B004 M0 M1 M1,.sn])),(B002,(.cells [Z0,Z0,.b false,.s [],.b false,.s [],.b false,.s [],.b false,.s [],.b false,.s [],.b false,.s [],.b false,.s [],.b false,.s [],.b false,.s [],.b false,.s [],.b false,.s [],.b false,.s [],.b false,.s [],.b false,.s [],.b false,.s [],.b false,.s [],.b false,Z0,.b true])),(B003,(.cells [Z1,Z1,.si .i64 (.v M2),Z0,.ds (.i .i64 .nil) (.v M1),.sn])),(B004,(.cells [Z0,Z0,Z0]))],B005⟩
def st1p (l : List Nat) : Lit := ⟨[(.x0,.x1,(.c (.b true))),(.x0,.x4,(.c (.p B000 M0))),(.x0,.x7,(.c (.p B001 M0))),(.x0,.x9,(.c Z1)),(.x2,.xe,(.c (.ds (.i .u8 .nil) (.v M50)))),(.x2,.xf,(.c (.si .i64 (.v M8)))),(.x3,.x0,(.c (.si .i64 (.v M7))))],[(B000,(.cells [Z0,Z0,Z0,.sn,Z0,Z0,.sn,Z0,.sn,.sn,.sn,.sn,.sn])),(B001,(.cells [Z1,Z2,Z1,.ds (.i .i64 (.i .i64 (.i .i64 (.i .i64 (.i .i64 (.i .i64 (.i .i64 (.i .i64 (.b (.s (.b (.s (.s .nil))))))))))))) (.v M0),.si .i64 (.v M4),Z1,.su B002 M0 M1 M1 M37,Z0,.su B006 M0 l.length l.length M4,.su B005 M0 M0 M1 M4,.su B003 M0 M1 M1 M6,.sl B004 M0 M1 M1,.sn])),(B002,(.cells [Z0,.si .i64 (.v M3),.sb (.v M20),.ss (.v M21),.sb (.v M22),.ss (.v M23),.sb (.v M24),.ss (.v M25),.sb (.v M26),.ss (.v M27),.b false,.s [],.b false,.s [],.b false,.s [],.b false,.s [],.b false,.s [],.b false,.s [],.b false,.s [],.b false,.s [],.b false,.s [],.b false,.s [],.b false,.s [],.b false,.s [],.b true,Z1,.b true])),(B003,(.cells [Z1,Z1,.si .i64 (.v M2),Z0,.ds (.i .i64 .nil) (.v M1),.sn])),(B004,(.cells [Z0,Z0,Z0])),(B005,(.cells [Z0,Z0,Z0,Z0])),(B006,(.cells (heldC l)))],B007⟩
def st1 (k : Nat) : Lit := match k with
  | 0 => st1z
  | k + 1 => st1p (subs 4 (k + 1))
def st1x (k : Nat) : Lit := ⟨[(.x0,.x1,(.c (.b true))),(.x0,.x4,(.c (.p B000 M0))),(.x0,.x7,(.c (.p B001 M0))),(.x0,.x9,(.c Z1))],(st1 k).mem,(st1 k).next⟩
def stCp (l : List Nat) : Lit := ⟨[(.x0,.x4,(.c (.p B000 M0))),(.x0,.x5,(.c Z1)),(.x0,.x6,(.c (.b true)))],[(B000,(.cells [Z1,Z2,Z1,.ds (.i .i64 (.i .i64 (.i .i64 (.i .i64 (.i .i64 (.i .i64 (.i .i64 (.i .i64 (.b (.s (.b (.s (.s .nil))))))))))))) (.v M0),.si .i64 (.v M4),Z1,.su B001 M0 M1 M1 M37,Z0,.su B005 M0 l.length l.length M4,.sl B004 M0 M0 M0,.su B002 M0 M1 M1 M6,.sl B003 M0 M1 M1,.sn])),(B001,(.cells [Z0,.si .i64 (.v M3),.sb (.v M20),.ss (.v M21),.sb (.v M22),.ss (.v M23),.sb (.v M24),.ss (.v M25),.sb (.v M26),.ss (.v M27),.b false,.s [],.b false,.s [],.b false,.s [],.b false,.s [],.b false,.s [],.b false,.s [],.b false,.s [],.b false,.s [],.b false,.s [],.b false,.s [],.b false,.s [],.b false,.s [],.b true,Z1,.b true])),(B002,(.cells [Z1,Z3,.si .i64 (.v M2),Z0,.ds (.i .i64 .nil) (.v M1),.sn])),(B003,(.cells [Z0,Z0,Z0])),(B004,(.cells [])),(B005,(.cells (heldC l)))],B006⟩
def stCo (k : Nat) : Lit := stCp (subs 4 k)
def stA (k : Nat) : Lit := ⟨[(.x0,.x0,(.c (.ds (.i .u8 .nil) (.v M50)))),(.x0,.x1,(.c (.ds (.i .u8 .nil) (.v M51)))),(.x0,.x5,(.c (.p B000 M0))),(.x0,.x6,(.c Z1)),(.x0,.x7,(.c (.b true)))],(stCo k).mem,(stCo k).next⟩
def sh0 (a b : Nat) : Lit := ⟨[(.x0,.x0,(.c (.ds (.i .u8 .nil) (.v M50)))),(.x0,.x5,(.c (.p B000 M0))),(.x0,.x6,(.c Z1)),(.x0,.x8,(.c Z2)),(.x0,.xa,(.c (.p B001 M0))),(.x4,.x4,(.c (.ds (.i .u8 .nil) (.v M52)))),(.x4,.x5,(.c (.si .i64 (.v M8)))),(.x4,.x6,(.c (.si .i64 (.v M7))))],[(B000,(.cells [Z1,Z3,Z1,.ds (.i .i64 (.i .i64 (.i .i64 (.i .i64 (.i .i64 (.i .i64 (.i .i64 (.i .i64 (.b (.s (.b (.s (.s .nil))))))))))))) (.v M0),.si .i64 (.v M4),Z1,.su B002 M0 M1 M1 M37,Z0,.su B006 M0 (cntH a b) (cntH a b) M4,.sl B005 M0 M0 M0,.su B003 M0 M2 M2 M6,.sl B004 M0 M1 M1,.sn])),(B001,(.cells (mineH b))),(B002,(.cells [Z0,.si .i64 (.v M3),.sb (.v M20),.ss (.v M21),.sb (.v M22),.ss (.v M23),.sb (.v M24),.ss (.v M25),.sb (.v M26),.ss (.v M27),.b false,.s [],.b false,.s [],.b false,.s [],.b false,.s [],.b false,.s [],.b false,.s [],.b false,.s [],.b false,.s [],.b false,.s [],.b false,.s [],.b false,.s [],.b false,.s [],.b true,Z1,.b true])),(B003,(.cells [Z1,Z3,.si .i64 (.v M2),Z0,.ds (.i .i64 .nil) (.v M1),.sn,Z2,Z1,.si .i64 (.v M5),Z0,.ds (.i .i64 .nil) (.v M9),.sn])),(B004,(.cells [Z0,Z0,Z0])),(B005,(.cells [])),(B006,(.cells (heldH a b)))],B007⟩
def sh1 (a b : Nat) : Lit := ⟨[(.x0,.x0,(.c (.ds (.i .u8 .nil) (.v M50)))),(.x0,.x5,(.c (.p B000 M0))),(.x0,.x6,(.c Z1)),(.x0,.x8,(.c Z2)),(.x0,.xa,(.c (.p B001 M0))),(.x4,.x4,(.c (.ds (.i .u8 .nil) (.v M52)))),(.x4,.x5,(.c (.si .i64 (.v M8)))),(.x4,.x6,(.c (.si .i64 (.v M7))))],[(B000,(.cells [Z1,Z3,Z1,.ds (.i .i64 (.i .i64 (.i .i64 (.i .i64 (.i .i64 (.i .i64 (.i .i64 (.i .i64 (.b (.s (.b (.s (.s .nil))))))))))))) (.v M0),.si .i64 (.v M4),Z1,.su B002 M0 M1 M1 M37,Z0,.su B006 M0 (cntH a b) (cntH a b + 1) M4,.sl B005 M0 M0 M0,.su B003 M0 M2 M2 M6,.sl B004 M0 M1 M1,.sn])),(B001,(.cells (mineH b))),(B002,(.cells [Z0,.si .i64 (.v M3),.sb (.v M20),.ss (.v M21),.sb (.v M22),.ss (.v M23),.sb (.v M24),.ss (.v M25),.sb (.v M26),.ss (.v M27),.b false,.s [],.b false,.s [],.b false,.s [],.b false,.s [],.b false,.s [],.b false,.s [],.b false,.s [],.b false,.s [],.b false,.s [],.b false,.s [],.b false,.s [],.b false,.s [],.b true,Z1,.b true])),(B003,(.cells [Z1,Z3,.si .i64 (.v M2),Z0,.ds (.i .i64 .nil) (.v M1),.sn,Z2,Z1,.si .i64 (.v M5),Z0,.ds (.i .i64 .nil) (.v M9),.sn])),(B004,(.cells [Z0,Z0,Z0])),(B005,(.cells [])),(B006,(.cells (heldH a b ++ [Z0,Z0,Z0,Z0])))],B007⟩
def sh2 (a b : Nat) : Lit := ⟨[(.x0,.x0,(.c (.ds (.i .u8 .nil) (.v M50)))),(.x0,.x5,(.c (.p B000 M0))),(.x0,.x6,(.c Z1)),(.x0,.x8,(.c Z2)),(.x0,.xa,(.c (.p B001 M0))),(.x4,.x4,(.c (.ds (.i .u8 .nil) (.v M52)))),(.x4,.x5,(.c (.si .i64 (.v M8)))),(.x4,.x6,(.c (.si .i64 (.v M7))))],[(B000,(.cells [Z1,Z3,Z1,.ds (.i .i64 (.i .i64 (.i .i64 (.i .i64 (.i .i64 (.i .i64 (.i .i64 (.i .i64 (.b (.s (.b (.s (.s .nil))))))))))))) (.v M0),.si .i64 (.v M4),Z1,.su B002 M0 M1 M1 M37,Z0,.su B006 M0 (cntH a b) (cntH a b) M4,.su B005 M0 M0 M1 M4,.su B003 M0 M2 M2 M6,.sl B004 M0 M1 M1,.sn])),(B001,(.cells (mineH b))),(B002,(.cells [Z0,.si .i64 (.v M3),.sb (.v M20),.ss (.v M21),.sb (.v M22),.ss (.v M23),.sb (.v M24),.ss (.v M25),.sb (.v M26),.ss (.v M27),.b false,.s [],.b false,.s [],.b false,.s [],.b false,.s [],.b false,.s [],.b false,.s [],.b false,.s [],.b false,.s [],.b false,.s [],.b false,.s [],.b false,.s [],.b false,.s [],.b true,Z1,.b true])),(B003,(.cells [Z1,Z3,.si .i64 (.v M2),Z0,.ds (.i .i64 .nil) (.v M1),.sn,Z2,Z1,.si .i64 (.v M5),Z0,.ds (.i .i64 .nil) (.v M9),.sn])),(B004,(.cells [Z0,Z0,Z0])),(B005,(.cells [Z0,Z0,Z0,Z0])),(B006,(.cells (heldH a b)))],B007⟩
def sh (a b v : Nat) : Lit := match v with
  | 0 => sh0 a b
  | 1 => sh1 a b
  | _ + 2 => sh2 a b
def sBg (k : Nat) : Lit := ⟨[(.x0,.x0,(.c (.ds (.i .u8 .nil) (.v M50)))),(.x0,.x1,(.c (.ds (.i .u8 .nil) (.v M51)))),(.x0,.x5,(.c (.p B000 M0))),(.x0,.x6,(.c Z1)),(.x0,.x8,(.c Z2)),(.x0,.xa,(.c (.p B001 M0)))],(sh k 0 0).mem,(sh k 0 0).next⟩
def shJ (a b v s : Nat) : Lit := ⟨[(.x0,.x0,(.c (.ds (.i .u8 .nil) (.v M50)))),(.x0,.x5,(.c (.p B000 M0))),(.x0,.x6,(.c Z1)),(.x0,.x8,(.c Z2)),(.x0,.xa,(.c (.p B001 M0))),(.x0,.xd,(.c (.p B007 M0))),(.x1,.x0,(.c (.si .i64 (.v M12)))),(.x4,.x4,(.c (.ds (.i .u8 .nil) (.v M52)))),(.x4,.x5,(.c (.si .i64 (.v M8)))),(.x4,.x6,(.c (.si .i64 (.v M7))))],(sh a b v).mem ++ [(B007,(.cells [Z0,.i .i64 (.ofNat s)]))],B008⟩
def shX (a b v s : Nat) : Lit := ⟨[(.x0,.x0,(.c (.ds (.i .u8 .nil) (.v M50)))),(.x0,.x5,(.c (.p B000 M0))),(.x0,.x6,(.c Z1)),(.x0,.x8,(.c Z2)),(.x0,.xa,(.c (.p B001 M0))),(.x0,.xd,(.c (.p B007 M0))),(.x4,.x4,(.c (.ds (.i .u8 .nil) (.v M52)))),(.x4,.x5,(.c (.si .i64 (.v M8)))),(.x4,.x6,(.c (.si .i64 (.v M7))))],(shJ a b v s).mem,(shJ a b v s).next⟩
def shO (b v : Nat) : Lit := ⟨[(.x0,.x0,(.c (.ds (.i .u8 .nil) (.v M50)))),(.x0,.x5,(.c (.p B000 M0))),(.x0,.x6,(.c Z1)),(.x0,.x8,(.c Z2)),(.x0,.xa,(.c (.p B001 M0)))],(sh 0 b v).mem,(sh 0 b v).next⟩
def shN (b v : Nat) : Lit := ⟨[(.x0,.x0,(.c (.ds (.i .u8 .nil) (.v M50)))),(.x0,.x5,(.c (.p B000 M0))),(.x0,.x6,(.c Z1)),(.x0,.x8,(.c Z2)),(.x0,.xa,(.c (.p B001 M0))),(.x1,.x5,(.c (.si .i64 (.v M12))))],(sh 0 b v).mem,(sh 0 b v).next⟩
def heldO (b : Nat) : AC := match b with
  | 0 => .sl B006 M0 M0 M0
  | b + 1 => .su B006 M0 (cntH 0 (b + 1)) (cntH 0 (b + 1)) M4
def sO (b : Nat) : Lit := ⟨[(.x0,.x0,(.c (.ds (.i .u8 .nil) (.v M50)))),(.x0,.x5,(.c (.p B000 M0))),(.x0,.x6,(.c Z1)),(.x0,.x8,(.c Z2)),(.x0,.xa,(.c (.p B001 M0))),(.x4,.x4,(.c (.ds (.i .u8 .nil) (.v M52)))),(.x4,.x5,(.c (.si .i64 (.v M8)))),(.x4,.x6,(.c (.si .i64 (.v M7))))],[(B000,(.cells [Z1,Z3,Z1,.ds (.i .i64 (.i .i64 (.i .i64 (.i .i64 (.i .i64 (.i .i64 (.i .i64 (.i .i64 (.b (.s (.b (.s (.s .nil))))))))))))) (.v M0),.si .i64 (.v M4),Z1,.su B002 M0 M1 M1 M37,Z0,heldO b,.sl B005 M0 M0 M0,.su B003 M0 M1 M2 M6,.sl B004 M0 M1 M1,.sn])),(B001,(.cells (mineH b))),(B002,(.cells [Z0,.si .i64 (.v M3),.sb (.v M20),.ss (.v M21),.sb (.v M22),.ss (.v M23),.sb (.v M24),.ss (.v M25),.sb (.v M26),.ss (.v M27),.b false,.s [],.b false,.s [],.b false,.s [],.b false,.s [],.b false,.s [],.b false,.s [],.b false,.s [],.b false,.s [],.b false,.s [],.b false,.s [],.b false,.s [],.b false,.s [],.b true,Z1,.b true])),(B003,(.cells [Z2,Z1,.si .i64 (.v M5),Z0,.ds (.i .i64 .nil) (.v M9),.sn,Z0,Z0,Z0,Z0,.sn,.sn])),(B004,(.cells [Z0,Z0,Z0])),(B005,(.cells [])),(B006,(.cells (heldH 0 b)))],B007⟩
def sOx (b : Nat) : Lit := ⟨[(.x0,.x0,(.c (.ds (.i .u8 .nil) (.v M50)))),(.x0,.x5,(.c (.p B000 M0))),(.x0,.x6,(.c Z1)),(.x0,.x8,(.c Z2)),(.x0,.xa,(.c (.p B001 M0)))],(sO b).mem,(sO b).next⟩
def sON (b : Nat) : Lit := ⟨[(.x0,.x0,(.c (.ds (.i .u8 .nil) (.v M50)))),(.x0,.x5,(.c (.p B000 M0))),(.x0,.x6,(.c Z1)),(.x0,.x8,(.c Z2)),(.x0,.xa,(.c (.p B001 M0))),(.x1,.x5,(.c (.si .i64 (.v M12))))],(sO b).mem,(sO b).next⟩
def sCz : Lit := ⟨[(.x0,.x4,(.c (.p B000 M0))),(.x0,.x5,(.c Z1)),(.x0,.x6,(.c (.b true)))],[(B000,(.cells [Z1,Z2,Z1,.ds (.i .i64 (.i .i64 (.i .i64 (.i .i64 (.i .i64 (.i .i64 (.i .i64 (.i .i64 (.b (.s (.b (.s (.s .nil))))))))))))) (.v M0),.si .i64 (.v M4),Z1,.su B001 M0 M1 M1 M37,Z0,.sn,.sn,.su B002 M0 M0 M1 M6,.sl B003 M0 M1 M1,.sn])),(B001,(.cells [Z0,Z0,.b false,.s [],.b false,.s [],.b false,.s [],.b false,.s [],.b false,.s [],.b false,.s [],.b false,.s [],.b false,.s [],.b false,.s [],.b false,.s [],.b false,.s [],.b false,.s [],.b false,.s [],.b false,.s [],.b false,.s [],.b false,.s [],.b false,Z0,.b true])),(B002,(.cells [Z0,Z0,Z0,Z0,.sn,.sn])),(B003,(.cells [Z0,Z0,Z0]))],B004⟩
def sAz : Lit := ⟨[(.x0,.x0,(.c (.ds (.i .u8 .nil) (.v M50)))),(.x0,.x1,(.c (.ds (.i .u8 .nil) (.v M51)))),(.x0,.x5,(.c (.p B000 M0))),(.x0,.x6,(.c Z1)),(.x0,.x7,(.c (.b true)))],[(B000,(.cells [Z1,Z2,Z1,.ds (.i .i64 (.i .i64 (.i .i64 (.i .i64 (.i .i64 (.i .i64 (.i .i64 (.i .i64 (.b (.s (.b (.s (.s .nil))))))))))))) (.v M0),.si .i64 (.v M4),Z1,.su B001 M0 M1 M1 M37,Z0,.sn,.sn,.su B002 M0 M0 M1 M6,.sl B003 M0 M1 M1,.sn])),(B001,(.cells [Z0,Z0,.b false,.s [],.b false,.s [],.b false,.s [],.b false,.s [],.b false,.s [],.b false,.s [],.b false,.s [],.b false,.s [],.b false,.s [],.b false,.s [],.b false,.s [],.b false,.s [],.b false,.s [],.b false,.s [],.b false,.s [],.b false,.s [],.b false,Z0,.b true])),(B002,(.cells [Z0,Z0,Z0,Z0,.sn,.sn])),(B003,(.cells [Z0,Z0,Z0]))],B004⟩
def sBz : Lit := ⟨[(.x0,.x0,(.c (.ds (.i .u8 .nil) (.v M50)))),(.x0,.x1,(.c (.ds (.i .u8 .nil) (.v M51)))),(.x0,.x5,(.c (.p B000 M0))),(.x0,.x6,(.c Z1)),(.x0,.x8,(.c Z2)),(.x0,.xa,(.c (.p B001 M0)))],[(B000,(.cells [Z1,Z3,Z1,.ds (.i .i64 (.i .i64 (.i .i64 (.i .i64 (.i .i64 (.i .i64 (.i .i64 (.i .i64 (.b (.s (.b (.s (.s .nil))))))))))))) (.v M0),.si .i64 (.v M4),Z1,.su B002 M0 M1 M1 M37,Z0,.sn,.sn,.su B003 M0 M1 M1 M6,.sl B004 M0 M1 M1,.sn])),(B001,(.cells [.b false,.b false,.b false,.b false])),(B002,(.cells [Z0,Z0,.b false,.s [],.b false,.s [],.b false,.s [],.b false,.s [],.b false,.s [],.b false,.s [],.b false,.s [],.b false,.s [],.b false,.s [],.b false,.s [],.b false,.s [],.b false,.s [],.b false,.s [],.b false,.s [],.b false,.s [],.b false,.s [],.b false,Z0,.b true])),(B003,(.cells [Z2,Z1,Z0,Z0,.sn,.sn])),(B004,(.cells [Z0,Z0,Z0]))],B005⟩
def sHz : Lit := ⟨[(.x0,.x0,(.c (.ds (.i .u8 .nil) (.v M50)))),(.x0,.x5,(.c (.p B000 M0))),(.x0,.x6,(.c Z1)),(.x0,.x8,(.c Z2)),(.x0,.xa,(.c (.p B001 M0))),(.x4,.x4,(.c (.ds (.i .u8 .nil) (.v M52)))),(.x4,.x5,(.c (.si .i64 (.v M8)))),(.x4,.x6,(.c (.si .i64 (.v M7))))],[(B000,(.cells [Z1,Z3,Z1,.ds (.i .i64 (.i .i64 (.i .i64 (.i .i64 (.i .i64 (.i .i64 (.i .i64 (.i .i64 (.b (.s (.b (.s (.s .nil))))))))))))) (.v M0),.si .i64 (.v M4),Z1,.su B002 M0 M1 M1 M37,Z0,.sn,.sn,.su B003 M0 M1 M1 M6,.sl B004 M0 M1 M1,.sn])),(B001,(.cells [.b false,.b false,.b false,.b false])),(B002,(.cells [Z0,Z0,.b false,.s [],.b false,.s [],.b false,.s [],.b false,.s [],.b false,.s [],.b false,.s [],.b false,.s [],.b false,.s [],.b false,.s [],.b false,.s [],.b false,.s [],.b false,.s [],.b false,.s [],.b false,.s [],.b false,.s [],.b false,.s [],.b false,Z0,.b true])),(B003,(.cells [Z2,Z1,Z0,Z0,.sn,.sn])),(B004,(.cells [Z0,Z0,Z0]))],B005⟩
def sXz : Lit := ⟨[(.x0,.x0,(.c (.ds (.i .u8 .nil) (.v M50)))),(.x0,.x5,(.c (.p B000 M0))),(.x0,.x6,(.c Z1)),(.x0,.x8,(.c Z2)),(.x0,.xa,(.c (.p B001 M0)))],[(B000,(.cells [Z1,Z3,Z1,.ds (.i .i64 (.i .i64 (.i .i64 (.i .i64 (.i .i64 (.i .i64 (.i .i64 (.i .i64 (.b (.s (.b (.s (.s .nil))))))))))))) (.v M0),.si .i64 (.v M4),Z1,.su B002 M0 M1 M1 M37,Z0,.sn,.sn,.su B003 M0 M1 M1 M6,.sl B004 M0 M1 M1,.sn])),(B001,(.cells [.b false,.b false,.b false,.b false])),(B002,(.cells [Z0,Z0,.b false,.s [],.b false,.s [],.b false,.s [],.b false,.s [],.b false,.s [],.b false,.s [],.b false,.s [],.b false,.s [],.b false,.s [],.b false,.s [],.b false,.s [],.b false,.s [],.b false,.s [],.b false,.s [],.b false,.s [],.b false,.s [],.b false,Z0,.b true])),(B003,(.cells [Z2,Z1,Z0,Z0,.sn,.sn])),(B004,(.cells [Z0,Z0,Z0]))],B005⟩
def fb4z : List Fc := [.rng (.f1 M5 (.v M0)) J0 J0,.rng (.v M2) J0 J0,.rng (.v M4) J0 J0,.rng (.f1 M5 (.v M1)) J0 J0,.dif (.v M2) (.f1 M5 (.v M0)) J0 J0,.pr M1 [(.v M0)],.pr M3 [(.v M1),(.v M2)]]
def fb4p : List Fc := [.rng (.f1 M5 (.v M0)) J1 J900,.rng (.v M2) J1 J900,.rng (.v M3) J1 J900,.rng (.v M4) J0 J0,.rng (.f1 M5 (.v M1)) J0 J900,.dif (.v M2) (.f1 M5 (.v M0)) J0 J0,.dif (.v M3) (.f1 M5 (.v M0)) J0 J0,.dif (.v M4) (.f1 M5 (.v M0)) (Int.negSucc M899) (Int.negSucc M0),.dif (.f1 M5 (.v M1)) (.f1 M5 (.v M0)) (Int.negSucc M899) J0,.pr M1 [(.v M0)],.pr M3 [(.v M1),(.v M2)],.pr M2 [(.v M20),(.v M21)],.pr M2 [(.v M22),(.v M23)],.pr M2 [(.v M24),(.v M25)],.pr M2 [(.v M26),(.v M27)]]
def fb4 (k : Nat) : List Fc := match k with
  | 0 => fb4z
  | _ + 1 => fb4p
def fIn1 : List Fc := [.rng (.v M7) J0 J30,.rng (.v M8) J0 J30,.rng (.f1 M5 (.v M50)) J0 J30,.dif (.v M7) (.v M8) (Int.negSucc M29) (Int.negSucc M0),.dif (.v M7) (.f1 M5 (.v M50)) (Int.negSucc M29) (Int.negSucc M0)]
def fOut1 : List Fc := [.rng (.v M7) J0 J30,.rng (.v M8) J0 J30,.rng (.f1 M5 (.v M50)) J0 J30,.dif (.v M7) (.v M8) J0 J0]
def fIn : List Fc := [.rng (.v M7) J0 J44,.rng (.v M8) J4 J44,.rng (.f1 M5 (.v M52)) J4 J44,.dif (.v M7) (.v M8) (Int.negSucc M43) (Int.negSucc M0),.dif (.v M7) (.f1 M5 (.v M52)) (Int.negSucc M43) (Int.negSucc M0)]
def fOut : List Fc := [.rng (.v M7) J0 J44,.rng (.v M8) J4 J44,.rng (.f1 M5 (.v M52)) J4 J44,.dif (.v M7) (.v M8) J0 J0]
def fS : List Fc := [.rng (.f1 M5 (.v M0)) J2 J900,.rng (.v M2) J1 J900,.rng (.v M5) J0 J900,.rng (.v M3) J1 J900,.rng (.v M4) J0 J0,.dif (.v M2) (.f1 M5 (.v M0)) (Int.negSucc M899) J0,.dif (.v M5) (.f1 M5 (.v M0)) (Int.negSucc M899) J0,.dif (.v M3) (.f1 M5 (.v M0)) (Int.negSucc M899) J0,.dif (.v M4) (.f1 M5 (.v M0)) (Int.negSucc M899) (Int.negSucc M0),.rng (.f1 M5 (.v M1)) J0 J900,.dif (.f1 M5 (.v M1)) (.f1 M5 (.v M0)) (Int.negSucc M899) J0,.rng (.f1 M5 (.v M9)) J0 J900,.dif (.f1 M5 (.v M9)) (.f1 M5 (.v M0)) (Int.negSucc M899) J0,.pr M1 [(.v M0)],.pr M3 [(.v M1),(.v M2)],.pr M3 [(.v M9),(.v M5)],.pr M2 [(.v M20),(.v M21)],.pr M2 [(.v M22),(.v M23)],.pr M2 [(.v M24),(.v M25)],.pr M2 [(.v M26),(.v M27)]]
def fBg : List Fc := [.rng (.f1 M5 (.v M0)) J2 J900,.rng (.v M2) J1 J900,.rng (.v M3) J1 J900,.rng (.v M4) J0 J0,.dif (.v M2) (.f1 M5 (.v M0)) (Int.negSucc M899) J0,.dif (.v M3) (.f1 M5 (.v M0)) (Int.negSucc M899) J0,.dif (.v M4) (.f1 M5 (.v M0)) (Int.negSucc M899) (Int.negSucc M0),.rng (.f1 M5 (.v M1)) J0 J900,.dif (.f1 M5 (.v M1)) (.f1 M5 (.v M0)) (Int.negSucc M899) J0,.pr M1 [(.v M0)],.pr M3 [(.v M1),(.v M2)],.pr M2 [(.v M20),(.v M21)],.pr M2 [(.v M22),(.v M23)],.pr M2 [(.v M24),(.v M25)],.pr M2 [(.v M26),(.v M27)]]
def fI : List Fc := [.rng (.v M12) J0 J30,.rng (.f1 M5 (.v M50)) J1 J30,.dif (.v M12) (.f1 M5 (.v M50)) (Int.negSucc M29) J0]
def fSb : List Fc := [.rng (.f2 M100 (.v M52) (.v M7)) J201 J255,.rng (.f2 M3 (.f2 M100 (.v M52) (.v M7)) (.num J4)) J0 J3]
def fQ0 : List Fc := [.rng (.f1 M5 (.v M1)) J0 J0]
def fN21 : List Fc := [.rng (.v M12) J0 J1]
def fF : List Fc := [.rng (.f1 M5 (.v M50)) J1 J30]
def fEnd : List Fc := [.rng (.v M3) J1 J900]
def f00 : List Fc := [.pr M3 [(.v M1),(.v M2)],.rng (.f1 M5 (.v M1)) J0 J0,.rng (.v M2) J0 J0,.rng (.f1 M5 (.v M0)) J0 J0,.rng (.v M4) J0 J0,.pr M1 [(.v M0)]]
def fO0 : List Fc := [.rng (.f1 M5 (.v M50)) J0 J0,.rng (.v M7) J0 J30,.rng (.v M8) J0 J30,.rng (.f1 M5 (.v M50)) J0 J30,.dif (.v M7) (.v M8) J0 J0]
def tYab : Nm := (.f2 M1403 (.v M0) (.f2 M1410 (.f2 M1000 (.f1 M5 (.v M0)) (.num J1)) (.f2 M1410 (.num J4) (.f2 M1410 (.num J1) (.f2 M1410 (.v M2) (.f2 M1410 (.num J0) (.f2 M1410 (.num J0) (.f2 M1410 (.num J0) (.f2 M1410 (.num J0) (.f2 M1412 (.f1 M9 (.num J0)) (.f2 M1411 (.lit []) (.f2 M1412 (.f1 M9 (.num J0)) (.f2 M1411 (.lit []) (.f2 M1411 (.lit []) (.f1 M8 (.num J0))))))))))))))))
def fAB (k : Nat) : List Fc := [.pr M5 [tYab,(.v M1),(.num (Int.ofNat k))]]
def fPS (a : Nat) : List Fc := [.pr M5 [.v M0,.v M1,.num (Int.ofNat a)]]
abbrev tQ : Nm := (.f2 M1000 (.f1 M5 (.v M1)) (.num (Int.negSucc M0)))
abbrev tT : Nm := (.f2 M100 (.v M1) tQ)
abbrev tU : Nm := (.f2 M1000 tT (.num (Int.negSucc M0)))
abbrev tE (o : Nat) : Nm := .f2 o (.v M0) tU
abbrev tD : Nm := .f2 M1404 (.v M1) tQ
abbrev tK (s : Nat) : Nm := (.f2 M2005 (.f2 M2006 (.v M0) (.v M1)) (.num (Int.ofNat s)))
abbrev tJ (s o : Nat) : Nm := .f2 o (.v M0) (tK s)
abbrev tA (s : Nat) : Nm := .f2 M2007 (.v M1) (tJ s M100)
abbrev tG (s : Nat) : Nm := .f2 M1404 (.v M1) (tA s)
def fg10 (s : Nat) : List Fc := [.rng (.f2 M3 (.f2 M100 (.v M50) (.v M7)) (.num J4)) (Int.ofNat s) (Int.ofNat s),.rng (.f2 M100 (.v M50) (.v M7)) J0 J200,.rng (.f2 M3 (.f2 M100 (.v M50) (.v M7)) (.num J26)) J0 J25,.rng (.f1 M6 (.f1 M10 (.f2 M1000 (.f2 M3 (.f2 M100 (.v M50) (.v M7)) (.num J26)) (.num J97)))) J1 J1]
def fg11 (s : Nat) : List Fc := [.rng (.f2 M3 (.f2 M100 (.v M50) (.v M7)) (.num J4)) (Int.ofNat s) (Int.ofNat s),.rng (.f2 M100 (.v M50) (.v M7)) J201 J255,.rng (.f2 M3 (.f2 M100 (.v M50) (.v M7)) (.num J26)) J0 J25,.rng (.f1 M6 (.f1 M10 (.f2 M1000 (.f2 M3 (.f2 M100 (.v M50) (.v M7)) (.num J26)) (.num J97)))) J1 J1]
def fWb (s : Nat) : List Fc := [.rng (.f2 M100 (.v M52) (.v M7)) J0 J200,.rng (.f2 M3 (.f2 M100 (.v M52) (.v M7)) (.num J4)) (Int.ofNat s) (Int.ofNat s)]
def fgC (s a k2 : Nat) : List Fc := [.rng (.f1 M5 (.v M1)) J1 J900,.rng (tJ s M100) J1 J900,.dif (tJ s M100) (.v M2) (Int.negSucc M899) J0,.dif (tJ s M100) (.f1 M5 (.v M0)) (Int.negSucc M899) J0,.pr M2 [(tJ s M108),(tJ s M109)],.pr M2 [(tJ s M110),(tJ s M111)],.rng (tA s) J0 J900,.dif (tA s) (.f1 M5 (.v M1)) (Int.negSucc M899) (Int.negSucc M0),.pr M4 [(.v M1),(tJ s M100),(tA s)],.pr M5 [(.v M0),(.v M1),(.num (Int.ofNat a))],.pr M5 [(.v M0),(tG s),(.num (Int.ofNat k2))]]
def fgD (s k2 : Nat) : List Fc := [.rng (.f1 M5 (.v M1)) J1 J900,.rng tT J1 J900,.dif tT (.f1 M5 (.v M0)) (Int.negSucc M899) J0,.dif tT (.v M2) (Int.negSucc M899) J0,.rng (tE M100) J1 J900,.dif (tE M100) tT J0 J0,.dif (tE M100) (.v M2) (Int.negSucc M899) J0,.dif (tE M100) (.f1 M5 (.v M0)) (Int.negSucc M899) J0,.rng (tE M106) J0 J0,.rng (tE M107) (Int.ofNat s) (Int.ofNat s),.pr M2 [(tE M108),(tE M109)],.pr M2 [(tE M110),(tE M111)],.pr M4 [(.v M1),(tE M100),tQ],.pr M5 [(.v M0),tD,(.num (Int.ofNat k2))]]
def pN (l : List Nat) : List (Nat × Nm) := l.map fun n => (n,.v n)
def pU (i : Nat) (t : Nm) (l : List Nat) : List (Nat × Nm) := l.map fun n => (n,bif Nat.beq n i then t else .v n)
def pD (i : Nat) (t e : Nm) (l : List Nat) : List (Nat × Nm) := l.map fun n => (n,bif Nat.beq n i then t else e)
def r1_00 (s : Nat) : Rn := ⟨[(M2,(.num J1))] ++ [(M3,(.num J1))] ++ pN [4] ++ [(M7,(.f2 M1000 (.v M7) (.num J1)))] ++ pN [8],pD (21 + 2 * s) (.f1 M10 (.f2 M1000 (.f2 M3 (.f2 M100 (.v M50) (.v M7)) (.num J26)) (.num J97))) (.lit []) [21,23,25,27],pD (20 + 2 * s) (.f1 M9 (.num J1)) (.f1 M9 (.num J0)) [20,22,24,26],[(M0,(.f2 M1403 (.f1 M7 (.num J0)) (.f2 M1410 (.num J1) (.f2 M1410 (.num J1) (.f2 M1410 (.num J1) (.f2 M1410 (.v M2) (.f2 M1410 (.num J0) (.f2 M1410 (.num J0) (.f2 M1410 (.num J0) (.f2 M1410 (.num (Int.ofNat s)) (.f2 M1412 (.f1 M9 (.num J0)) (.f2 M1411 (.lit []) (.f2 M1412 (.f1 M9 (.num J1)) (.f2 M1411 (.f1 M10 (.f2 M1000 (.f2 M3 (.f2 M100 (.v M50) (.v M7)) (.num J26)) (.num J97))) (.f2 M1411 (.lit []) (.f1 M8 (.num J0)))))))))))))))))] ++ [(M1,(.f2 M1403 (.f1 M7 (.num J0)) (.f2 M1410 (.num J1) (.f1 M8 (.num J0)))))] ++ pN [50],[]⟩
def r1_01 (s : Nat) : Rn := ⟨[(M2,(.num J1))] ++ [(M3,(.num J1))] ++ pN [4] ++ [(M7,(.f2 M1000 (.v M7) (.num J1)))] ++ pN [8],pD (21 + 2 * s) (.lit []) (.lit []) [21,23,25,27],pD (20 + 2 * s) (.f1 M9 (.num J0)) (.f1 M9 (.num J0)) [20,22,24,26],[(M0,(.f2 M1403 (.f1 M7 (.num J0)) (.f2 M1410 (.num J1) (.f2 M1410 (.num J1) (.f2 M1410 (.num J1) (.f2 M1410 (.v M2) (.f2 M1410 (.num J0) (.f2 M1410 (.num J0) (.f2 M1410 (.num J0) (.f2 M1410 (.num (Int.ofNat s)) (.f2 M1412 (.f1 M9 (.num J0)) (.f2 M1411 (.lit []) (.f2 M1412 (.f1 M9 (.num J0)) (.f2 M1411 (.lit []) (.f2 M1411 (.lit []) (.f1 M8 (.num J0)))))))))))))))))] ++ [(M1,(.f2 M1403 (.f1 M7 (.num J0)) (.f2 M1410 (.num J1) (.f1 M8 (.num J0)))))] ++ pN [50],[]⟩
def r1_10 (s : Nat) : Rn := ⟨[(M2,(.f2 M1000 (.f1 M5 (.v M0)) (.num J1)))] ++ [(M3,(.f2 M1000 (.f1 M5 (.v M0)) (.num J1)))] ++ pN [4] ++ [(M7,(.f2 M1000 (.v M7) (.num J1)))] ++ pN [8],pU (21 + 2 * s) (.f1 M10 (.f2 M1000 (.f2 M3 (.f2 M100 (.v M50) (.v M7)) (.num J26)) (.num J97))) [21,23,25,27],pU (20 + 2 * s) (.f1 M9 (.num J1)) [20,22,24,26],[(M0,(.f2 M1403 (.v M0) (.f2 M1410 (.f2 M1000 (.f1 M5 (.v M0)) (.num J1)) (.f2 M1410 (.num J1) (.f2 M1410 (.num J1) (.f2 M1410 (.v M2) (.f2 M1410 (.v M3) (.f2 M1410 (.num J0) (.f2 M1410 (.num J0) (.f2 M1410 (.num (Int.ofNat s)) (.f2 M1412 (.v (20 + 2 * s)) (.f2 M1411 (.v (21 + 2 * s)) (.f2 M1412 (.f1 M9 (.num J1)) (.f2 M1411 (.f1 M10 (.f2 M1000 (.f2 M3 (.f2 M100 (.v M50) (.v M7)) (.num J26)) (.num J97))) (.f2 M1411 (.lit []) (.f1 M8 (.num J0)))))))))))))))))] ++ [(M1,(.f2 M1403 (.v M1) (.f2 M1410 (.f2 M1000 (.f1 M5 (.v M0)) (.num J1)) (.f1 M8 (.num J0)))))] ++ pN [50],[]⟩
def r1_11 (s : Nat) : Rn := ⟨[(M2,(.f2 M1000 (.f1 M5 (.v M0)) (.num J1)))] ++ [(M3,(.f2 M1000 (.f1 M5 (.v M0)) (.num J1)))] ++ pN [4] ++ [(M7,(.f2 M1000 (.v M7) (.num J1)))] ++ pN [8],pU (21 + 2 * s) (.lit []) [21,23,25,27],pU (20 + 2 * s) (.f1 M9 (.num J0)) [20,22,24,26],[(M0,(.f2 M1403 (.v M0) (.f2 M1410 (.f2 M1000 (.f1 M5 (.v M0)) (.num J1)) (.f2 M1410 (.num J1) (.f2 M1410 (.num J1) (.f2 M1410 (.v M2) (.f2 M1410 (.v M3) (.f2 M1410 (.num J0) (.f2 M1410 (.num J0) (.f2 M1410 (.num (Int.ofNat s)) (.f2 M1412 (.v (20 + 2 * s)) (.f2 M1411 (.v (21 + 2 * s)) (.f2 M1412 (.f1 M9 (.num J0)) (.f2 M1411 (.lit []) (.f2 M1411 (.lit []) (.f1 M8 (.num J0)))))))))))))))))] ++ [(M1,(.f2 M1403 (.v M1) (.f2 M1410 (.f2 M1000 (.f1 M5 (.v M0)) (.num J1)) (.f1 M8 (.num J0)))))] ++ pN [50],[]⟩
def r1 (k s d : Nat) : Rn := match k,d with
  | 0,0 => r1_00 s
  | 0,_ => r1_01 s
  | _ + 1,0 => r1_10 s
  | _ + 1,_ => r1_11 s
def rcl (s : Nat) : Rn := ⟨[(M2,(.f2 M1000 (.f1 M5 (.v M0)) (.num J1)))] ++ [(M3,(.f2 M1000 (.f1 M5 (.v M0)) (.num J1)))] ++ pN [4,5,7,8] ++ [(M12,(.f2 M1000 (.v M12) (.num J1)))],pU (21 + 2 * s) (tJ s M109) [21,23,25,27],pU (20 + 2 * s) (tJ s M108) [20,22,24,26],[(M0,(.f2 M1403 (.v M0) (.f2 M1410 (.f2 M1000 (.f1 M5 (.v M0)) (.num J1)) (.f2 M1410 (.num J2) (.f2 M1410 (.num J1) (.f2 M1410 (.v M2) (.f2 M1410 (.v M3) (.f2 M1410 (tJ s M100) (.f2 M1410 (.num J0) (.f2 M1410 (.num (Int.ofNat s)) (.f2 M1412 (tJ s M110) (.f2 M1411 (tJ s M111) (.f2 M1412 (tJ s M108) (.f2 M1411 (tJ s M109) (.f2 M1411 (.lit []) (.f1 M8 (.num J0)))))))))))))))))] ++ [(M1,(tG s))] ++ pN [9,50,52],[]⟩
def rd (s : Nat) : Rn := ⟨[(M2,(.f2 M1000 (.f1 M5 (.v M0)) (.num J1)))] ++ [(M3,(.f2 M1000 (.f1 M5 (.v M0)) (.num J1)))] ++ pN [4,5] ++ [(M7,(.f2 M1000 (.v M7) (.num J1)))] ++ pN [8],pU (21 + 2 * s) (tE M109) [21,23,25,27],pU (20 + 2 * s) (tE M108) [20,22,24,26],[(M0,(.f2 M1403 (.v M0) (.f2 M1410 (.f2 M1000 (.f1 M5 (.v M0)) (.num J1)) (.f2 M1410 (.num J2) (.f2 M1410 (.num J1) (.f2 M1410 (.v M2) (.f2 M1410 (.v M3) (.f2 M1410 (tE M100) (.f2 M1410 (.num J0) (.f2 M1410 (.num (Int.ofNat s)) (.f2 M1412 (tE M110) (.f2 M1411 (tE M111) (.f2 M1412 (tE M108) (.f2 M1411 (tE M109) (.f2 M1411 (.lit []) (.f1 M8 (.num J0)))))))))))))))))] ++ [(M1,tD)] ++ pN [9,50,52],[]⟩
def rr (s : Nat) : Rn := ⟨pN [2] ++ [(M3,(.f2 M1000 (.f1 M5 (.v M0)) (.num J1)))] ++ pN [4] ++ [(M5,(.f2 M1000 (.f1 M5 (.v M0)) (.num J1)))] ++ pN [7,8],pU (21 + 2 * s) (.lit [M109,M105,M110,M101]) [21,23,25,27],pU (20 + 2 * s) (.f1 M9 (.num J1)) [20,22,24,26],[(M0,(.f2 M1403 (.v M0) (.f2 M1410 (.f2 M1000 (.f1 M5 (.v M0)) (.num J1)) (.f2 M1410 (.num J1) (.f2 M1410 (.num J2) (.f2 M1410 (.v M5) (.f2 M1410 (.v M3) (.f2 M1410 (.num J0) (.f2 M1410 (.num J0) (.f2 M1410 (.num (Int.ofNat s)) (.f2 M1412 (.v (20 + 2 * s)) (.f2 M1411 (.v (21 + 2 * s)) (.f2 M1412 (.f1 M9 (.num J1)) (.f2 M1411 (.lit [M109,M105,M110,M101]) (.f2 M1411 (.lit []) (.f1 M8 (.num J0)))))))))))))))))] ++ pN [1] ++ [(M9,(.f2 M1403 (.v M9) (.f2 M1410 (.f2 M1000 (.f1 M5 (.v M0)) (.num J1)) (.f1 M8 (.num J0)))))] ++ pN [50,52],[]⟩
def rx1 : Rn := ⟨[(M2,(.v M2)),(M3,(.v M3)),(M4,(.v M4))],[(M21,(.v M21)),(M23,(.v M23)),(M25,(.v M25)),(M27,(.v M27))],[(M20,(.v M20)),(M22,(.v M22)),(M24,(.v M24)),(M26,(.v M26))],[(M0,(.v M0)),(M1,(.v M1))],[]⟩
def rab : Rn := ⟨[(M2,(.f2 M1000 (.f1 M5 (.v M0)) (.num J1))),(M3,(.v M3)),(M4,(.v M4))],[(M21,(.v M21)),(M23,(.v M23)),(M25,(.v M25)),(M27,(.v M27))],[(M20,(.v M20)),(M22,(.v M22)),(M24,(.v M24)),(M26,(.v M26))],[(M0,(.f2 M1403 (.v M0) (.f2 M1410 (.f2 M1000 (.f1 M5 (.v M0)) (.num J1)) (.f2 M1410 (.num J4) (.f2 M1410 (.num J1) (.f2 M1410 (.v M2) (.f2 M1410 (.num J0) (.f2 M1410 (.num J0) (.f2 M1410 (.num J0) (.f2 M1410 (.num J0) (.f2 M1412 (.f1 M9 (.num J0)) (.f2 M1411 (.lit []) (.f2 M1412 (.f1 M9 (.num J0)) (.f2 M1411 (.lit []) (.f2 M1411 (.lit []) (.f1 M8 (.num J0))))))))))))))))),(M1,(.v M1))],[]⟩
def rA : Rn := ⟨[(M2,(.v M2)),(M3,(.v M3)),(M4,(.v M4))],[(M21,(.v M21)),(M23,(.v M23)),(M25,(.v M25)),(M27,(.v M27))],[(M20,(.v M20)),(M22,(.v M22)),(M24,(.v M24)),(M26,(.v M26))],[(M0,(.v M0)),(M1,(.v M1)),(M50,(.v M50)),(M51,(.v M51))],[]⟩
def rBg : Rn := ⟨[(M2,(.v M2)),(M3,(.v M3)),(M4,(.v M4)),(M5,(.num J0))],[(M21,(.v M21)),(M23,(.v M23)),(M25,(.v M25)),(M27,(.v M27))],[(M20,(.v M20)),(M22,(.v M22)),(M24,(.v M24)),(M26,(.v M26))],[(M0,(.v M0)),(M1,(.v M1)),(M9,(.f1 M7 (.num J0))),(M50,(.v M50)),(M51,(.v M51))],[]⟩
def rS : Rn := ⟨[(M2,(.num J0)),(M4,(.num J0)),(M7,(.num J0)),(M8,(.f1 M5 (.v M50)))],[],[],[(M0,(.f1 M7 (.num J0))),(M1,(.f1 M7 (.num J0))),(M50,(.v M50))],[]⟩
def rP : Rn := ⟨[],[],[],[(M50,(.v M50)),(M51,(.v M51))],[]⟩
def rPc : Rn := ⟨[],[],[],[(M50,(.v M50)),(M51,(.v M51))],[]⟩
def re : Rn := ⟨[(M2,(.v M2)),(M3,(.v M3)),(M4,(.v M4)),(M5,(.v M5)),(M7,(.v M7)),(M8,(.v M8)),(M12,(.num J0))],[(M21,(.v M21)),(M23,(.v M23)),(M25,(.v M25)),(M27,(.v M27))],[(M20,(.v M20)),(M22,(.v M22)),(M24,(.v M24)),(M26,(.v M26))],[(M0,(.v M0)),(M1,(.v M1)),(M9,(.v M9)),(M50,(.v M50)),(M52,(.v M52))],[]⟩
def rp : Rn := ⟨[(M2,(.v M2)),(M3,(.v M3)),(M4,(.v M4)),(M5,(.v M5)),(M7,(.v M7)),(M8,(.v M8))],[(M21,(.v M21)),(M23,(.v M23)),(M25,(.v M25)),(M27,(.v M27))],[(M20,(.v M20)),(M22,(.v M22)),(M24,(.v M24)),(M26,(.v M26))],[(M0,(.v M0)),(M1,(.v M1)),(M9,(.v M9)),(M50,(.v M50)),(M52,(.v M52))],[]⟩
def ri : Rn := ⟨[(M2,(.v M2)),(M3,(.v M3)),(M4,(.v M4)),(M5,(.v M5)),(M7,(.f2 M1000 (.v M7) (.num J1))),(M8,(.v M8))],[(M21,(.v M21)),(M23,(.v M23)),(M25,(.v M25)),(M27,(.v M27))],[(M20,(.v M20)),(M22,(.v M22)),(M24,(.v M24)),(M26,(.v M26))],[(M0,(.v M0)),(M1,(.v M1)),(M9,(.v M9)),(M50,(.v M50)),(M52,(.v M52))],[]⟩
def rg : Rn := ⟨[(M3,(.v M3)),(M4,(.v M4)),(M5,(.v M5)),(M7,(.f2 M1000 (.v M7) (.num J1))),(M8,(.v M8))],[(M21,(.v M21)),(M23,(.v M23)),(M25,(.v M25)),(M27,(.v M27))],[(M20,(.v M20)),(M22,(.v M22)),(M24,(.v M24)),(M26,(.v M26))],[(M0,(.f2 M1403 (.v M0) (.f2 M1410 (.f2 M1000 (.f1 M5 (.v M0)) (.num J1)) (.f2 M1410 (.num J5) (.f2 M1410 (.num J1) (.f2 M1410 (.v M2) (.f2 M1410 (.num J0) (.f2 M1410 (.num J0) (.f2 M1410 (.num J0) (.f2 M1410 (.num J0) (.f2 M1412 (.f1 M9 (.num J0)) (.f2 M1411 (.lit []) (.f2 M1412 (.f1 M9 (.num J0)) (.f2 M1411 (.lit []) (.f2 M1411 (.lit []) (.f1 M8 (.num J0))))))))))))))))),(M9,(.v M9)),(M50,(.v M50)),(M52,(.v M52))],[]⟩
def rov : Rn := ⟨[(M3,(.v M3)),(M4,(.v M4)),(M5,(.v M5))],[(M21,(.v M21)),(M23,(.v M23)),(M25,(.v M25)),(M27,(.v M27))],[(M20,(.v M20)),(M22,(.v M22)),(M24,(.v M24)),(M26,(.v M26))],[(M0,(.v M0)),(M9,(.v M9)),(M50,(.v M50))],[]⟩
def rh : Rn := ⟨[(M2,(.v M2)),(M3,(.v M3)),(M4,(.v M4)),(M5,(.v M5))],[(M21,(.v M21)),(M23,(.v M23)),(M25,(.v M25)),(M27,(.v M27))],[(M20,(.v M20)),(M22,(.v M22)),(M24,(.v M24)),(M26,(.v M26))],[(M0,(.v M0)),(M1,(.v M1)),(M9,(.v M9)),(M50,(.v M50))],[]⟩
def rj : Rn := ⟨[(M2,(.v M2)),(M3,(.v M3)),(M4,(.v M4)),(M5,(.v M5)),(M12,(.num J0))],[(M21,(.v M21)),(M23,(.v M23)),(M25,(.v M25)),(M27,(.v M27))],[(M20,(.v M20)),(M22,(.v M22)),(M24,(.v M24)),(M26,(.v M26))],[(M0,(.v M0)),(M1,(.v M1)),(M9,(.v M9)),(M50,(.v M50))],[]⟩
def rk : Rn := ⟨[(M3,(.v M3)),(M4,(.v M4)),(M5,(.v M5)),(M12,(.f2 M1000 (.v M12) (.num J1)))],[(M21,(.v M21)),(M23,(.v M23)),(M25,(.v M25)),(M27,(.v M27))],[(M20,(.v M20)),(M22,(.v M22)),(M24,(.v M24)),(M26,(.v M26))],[(M0,(.f2 M1403 (.v M0) (.f2 M1410 (.f2 M1000 (.f1 M5 (.v M0)) (.num J1)) (.f2 M1410 (.num J5) (.f2 M1410 (.num J1) (.f2 M1410 (.v M2) (.f2 M1410 (.num J0) (.f2 M1410 (.num J0) (.f2 M1410 (.num J0) (.f2 M1410 (.num J0) (.f2 M1412 (.f1 M9 (.num J0)) (.f2 M1411 (.lit []) (.f2 M1412 (.f1 M9 (.num J0)) (.f2 M1411 (.lit []) (.f2 M1411 (.lit []) (.f1 M8 (.num J0))))))))))))))))),(M9,(.v M9)),(M50,(.v M50))],[]⟩
def rl : Rn := ⟨[(M3,(.v M3)),(M4,(.v M4)),(M5,(.v M5)),(M12,(.num J0))],[(M21,(.v M21)),(M23,(.v M23)),(M25,(.v M25)),(M27,(.v M27))],[(M20,(.v M20)),(M22,(.v M22)),(M24,(.v M24)),(M26,(.v M26))],[(M0,(.v M0)),(M9,(.v M9)),(M50,(.v M50))],[]⟩
def rq : Rn := ⟨[(M3,(.v M3)),(M4,(.v M4)),(M5,(.v M5))],[(M21,(.v M21)),(M23,(.v M23)),(M25,(.v M25)),(M27,(.v M27))],[(M20,(.v M20)),(M22,(.v M22)),(M24,(.v M24)),(M26,(.v M26))],[(M0,(.v M0)),(M9,(.v M9)),(M50,(.v M50))],[]⟩
def rx10 : Rn := ⟨[(M2,(.v M2)),(M4,(.v M4))],[],[],[(M0,(.v M0)),(M1,(.v M1))],[]⟩
def rCz : Rn := ⟨[(M4,(.v M4))],[],[],[(M0,(.v M0))],[]⟩
def rAz : Rn := ⟨[(M4,(.v M4))],[],[],[(M0,(.v M0)),(M50,(.v M50)),(M51,(.v M51))],[]⟩
def rBz : Rn := ⟨[(M4,(.v M4))],[],[],[(M0,(.v M0)),(M50,(.v M50)),(M51,(.v M51))],[]⟩
def rXz : Rn := ⟨[(M4,(.v M4))],[],[],[(M0,(.v M0)),(M50,(.v M50))],[]⟩
def fA : List Fc := [.rng (.f1 M5 (.v M50)) J31 J9223372036854775807]
def fBb : List Fc := [.rng (.f1 M5 (.v M50)) J0 J30,.rng (.f1 M5 (.v M51)) J41 J9223372036854775807]
def fC : List Fc := [.rng (.f1 M5 (.v M50)) J0 J30,.rng (.f1 M5 (.v M51)) J0 J40]
def fC0 : List Fc := [.rng (.f1 M5 (.v M50)) J0 J30]
def subC (L : List (AC × AC)) (c : AC) : AC := match L with
  | [] => c
  | x :: l => bif decide (x.1 = c) then x.2 else subC l c
def sub5 (s : Nat) : List (AC × AC) := [(.sb (.v (20 + 2 * s)),.sb (tE M110)),(.ss (.v (21 + 2 * s)),.ss (tE M111))]
def subJ (s : Nat) : List (AC × AC) := [(.sb (.v (20 + 2 * s)),.sb (tJ s M110)),(.ss (.v (21 + 2 * s)),.ss (tJ s M111))]
def subM (b : Nat) : List (AC × AC) := (List.range 4).flatMap fun i => [(.sb (.v (20 + 2 * i)),.b (Nat.testBit b i)),(.ss (.v (21 + 2 * i)),.s (bif Nat.testBit b i then [M109,M105,M110,M101] else []))]
def k2m (k s : Nat) : Nat := Nat.xor k (2 ^ s)
def vW (b v s : Nat) : Nat := bif Nat.testBit b s then v else M2
noncomputable def run10 (k s : Nat) : Bool := endsX .nrm (r1 k s 0).nms (st1 (k ||| 2 ^ s)) (aev Tryz.prog (envR (fg10 s ++ (fIn1 ++ (fb4 k)))) (tblM (fg10 s ++ (fIn1 ++ (fb4 k)))) M12000 (chB) (st1 k).frame (st1 k).hp)
noncomputable def run11 (k s : Nat) : Bool := endsX .nrm (r1 k s 1).nms (st1 (k ||| 2 ^ s)) (aev Tryz.prog (envR (fg11 s ++ (fIn1 ++ (fb4 k)))) (tblM (fg11 s ++ (fIn1 ++ (fb4 k)))) M12000 (chB) (st1 k).frame (st1 k).hp)
noncomputable def run1x (k : Nat) : Bool := endsX (.ex M0) (rx1).nms (st1x k) (aev Tryz.prog (envR (fOut1)) (tblM (fOut1)) M12000 (chB) (st1 k).frame (st1 k).hp)
noncomputable def runAb (k : Nat) : Bool := endsX .ret (rab).nms (stCo k) (aev Tryz.prog (envR (fAB k ++ (fb4 k))) (tblM (fAB k ++ (fb4 k))) M12000 (chRe) (st1x k).frame (st1x k).hp)
noncomputable def runBg (k : Nat) : Bool := endsX .nrm (rBg).nms (sBg k) (runL Tryz.prog (envR (fBg)) (tblM (fBg)) M12000 (cutL 3 lw2) (stA k).frame (stA k).hp)
noncomputable def runEn (a b v s : Nat) : Bool := endsX .nrm (re).nms (shJ a b v s) (runL Tryz.prog (envR (fWb s ++ (fIn))) (tblM (fWb s ++ (fIn))) M12000 (cutL 2 lwB ++ (cutL 4 rdX ++ [inRi])) (sh a b v).frame (sh a b v).hp)
noncomputable def runCm (a b v s : Nat) : Bool := endsX .nrm (rcl s).nms (shJ a b v s) (aev Tryz.prog (envR (fgC s a a ++ (fI ++ (fS)))) (tblM (fgC s a a ++ (fI ++ (fS)))) M12000 (inB) ((shJ a b v s).map (subC (subJ s))).frame ((shJ a b v s).map (subC (subJ s))).hp)
noncomputable def runCd (a b v s : Nat) : Bool := endsX .nrm (rcl s).nms (shJ (k2m a s) b M1 s) (aev Tryz.prog (envR (fgC s a (k2m a s) ++ (fI ++ (fS)))) (tblM (fgC s a (k2m a s) ++ (fI ++ (fS)))) M12000 (inB) ((shJ a b v s).map (subC (subJ s))).frame ((shJ a b v s).map (subC (subJ s))).hp)
noncomputable def runDm (a b v s : Nat) : Bool := endsX .nrm (rd s).nms (sh a b v) (aev Tryz.prog (envR (fgD s a ++ (fSb ++ (fIn ++ (fS))))) (tblM (fgD s a ++ (fSb ++ (fIn ++ (fS))))) M12000 (lwB) ((sh a b v).map (subC (sub5 s))).frame ((sh a b v).map (subC (sub5 s))).hp)
noncomputable def runDd (a b v s : Nat) : Bool := endsX .nrm (rd s).nms (sh (k2m a s) b M1) (aev Tryz.prog (envR (fgD s (k2m a s) ++ (fSb ++ (fIn ++ (fS))))) (tblM (fgD s (k2m a s) ++ (fSb ++ (fIn ++ (fS))))) M12000 (lwB) ((sh a b v).map (subC (sub5 s))).frame ((sh a b v).map (subC (sub5 s))).hp)
noncomputable def runSt (a b v s : Nat) : Bool := endsX (.ex M2) (rp).nms (shX a b v s) (aev Tryz.prog (envR (fI ++ (fS ++ (fPS a)))) (tblM (fI ++ (fS ++ (fPS a)))) M12000 (inB) (shJ a b v s).frame (shJ a b v s).hp)
noncomputable def runRe (a b v s : Nat) : Bool := endsX .nrm (rr s).nms (sh a (b ||| 2 ^ s) (vW b v s)) (aev Tryz.prog (envR (fS)) (tblM (fS)) M12000 (rd3) (shX a b v s).frame (shX a b v s).hp)
noncomputable def runIn (a b v : Nat) : Bool := endsX .nrm (ri).nms (sh a b v) (aev Tryz.prog (envR (fIn)) (tblM (fIn)) M12000 (rdI) (sh a b v).frame (sh a b v).hp)
noncomputable def runFi (b v : Nat) : Bool := endsX .nrm (rg).nms (sO b) (aev Tryz.prog (envR (fQ0 ++ (fSb ++ (fIn ++ (fS))))) (tblM (fQ0 ++ (fSb ++ (fIn ++ (fS))))) M12000 (lwB) (sh 0 b v).frame (sh 0 b v).hp)
noncomputable def runHo (b v : Nat) : Bool := endsX (.ex M0) (rh).nms (shO b v) (aev Tryz.prog (envR (fOut)) (tblM (fOut)) M12000 (lwB) (sh 0 b v).frame (sh 0 b v).hp)
noncomputable def runNj (b v : Nat) : Bool := endsX .nrm (rj).nms (shN b v) (aev Tryz.prog (envR ([])) (tblM ([])) M12000 (lwRj) (shO b v).frame (shO b v).hp)
noncomputable def runF2 (b v : Nat) : Bool := endsX .nrm (rk).nms (sON b) (aev Tryz.prog (envR (fQ0 ++ (fN21 ++ (fF ++ (fS))))) (tblM (fQ0 ++ (fN21 ++ (fF ++ (fS))))) M12000 (lwF) (shN b v).frame (shN b v).hp)
noncomputable def runOi (b : Nat) : Bool := endsX (.ex M0) (rov).nms (sOx b) (aev Tryz.prog (envR (fIn)) (tblM (fIn)) M12000 (lwB) (sO b).frame (sO b).hp)
noncomputable def runOo (b : Nat) : Bool := endsX (.ex M0) (rov).nms (sOx b) (aev Tryz.prog (envR (fOut)) (tblM (fOut)) M12000 (lwB) (sO b).frame (sO b).hp)
noncomputable def runOl (b : Nat) : Bool := endsX .nrm (rl).nms (sON b) (aev Tryz.prog (envR ([])) (tblM ([])) M12000 (lwRj) (sOx b).frame (sOx b).hp)
noncomputable def runOq (b : Nat) : Bool := endsX (.ex M4) (rq).nms (sOx b) (aev Tryz.prog (envR ([])) (tblM ([])) M12000 (lwF) (sON b).frame (sON b).hp)
noncomputable def runEn_ (b : Nat) : Bool := endsX .ret (({} : Rn)).nms (sTL) (aev Tryz.prog (envR (fEnd)) (tblM (fEnd)) M12000 (lw5) ((sOx b).map (subC (subM b))).frame ((sOx b).map (subC (subM b))).hp)
def okST (a b v : Nat) : Bool := Nat.beq (a &&& b) 0 && match v with
  | 0 => Nat.beq b 0 && !Nat.beq a 0
  | 1 => !Nat.beq (a ||| b) 15
  | _ => !Nat.beq b 0
def stL : List (Nat × Nat × Nat) := (List.range 16).flatMap fun a => (List.range 16).flatMap fun b => ((List.range 3).filter fun v => okST a b v).map fun v => (a,b,v)
def stE : List ((Nat × Nat × Nat) × Nat) := stL.flatMap fun x => (subs 4 x.1).map fun s => (x,s)
def stF : List ((Nat × Nat × Nat) × Nat) := stL.flatMap fun x => ((List.range 4).filter fun s => !Nat.testBit x.1 s).map fun s => (x,s)
noncomputable def pE (x : (Nat × Nat × Nat) × Nat) : Bool := (runCm x.1.1 x.1.2.1 x.1.2.2 x.2 && runCd x.1.1 x.1.2.1 x.1.2.2 x.2) && (runDm x.1.1 x.1.2.1 x.1.2.2 x.2 && runDd x.1.1 x.1.2.1 x.1.2.2 x.2)
noncomputable def pF (x : (Nat × Nat × Nat) × Nat) : Bool := runSt x.1.1 x.1.2.1 x.1.2.2 x.2 && runRe x.1.1 x.1.2.1 x.1.2.2 x.2
noncomputable def pN' (x : (Nat × Nat × Nat) × Nat) : Bool := runEn x.1.1 x.1.2.1 x.1.2.2 x.2
noncomputable def pI (x : Nat × Nat × Nat) : Bool := runIn x.1 x.2.1 x.2.2
noncomputable def pZ (x : Nat × Nat × Nat) : Bool := (runFi x.2.1 x.2.2 && runHo x.2.1 x.2.2) && (runNj x.2.1 x.2.2 && runF2 x.2.1 x.2.2)
noncomputable def pO (b : Nat) : Bool := (runOi b && runOo b) && (runOl b && (runOq b && runEn_ b))
noncomputable def run1 (k s : Nat) : Bool := run10 k s && run11 k s
noncomputable def run1q (k : Nat) : Bool := run1x k && (runAb k && runBg k)
theorem runS : endsX .nrm (rS).nms (st1 0) (runL Tryz.prog (envR (fC0)) tblC M12000 (cutL 5 chBody ++ [chRi]) (sC0).frame (sC0).hp) = true := by kernel_rfl
theorem runTA : endsX .ret (({} : Rn)).nms (sTL) (aev Tryz.prog (envR (fA)) (tblM (fA)) M12000 (lwBody) (s0L).frame (s0L).hp) = true := by kernel_rfl
theorem runTB : endsX .ret (({} : Rn)).nms (sTL) (aev Tryz.prog (envR (fBb)) (tblM (fBb)) M12000 (lwBody) (s0L).frame (s0L).hp) = true := by kernel_rfl
theorem runP : endsX .nrm (rP).nms (sP0) (runL Tryz.prog (envR (fC)) (tblM (fC)) M12000 (cutL 2 lwBody) (s0L).frame (s0L).hp) = true := by kernel_rfl
theorem runZx : endsX (.ex M0) (rx10).nms (st1x 0) (aev Tryz.prog (envR (fO0)) (tblM (fO0)) M12000 (chB) (st1 0).frame (st1 0).hp) = true := by kernel_rfl
theorem runZa : endsX .ret (rCz).nms (sCz) (aev Tryz.prog (envR (f00)) (tblM (f00)) M12000 (chRe) (st1x 0).frame (st1x 0).hp) = true := by kernel_rfl
theorem runZb : endsX .nrm (rBz).nms (sBz) (runL Tryz.prog (envR (f00)) (tblM (f00)) M12000 (cutL 3 lw2) (sAz).frame (sAz).hp) = true := by kernel_rfl
theorem runZh : endsX (.ex M0) (rXz).nms (sXz) (aev Tryz.prog (envR (fIn)) (tblM (fIn)) M12000 (lwB) (sHz).frame (sHz).hp) = true := by kernel_rfl
theorem runZe : endsX .ret (({} : Rn)).nms (sTL) (aev Tryz.prog (envR (f00)) (tblM (f00)) M12000 (lw4) (sXz).frame (sXz).hp) = true := by kernel_rfl
theorem saysT : saysTrue lwRes sTL = true := by kernel_rfl
end Go.Proofs.YtnofmmceafkkoaaGreat
