/-
  RollbackOrder: states and what is known at them (printed by a program).
-/
import Derived.Test.YtnofmmceafkkoaaGreatSq
import Derived.Test.YtnofmmceafkkoaaGreatOrT
set_option linter.unusedSimpArgs false
set_option linter.unusedVariables false
set_option maxRecDepth 100000
namespace Go.Proofs.YtnofmmceafkkoaaGreat
open Go.RowKit
def chBody : ACd := bodyA c8
def chRes : List AR := resA c8
def chX : ACd := cutR 5 chBody
def chRi : ACd := fstA (fstA chX)
def chB : ACd := innA (innA (sndA (fstA chX)))
def chRe : ACd := sndA chX
theorem chX_eq : chX = .seq (.seq chRi (.block M0 (.loop chB))) chRe := by kernel_rfl
theorem chCut : cutA 5 chBody = some (cutL 5 chBody, chX) := by kernel_rfl
def lwBody : ACd := bodyA c5
def lwRes : List AR := resA c5
def lw1 : ACd := cutR 2 lwBody
def lwRC : ACd := fstA lw1
def lw2 : ACd := sndA lw1
def lwX : ACd := cutR 1 lw2
def lwRi : ACd := fstA (fstA lwX)
def lwB : ACd := innA (innA (sndA (fstA lwX)))
def lw3 : ACd := sndA lwX
def lwY : ACd := cutR 1 lw3
def lwRj : ACd := fstA (fstA lwY)
def lwT : ACd := innA (innA (sndA (fstA lwY)))
def lwE : ACd := sndA lwY
theorem lw1_eq : lw1 = .seq lwRC lw2 := by kernel_rfl
theorem lwX_eq : lwX = .seq (.seq lwRi (.block M0 (.loop lwB))) lw3 := by kernel_rfl
theorem lwY_eq : lwY = .seq (.seq lwRj (.block M2 (.loop lwT))) lwE := by kernel_rfl
theorem cutL1 : cutA 2 lwBody = some (cutL 2 lwBody, lw1) := by kernel_rfl
theorem cutL2 : cutA 1 lw2 = some (cutL 1 lw2, lwX) := by kernel_rfl
theorem cutL3 : cutA 1 lw3 = some (cutL 1 lw3, lwY) := by kernel_rfl
def heldC : List Nat → List AC
  | [] => []
  | s :: l => .i .i64 (.ofNat M1) :: .i .i64 (.ofNat M0) :: .i .i64 (.ofNat s) :: .i .i64 (.ofNat M2) :: heldC l
def subs (n k : Nat) : List Nat := (List.range n).filter fun i => Nat.testBit k i
def bN (n : Nat) : Bid := match Bid.of n with | some i => i | none => B000
def bMf : Nat → List Nat → List (Bid × Bid)
  | _,[] => []
  | i,a :: l => (bN a,bN i) :: bMf (i + 1) l
def bM (l : List Nat) : List (Bid × Bid) := bMf M0 l
def sC0 : Lit := ⟨[(.x0,.x0,(.c (.ds (.i .u8 .nil) (.v M50)))),(.x0,.x1,(.c (.b true)))],[],B000⟩
def s0L : Lit := ⟨[(.x0,.x0,(.c (.ds (.i .u8 .nil) (.v M50))))],[],B000⟩
def sTL : Lit := ⟨[(.x0,.x2,(.c (.b true)))],[],B000⟩
def sPL : Lit := ⟨[(.x0,.x0,(.c (.ds (.i .u8 .nil) (.v M50)))),(.x2,.x4,(.c (.ds (.i .u8 .nil) (.v M50))))],[],B000⟩
def sP0 : Lit := ⟨[(.x0,.x0,(.c (.ds (.i .u8 .nil) (.v M50))))],[],B000⟩
def st1z : Lit := ⟨[(.x0,.x1,(.c (.b true))),(.x0,.x4,(.c (.p B000 M0))),(.x0,.x7,(.c (.p B001 M0))),(.x0,.x9,(.c Z1)),(.x2,.xe,(.c (.ds (.i .u8 .nil) (.v M50)))),(.x2,.xf,(.c (.si .i64 (.v M8)))),(.x3,.x0,(.c (.si .i64 (.v M7))))],[(B000,(.cells [Z0,Z0,Z0,.sn,Z0,Z0,.sn,Z0,.sn,.sn,.sn,.sn,.sn])),(B001,(.cells [Z1,Z2,Z1,.ds (.i .i64 (.i .i64 (.i .i64 (.i .i64 (.i .i64 (.i .i64 (.i .i64 (.i .i64 (.b (.s (.b (.s (.s .nil))))))))))))) (.v M0),.si .i64 (.v M4),Z1,.su B002 M0 M1 M1 M37,Z0,.sn,.sn,.su B003 M0 M1 M1 M6,.sl B004 M0 M1 M1,.sn])),(B002,(.cells [Z0,Z0,.b false,.s [],.b false,.s [],.b false,.s [],.b false,.s [],.b false,.s [],.b false,.s [],.b false,.s [],.b false,.s [],.b false,.s [],.b false,.s [],.b false,.s [],.b false,.s [],.b false,.s [],.b false,.s [],.b false,.s [],.b false,.s [],.b false,Z0,.b true])),(B003,(.cells [Z1,Z1,.si .i64 (.v M2),Z0,.ds (.i .i64 .nil) (.v M1),.sn])),(B004,(.cells [Z0,Z0,Z0]))],B005⟩
def st1p (l : List Nat) : Lit := ⟨[(.x0,.x1,(.c (.b true))),(.x0,.x4,(.c (.p B000 M0))),(.x0,.x7,(.c (.p B001 M0))),(.x0,.x9,(.c Z1)),(.x2,.xe,(.c (.ds (.i .u8 .nil) (.v M50)))),(.x2,.xf,(.c (.si .i64 (.v M8)))),(.x3,.x0,(.c (.si .i64 (.v M7))))],[(B000,(.cells [Z0,Z0,Z0,.sn,Z0,Z0,.sn,Z0,.sn,.sn,.sn,.sn,.sn])),(B001,(.cells [Z1,Z2,Z1,.ds (.i .i64 (.i .i64 (.i .i64 (.i .i64 (.i .i64 (.i .i64 (.i .i64 (.i .i64 (.b (.s (.b (.s (.s .nil))))))))))))) (.v M0),.si .i64 (.v M4),Z1,.su B002 M0 M1 M1 M37,Z0,.su B006 M0 l.length l.length M4,.su B005 M0 M0 M1 M4,.su B003 M0 M1 M1 M6,.sl B004 M0 M1 M1,.sn])),(B002,(.cells [Z0,.si .i64 (.v M3),.sb (.v M20),.ss (.v M21),.sb (.v M22),.ss (.v M23),.sb (.v M24),.ss (.v M25),.sb (.v M26),.ss (.v M27),.b false,.s [],.b false,.s [],.b false,.s [],.b false,.s [],.b false,.s [],.b false,.s [],.b false,.s [],.b false,.s [],.b false,.s [],.b false,.s [],.b false,.s [],.b false,.s [],.b true,Z1,.b true])),(B003,(.cells [Z1,Z1,.si .i64 (.v M2),Z0,.ds (.i .i64 .nil) (.v M1),.sn])),(B004,(.cells [Z0,Z0,Z0])),(B005,(.cells [Z0,Z0,Z0,Z0])),(B006,(.cells (heldC l)))],B007⟩
def st1 (k : Nat) : Lit := match k with
  | 0 => st1z
  | k + 1 => st1p (subs 4 (k + 1))
def st1xp (l : List Nat) : Lit := ⟨[(.x0,.x1,(.c (.b true))),(.x0,.x4,(.c (.p B000 M0))),(.x0,.x7,(.c (.p B001 M0))),(.x0,.x9,(.c Z1))],[(B000,(.cells [Z0,Z0,Z0,.sn,Z0,Z0,.sn,Z0,.sn,.sn,.sn,.sn,.sn])),(B001,(.cells [Z1,Z2,Z1,.ds (.i .i64 (.i .i64 (.i .i64 (.i .i64 (.i .i64 (.i .i64 (.i .i64 (.i .i64 (.b (.s (.b (.s (.s .nil))))))))))))) (.v M0),.si .i64 (.v M4),Z1,.su B002 M0 M1 M1 M37,Z0,.su B006 M0 l.length l.length M4,.su B005 M0 M0 M1 M4,.su B003 M0 M1 M1 M6,.sl B004 M0 M1 M1,.sn])),(B002,(.cells [Z0,.si .i64 (.v M3),.sb (.v M20),.ss (.v M21),.sb (.v M22),.ss (.v M23),.sb (.v M24),.ss (.v M25),.sb (.v M26),.ss (.v M27),.b false,.s [],.b false,.s [],.b false,.s [],.b false,.s [],.b false,.s [],.b false,.s [],.b false,.s [],.b false,.s [],.b false,.s [],.b false,.s [],.b false,.s [],.b false,.s [],.b true,Z1,.b true])),(B003,(.cells [Z1,Z1,.si .i64 (.v M2),Z0,.ds (.i .i64 .nil) (.v M1),.sn])),(B004,(.cells [Z0,Z0,Z0])),(B005,(.cells [Z0,Z0,Z0,Z0])),(B006,(.cells (heldC l)))],B007⟩
def st1x (k : Nat) : Lit := st1xp (subs 4 k)
def stCop (l : List Nat) : Lit := ⟨[(.x0,.x4,(.c (.p B000 M0))),(.x0,.x5,(.c Z1)),(.x0,.x6,(.c (.b true)))],[(B000,(.cells [Z1,Z2,Z1,.ds (.i .i64 (.i .i64 (.i .i64 (.i .i64 (.i .i64 (.i .i64 (.i .i64 (.i .i64 (.b (.s (.b (.s (.s .nil))))))))))))) (.v M0),.si .i64 (.v M4),Z1,.su B001 M0 M1 M1 M37,Z0,.su B005 M0 l.length l.length M4,.sl B004 M0 M0 M0,.su B002 M0 M1 M1 M6,.sl B003 M0 M1 M1,.sn])),(B001,(.cells [Z0,.si .i64 (.v M3),.sb (.v M20),.ss (.v M21),.sb (.v M22),.ss (.v M23),.sb (.v M24),.ss (.v M25),.sb (.v M26),.ss (.v M27),.b false,.s [],.b false,.s [],.b false,.s [],.b false,.s [],.b false,.s [],.b false,.s [],.b false,.s [],.b false,.s [],.b false,.s [],.b false,.s [],.b false,.s [],.b false,.s [],.b true,Z1,.b true])),(B002,(.cells [Z1,Z3,.si .i64 (.v M2),Z0,.ds (.i .i64 .nil) (.v M1),.sn])),(B003,(.cells [Z0,Z0,Z0])),(B004,(.cells [])),(B005,(.cells (heldC l)))],B006⟩
def stCo (k : Nat) : Lit := stCop (subs 4 k)
def stAp (l : List Nat) : Lit := ⟨[(.x0,.x0,(.c (.ds (.i .u8 .nil) (.v M50)))),(.x0,.x3,(.c (.p B000 M0))),(.x0,.x4,(.c Z1)),(.x0,.x5,(.c (.b true)))],[(B000,(.cells [Z1,Z2,Z1,.ds (.i .i64 (.i .i64 (.i .i64 (.i .i64 (.i .i64 (.i .i64 (.i .i64 (.i .i64 (.b (.s (.b (.s (.s .nil))))))))))))) (.v M0),.si .i64 (.v M4),Z1,.su B001 M0 M1 M1 M37,Z0,.su B005 M0 l.length l.length M4,.sl B004 M0 M0 M0,.su B002 M0 M1 M1 M6,.sl B003 M0 M1 M1,.sn])),(B001,(.cells [Z0,.si .i64 (.v M3),.sb (.v M20),.ss (.v M21),.sb (.v M22),.ss (.v M23),.sb (.v M24),.ss (.v M25),.sb (.v M26),.ss (.v M27),.b false,.s [],.b false,.s [],.b false,.s [],.b false,.s [],.b false,.s [],.b false,.s [],.b false,.s [],.b false,.s [],.b false,.s [],.b false,.s [],.b false,.s [],.b false,.s [],.b true,Z1,.b true])),(B002,(.cells [Z1,Z3,.si .i64 (.v M2),Z0,.ds (.i .i64 .nil) (.v M1),.sn])),(B003,(.cells [Z0,Z0,Z0])),(B004,(.cells [])),(B005,(.cells (heldC l)))],B006⟩
def stA (k : Nat) : Lit := stAp (subs 4 k)
def stU0p (l : List Nat) : Lit := ⟨[(.x0,.x3,(.c (.p B000 M0))),(.x0,.x4,(.c Z1)),(.x0,.x5,(.c (.b true))),(.x0,.x6,(.c (.si .i64 (.v M11)))),(.x0,.x7,(.c (.si .i64 (.v M12))))],[(B000,(.cells [Z1,Z2,Z1,.ds (.i .i64 (.i .i64 (.i .i64 (.i .i64 (.i .i64 (.i .i64 (.i .i64 (.i .i64 (.b (.s (.b (.s (.s .nil))))))))))))) (.v M0),.si .i64 (.v M4),Z1,.su B001 M0 M1 M1 M37,Z0,.su B005 M0 l.length l.length M4,.sl B004 M0 M0 M0,.su B002 M0 M1 M1 M6,.sl B003 M0 M1 M1,.sn])),(B001,(.cells [Z0,.si .i64 (.v M3),.sb (.v M20),.ss (.v M21),.sb (.v M22),.ss (.v M23),.sb (.v M24),.ss (.v M25),.sb (.v M26),.ss (.v M27),.b false,.s [],.b false,.s [],.b false,.s [],.b false,.s [],.b false,.s [],.b false,.s [],.b false,.s [],.b false,.s [],.b false,.s [],.b false,.s [],.b false,.s [],.b false,.s [],.b true,Z1,.b true])),(B002,(.cells [Z1,Z3,.si .i64 (.v M2),Z0,.ds (.i .i64 .nil) (.v M1),.sn])),(B003,(.cells [Z0,Z0,Z0])),(B004,(.cells [])),(B005,(.cells (heldC l)))],B006⟩
def stU1p (l : List Nat) : Lit := ⟨[(.x0,.x3,(.c (.p B000 M0))),(.x0,.x4,(.c Z1)),(.x0,.x5,(.c (.b true))),(.x0,.x6,(.c (.si .i64 (.v M11)))),(.x0,.x7,(.c (.si .i64 (.v M12))))],[(B000,(.cells [Z1,Z2,Z1,.ds (.i .i64 (.i .i64 (.i .i64 (.i .i64 (.i .i64 (.i .i64 (.i .i64 (.i .i64 (.b (.s (.b (.s (.s .nil))))))))))))) (.v M0),.si .i64 (.v M4),Z1,.su B001 M0 M1 M1 M37,Z0,.su B005 M0 l.length (l.length + 1) M4,.sl B004 M0 M0 M0,.su B002 M0 M1 M1 M6,.sl B003 M0 M1 M1,.sn])),(B001,(.cells [Z0,.si .i64 (.v M3),.sb (.v M20),.ss (.v M21),.sb (.v M22),.ss (.v M23),.sb (.v M24),.ss (.v M25),.sb (.v M26),.ss (.v M27),.b false,.s [],.b false,.s [],.b false,.s [],.b false,.s [],.b false,.s [],.b false,.s [],.b false,.s [],.b false,.s [],.b false,.s [],.b false,.s [],.b false,.s [],.b false,.s [],.b true,Z1,.b true])),(B002,(.cells [Z1,Z3,.si .i64 (.v M2),Z0,.ds (.i .i64 .nil) (.v M1),.sn])),(B003,(.cells [Z0,Z0,Z0])),(B004,(.cells [])),(B005,(.cells (heldC l ++ [Z0,Z0,Z0,Z0])))],B006⟩
def stU (v k : Nat) : Lit := match v with
  | 0 => stU0p (subs 4 k)
  | _ + 1 => stU1p (subs 4 k)
def sE7 : Lit := ⟨[(.x0,.x3,(.c (.p B000 M0))),(.x0,.x4,(.c Z1)),(.x0,.x5,(.c (.b true))),(.x0,.x6,(.c (.si .i64 (.v M11)))),(.x0,.x7,(.c (.si .i64 (.v M12))))],[(B000,(.cells [Z1,Z2,Z1,.ds (.i .i64 (.i .i64 (.i .i64 (.i .i64 (.i .i64 (.i .i64 (.i .i64 (.i .i64 (.b (.s (.b (.s (.s .nil))))))))))))) (.v M0),.si .i64 (.v M4),Z1,.su B001 M0 M1 M1 M37,Z0,.sl B004 M0 M0 M0,.sl B005 M0 M0 M0,.su B002 M0 M0 M1 M6,.sl B003 M0 M1 M1,.sn])),(B001,(.cells [Z0,.si .i64 (.v M3),.sb (.v M20),.ss (.v M21),.sb (.v M22),.ss (.v M23),.sb (.v M24),.ss (.v M25),.sb (.v M26),.ss (.v M27),.b false,.s [],.b false,.s [],.b false,.s [],.b false,.s [],.b false,.s [],.b false,.s [],.b false,.s [],.b false,.s [],.b false,.s [],.b false,.s [],.b false,.s [],.b false,.s [],.b true,Z1,.b true])),(B002,(.cells [Z0,Z0,Z0,Z0,.sn,.sn])),(B003,(.cells [Z0,Z0,Z0])),(B004,(.cells [])),(B005,(.cells []))],B006⟩
def sE0 : Lit := ⟨[(.x0,.x3,(.c (.p B000 M0))),(.x0,.x4,(.c Z1)),(.x0,.x5,(.c (.b true))),(.x0,.x6,(.c (.si .i64 (.v M11))))],[(B000,(.cells [Z1,Z2,Z1,.ds (.i .i64 (.i .i64 (.i .i64 (.i .i64 (.i .i64 (.i .i64 (.i .i64 (.i .i64 (.b (.s (.b (.s (.s .nil))))))))))))) (.v M0),.si .i64 (.v M4),Z1,.su B001 M0 M1 M1 M37,Z0,.sl B004 M0 M0 M0,.sl B005 M0 M0 M0,.su B002 M0 M0 M1 M6,.sl B003 M0 M1 M1,.sn])),(B001,(.cells [Z0,.si .i64 (.v M3),.sb (.v M20),.ss (.v M21),.sb (.v M22),.ss (.v M23),.sb (.v M24),.ss (.v M25),.sb (.v M26),.ss (.v M27),.b false,.s [],.b false,.s [],.b false,.s [],.b false,.s [],.b false,.s [],.b false,.s [],.b false,.s [],.b false,.s [],.b false,.s [],.b false,.s [],.b false,.s [],.b false,.s [],.b true,Z1,.b true])),(B002,(.cells [Z0,Z0,Z0,Z0,.sn,.sn])),(B003,(.cells [Z0,Z0,Z0])),(B004,(.cells [])),(B005,(.cells []))],B006⟩
def sT2 : Lit := ⟨[(.x0,.x3,(.c (.p B000 M0))),(.x0,.x4,(.c Z1)),(.x0,.x5,(.c (.b true))),(.x0,.x6,(.c (.si .i64 (.v M11)))),(.x0,.xa,(.c (.si .i64 (.v M13))))],[(B000,(.cells [Z1,Z2,Z1,.ds (.i .i64 (.i .i64 (.i .i64 (.i .i64 (.i .i64 (.i .i64 (.i .i64 (.i .i64 (.b (.s (.b (.s (.s .nil))))))))))))) (.v M0),.si .i64 (.v M4),Z1,.su B001 M0 M1 M1 M37,Z0,.sl B004 M0 M0 M0,.sl B005 M0 M0 M0,.su B002 M0 M0 M1 M6,.sl B003 M0 M1 M1,.sn])),(B001,(.cells [Z0,.si .i64 (.v M3),.sb (.v M20),.ss (.v M21),.sb (.v M22),.ss (.v M23),.sb (.v M24),.ss (.v M25),.sb (.v M26),.ss (.v M27),.b false,.s [],.b false,.s [],.b false,.s [],.b false,.s [],.b false,.s [],.b false,.s [],.b false,.s [],.b false,.s [],.b false,.s [],.b false,.s [],.b false,.s [],.b false,.s [],.b true,Z1,.b true])),(B002,(.cells [Z0,Z0,Z0,Z0,.sn,.sn])),(B003,(.cells [Z0,Z0,Z0])),(B004,(.cells [])),(B005,(.cells []))],B006⟩
def fb4z : List Fc := [.rng (.f1 M5 (.v M0)) J0 J0,.rng (.v M2) J0 J0,.rng (.v M4) J0 J0,.rng (.f1 M5 (.v M1)) J0 J0,.dif (.v M2) (.f1 M5 (.v M0)) J0 J0,.pr M1 [(.v M0)],.pr M3 [(.v M1),(.v M2)]]
def fb4p : List Fc := [.rng (.f1 M5 (.v M0)) J1 J900,.rng (.v M2) J1 J900,.rng (.v M3) J1 J900,.rng (.v M4) J0 J0,.rng (.f1 M5 (.v M1)) J0 J900,.dif (.v M2) (.f1 M5 (.v M0)) J0 J0,.dif (.v M3) (.f1 M5 (.v M0)) J0 J0,.dif (.v M4) (.f1 M5 (.v M0)) (Int.negSucc M899) (Int.negSucc M0),.dif (.f1 M5 (.v M1)) (.f1 M5 (.v M0)) (Int.negSucc M899) J0,.pr M1 [(.v M0)],.pr M3 [(.v M1),(.v M2)],.pr M2 [(.v M20),(.v M21)],.pr M2 [(.v M22),(.v M23)],.pr M2 [(.v M24),(.v M25)],.pr M2 [(.v M26),(.v M27)]]
def fb4 (k : Nat) : List Fc := match k with
  | 0 => fb4z
  | _ + 1 => fb4p
def fIn1 : List Fc := [.rng (.v M7) J0 J30,.rng (.v M8) J0 J30,.rng (.f1 M5 (.v M50)) J0 J30,.dif (.v M7) (.v M8) (Int.negSucc M29) (Int.negSucc M0),.dif (.v M7) (.f1 M5 (.v M50)) (Int.negSucc M29) (Int.negSucc M0)]
def fOut1 : List Fc := [.rng (.v M7) J0 J30,.rng (.v M8) J0 J30,.rng (.f1 M5 (.v M50)) J0 J30,.dif (.v M7) (.v M8) J0 J0]
def fI : List Fc := [.rng (.v M11) J1 J30,.rng (.v M12) J0 J31,.dif (.v M12) (.v M11) (Int.negSucc M29) J0]
def fU : List Fc := [.rng (.f1 M5 (.v M0)) J1 J900,.rng (.v M2) J1 J900,.rng (.v M3) J1 J900,.rng (.v M4) J0 J0,.dif (.v M2) (.f1 M5 (.v M0)) J0 J0,.dif (.v M3) (.f1 M5 (.v M0)) (Int.negSucc M899) J0,.dif (.v M4) (.f1 M5 (.v M0)) (Int.negSucc M899) (Int.negSucc M0),.dif (.f1 M5 (.v M1)) (.f1 M5 (.v M0)) (Int.negSucc M899) J0,.pr M1 [(.v M0)],.pr M3 [(.v M1),(.v M2)],.pr M2 [(.v M20),(.v M21)],.pr M2 [(.v M22),(.v M23)],.pr M2 [(.v M24),(.v M25)],.pr M2 [(.v M26),(.v M27)]]
def fQ0 : List Fc := [.rng (.f1 M5 (.v M1)) J0 J0]
def fE : List Fc := [.rng (.f1 M5 (.v M0)) J4 J900,.rng (.v M11) J1 J30,.rng (.v M4) J0 J0,.rng (.v M3) J1 J900,.dif (.v M3) (.f1 M5 (.v M0)) (Int.negSucc M899) J0,.dif (.v M4) (.f1 M5 (.v M0)) (Int.negSucc M899) (Int.negSucc M0),.pr M1 [(.v M0)],.pr M2 [(.v M20),(.v M21)],.pr M2 [(.v M22),(.v M23)],.pr M2 [(.v M24),(.v M25)],.pr M2 [(.v M26),(.v M27)],.dif (.f1 M5 (.v M0)) (.f2 M0 (.f2 M2 (.num J2) (.v M11)) (.num J2)) J0 J0,.rng (.f2 M0 (.f2 M2 (.num J2) (.v M11)) (.num J2)) J4 J900]
def fT0 : List Fc := [.rng (.v M13) J0 J30,.rng (.v M11) J1 J30]
def fT : List Fc := [.rng (.v M13) J0 J30,.rng (.v M11) J1 J30,.dif (.v M13) (.v M11) (Int.negSucc M29) (Int.negSucc M0),.rng (.f1 M5 (.v M0)) J4 J900,.rng (.v M4) J0 J0,.dif (.v M4) (.f1 M5 (.v M0)) (Int.negSucc M899) (Int.negSucc M0),.pr M1 [(.v M0)],.rng (.f2 M1 (.v M11) (.v M13)) J1 J30,.dif (.f2 M1 (.v M11) (.v M13)) (.f1 M5 (.v M0)) (Int.negSucc M899) (Int.negSucc M0),.rng (.f2 M0 (.f2 M1000 (.v M11) (.num J2)) (.v M13)) J3 J900,.dif (.f2 M0 (.f2 M1000 (.v M11) (.num J2)) (.v M13)) (.f1 M5 (.v M0)) (Int.negSucc M899) (Int.negSucc M0),.rng (.f2 M101 (.v M0) (.f2 M1000 (.f2 M0 (.f2 M1000 (.v M11) (.num J2)) (.v M13)) (.num (Int.negSucc M0)))) J2 J2,.dif (.f2 M105 (.v M0) (.f2 M1000 (.f2 M0 (.f2 M1000 (.v M11) (.num J2)) (.v M13)) (.num (Int.negSucc M0)))) (.f2 M100 (.v M0) (.f2 M1000 (.f2 M1 (.v M11) (.v M13)) (.num (Int.negSucc M0)))) J0 J0,.rng (.f2 M102 (.v M0) (.f2 M1000 (.f2 M0 (.f2 M1000 (.v M11) (.num J2)) (.v M13)) (.num (Int.negSucc M0)))) J1 J1,.rng (.f2 M100 (.v M0) (.f2 M1000 (.f2 M1 (.v M11) (.v M13)) (.num (Int.negSucc M0)))) J1 J900,.rng (.f2 M105 (.v M0) (.f2 M1000 (.f2 M0 (.f2 M1000 (.v M11) (.num J2)) (.v M13)) (.num (Int.negSucc M0)))) J1 J900,.dif (.f2 M106 (.v M0) (.f2 M1000 (.f2 M0 (.f2 M1000 (.v M11) (.num J2)) (.v M13)) (.num (Int.negSucc M0)))) (.f2 M106 (.v M0) (.f2 M1000 (.f2 M1 (.v M11) (.v M13)) (.num (Int.negSucc M0)))) J0 J0,.dif (.f2 M107 (.v M0) (.f2 M1000 (.f2 M0 (.f2 M1000 (.v M11) (.num J2)) (.v M13)) (.num (Int.negSucc M0)))) (.f2 M107 (.v M0) (.f2 M1000 (.f2 M1 (.v M11) (.v M13)) (.num (Int.negSucc M0)))) J0 J0,.rng (.f2 M106 (.v M0) (.f2 M1000 (.f2 M1 (.v M11) (.v M13)) (.num (Int.negSucc M0)))) J0 J0,.rng (.f2 M106 (.v M0) (.f2 M1000 (.f2 M0 (.f2 M1000 (.v M11) (.num J2)) (.v M13)) (.num (Int.negSucc M0)))) J0 J0,.rng (.f2 M107 (.v M0) (.f2 M1000 (.f2 M1 (.v M11) (.v M13)) (.num (Int.negSucc M0)))) J0 J3,.rng (.f2 M107 (.v M0) (.f2 M1000 (.f2 M0 (.f2 M1000 (.v M11) (.num J2)) (.v M13)) (.num (Int.negSucc M0)))) J0 J3,.seq (.f2 M109 (.v M0) (.f2 M1000 (.f2 M0 (.f2 M1000 (.v M11) (.num J2)) (.v M13)) (.num (Int.negSucc M0)))) (.f2 M111 (.v M0) (.f2 M1000 (.f2 M1 (.v M11) (.v M13)) (.num (Int.negSucc M0)))) true,.seq (.f2 M111 (.v M0) (.f2 M1000 (.f2 M0 (.f2 M1000 (.v M11) (.num J2)) (.v M13)) (.num (Int.negSucc M0)))) (.f2 M109 (.v M0) (.f2 M1000 (.f2 M1 (.v M11) (.v M13)) (.num (Int.negSucc M0)))) true]
def fTx : List Fc := [.rng (.v M13) J0 J30,.rng (.v M11) J1 J30,.dif (.v M13) (.v M11) J0 J0]
def fL : List Fc := [.rng (.v M11) J1 J30,.rng (.f1 M5 (.v M0)) J4 J900,.dif (.v M11) (.f1 M5 (.v M0)) (Int.negSucc M899) (Int.negSucc M0),.rng (.f2 M0 (.f2 M2 (.num J2) (.v M11)) (.num J1)) J3 J900,.dif (.f2 M0 (.f2 M2 (.num J2) (.v M11)) (.num J1)) (.f1 M5 (.v M0)) (Int.negSucc M899) (Int.negSucc M0),.rng (.f2 M101 (.v M0) (.v M11)) J4 J4,.rng (.f2 M101 (.v M0) (.f2 M0 (.f2 M2 (.num J2) (.v M11)) (.num J1))) J5 J5]
def tYab : Nm := (.f2 M1403 (.v M0) (.f2 M1410 (.f2 M1000 (.f1 M5 (.v M0)) (.num J1)) (.f2 M1410 (.num J4) (.f2 M1410 (.num J1) (.f2 M1410 (.v M2) (.f2 M1410 (.num J0) (.f2 M1410 (.num J0) (.f2 M1410 (.num J0) (.f2 M1410 (.num J0) (.f2 M1412 (.f1 M9 (.num J0)) (.f2 M1411 (.lit []) (.f2 M1412 (.f1 M9 (.num J0)) (.f2 M1411 (.lit []) (.f2 M1411 (.lit []) (.f1 M8 (.num J0))))))))))))))))
def fAB (k : Nat) : List Fc := [.pr M5 [tYab,(.v M1),(.num (Int.ofNat k))]]
abbrev tA : Nm := (.f2 M1000 (.f2 M1 (.v M11) (.v M13)) (.num (Int.negSucc M0)))
abbrev tB : Nm := (.f2 M1000 (.f2 M0 (.f2 M1000 (.v M11) (.num J2)) (.v M13)) (.num (Int.negSucc M0)))
def fTb (p q : Bool) : List Fc := [.bv (.f2 M108 (.v M0) tA) p,.bv (.f2 M110 (.v M0) tA) q,.bv (.f2 M108 (.v M0) tB) q,.bv (.f2 M110 (.v M0) tB) p]
abbrev tQ : Nm := (.f2 M1000 (.f1 M5 (.v M1)) (.num (Int.negSucc M0)))
abbrev tT : Nm := (.f2 M100 (.v M1) tQ)
abbrev tU : Nm := (.f2 M1000 tT (.num (Int.negSucc M0)))
abbrev tE (o : Nat) : Nm := .f2 o (.v M0) tU
abbrev tD : Nm := .f2 M1404 (.v M1) tQ
def fg10 (s : Nat) : List Fc := [.rng (.f2 M3 (.f2 M100 (.v M50) (.v M7)) (.num J4)) (Int.ofNat s) (Int.ofNat s),.rng (.f2 M100 (.v M50) (.v M7)) J0 J200,.rng (.f2 M3 (.f2 M100 (.v M50) (.v M7)) (.num J26)) J0 J25,.rng (.f1 M6 (.f1 M10 (.f2 M1000 (.f2 M3 (.f2 M100 (.v M50) (.v M7)) (.num J26)) (.num J97)))) J1 J1]
def fg11 (s : Nat) : List Fc := [.rng (.f2 M3 (.f2 M100 (.v M50) (.v M7)) (.num J4)) (Int.ofNat s) (Int.ofNat s),.rng (.f2 M100 (.v M50) (.v M7)) J201 J255,.rng (.f2 M3 (.f2 M100 (.v M50) (.v M7)) (.num J26)) J0 J25,.rng (.f1 M6 (.f1 M10 (.f2 M1000 (.f2 M3 (.f2 M100 (.v M50) (.v M7)) (.num J26)) (.num J97)))) J1 J1]
def fg (s k2 : Nat) : List Fc := [.rng (.f1 M5 (.v M1)) J1 J900,.rng tT J1 J900,.dif tT (.f1 M5 (.v M0)) (Int.negSucc M899) J0,.dif tT (.v M2) (Int.negSucc M899) J0,.rng (tE M100) J1 J900,.dif (tE M100) tT J0 J0,.dif (tE M100) (.v M2) (Int.negSucc M899) J0,.dif (tE M100) (.f1 M5 (.v M0)) (Int.negSucc M899) J0,.rng (tE M106) J0 J0,.rng (tE M107) (Int.ofNat s) (Int.ofNat s),.pr M2 [(tE M108),(tE M109)],.pr M2 [(tE M110),(tE M111)],.pr M4 [(.v M1),(tE M100),tQ],.pr M5 [(.v M0),tD,(.num (Int.ofNat k2))]]
def r1_000 : Rn := ⟨[(M2,(.num J1)),(M3,(.num J1)),(M4,(.v M4)),(M7,(.f2 M1000 (.v M7) (.num J1))),(M8,(.v M8))],[(M21,(.f1 M10 (.f2 M1000 (.f2 M3 (.f2 M100 (.v M50) (.v M7)) (.num J26)) (.num J97)))),(M23,(.lit [])),(M25,(.lit [])),(M27,(.lit []))],[(M20,(.f1 M9 (.num J1))),(M22,(.f1 M9 (.num J0))),(M24,(.f1 M9 (.num J0))),(M26,(.f1 M9 (.num J0)))],[(M0,(.f2 M1403 (.f1 M7 (.num J0)) (.f2 M1410 (.num J1) (.f2 M1410 (.num J1) (.f2 M1410 (.num J1) (.f2 M1410 (.v M2) (.f2 M1410 (.num J0) (.f2 M1410 (.num J0) (.f2 M1410 (.num J0) (.f2 M1410 (.num J0) (.f2 M1412 (.f1 M9 (.num J0)) (.f2 M1411 (.lit []) (.f2 M1412 (.f1 M9 (.num J1)) (.f2 M1411 (.f1 M10 (.f2 M1000 (.f2 M3 (.f2 M100 (.v M50) (.v M7)) (.num J26)) (.num J97))) (.f2 M1411 (.lit []) (.f1 M8 (.num J0))))))))))))))))),(M1,(.f2 M1403 (.f1 M7 (.num J0)) (.f2 M1410 (.num J1) (.f1 M8 (.num J0))))),(M50,(.v M50))],[]⟩
def r1_001 : Rn := ⟨[(M2,(.num J1)),(M3,(.num J1)),(M4,(.v M4)),(M7,(.f2 M1000 (.v M7) (.num J1))),(M8,(.v M8))],[(M21,(.lit [])),(M23,(.lit [])),(M25,(.lit [])),(M27,(.lit []))],[(M20,(.f1 M9 (.num J0))),(M22,(.f1 M9 (.num J0))),(M24,(.f1 M9 (.num J0))),(M26,(.f1 M9 (.num J0)))],[(M0,(.f2 M1403 (.f1 M7 (.num J0)) (.f2 M1410 (.num J1) (.f2 M1410 (.num J1) (.f2 M1410 (.num J1) (.f2 M1410 (.v M2) (.f2 M1410 (.num J0) (.f2 M1410 (.num J0) (.f2 M1410 (.num J0) (.f2 M1410 (.num J0) (.f2 M1412 (.f1 M9 (.num J0)) (.f2 M1411 (.lit []) (.f2 M1412 (.f1 M9 (.num J0)) (.f2 M1411 (.lit []) (.f2 M1411 (.lit []) (.f1 M8 (.num J0))))))))))))))))),(M1,(.f2 M1403 (.f1 M7 (.num J0)) (.f2 M1410 (.num J1) (.f1 M8 (.num J0))))),(M50,(.v M50))],[]⟩
def r1_010 : Rn := ⟨[(M2,(.num J1)),(M3,(.num J1)),(M4,(.v M4)),(M7,(.f2 M1000 (.v M7) (.num J1))),(M8,(.v M8))],[(M21,(.lit [])),(M23,(.f1 M10 (.f2 M1000 (.f2 M3 (.f2 M100 (.v M50) (.v M7)) (.num J26)) (.num J97)))),(M25,(.lit [])),(M27,(.lit []))],[(M20,(.f1 M9 (.num J0))),(M22,(.f1 M9 (.num J1))),(M24,(.f1 M9 (.num J0))),(M26,(.f1 M9 (.num J0)))],[(M0,(.f2 M1403 (.f1 M7 (.num J0)) (.f2 M1410 (.num J1) (.f2 M1410 (.num J1) (.f2 M1410 (.num J1) (.f2 M1410 (.v M2) (.f2 M1410 (.num J0) (.f2 M1410 (.num J0) (.f2 M1410 (.num J0) (.f2 M1410 (.num J1) (.f2 M1412 (.f1 M9 (.num J0)) (.f2 M1411 (.lit []) (.f2 M1412 (.f1 M9 (.num J1)) (.f2 M1411 (.f1 M10 (.f2 M1000 (.f2 M3 (.f2 M100 (.v M50) (.v M7)) (.num J26)) (.num J97))) (.f2 M1411 (.lit []) (.f1 M8 (.num J0))))))))))))))))),(M1,(.f2 M1403 (.f1 M7 (.num J0)) (.f2 M1410 (.num J1) (.f1 M8 (.num J0))))),(M50,(.v M50))],[]⟩
def r1_011 : Rn := ⟨[(M2,(.num J1)),(M3,(.num J1)),(M4,(.v M4)),(M7,(.f2 M1000 (.v M7) (.num J1))),(M8,(.v M8))],[(M21,(.lit [])),(M23,(.lit [])),(M25,(.lit [])),(M27,(.lit []))],[(M20,(.f1 M9 (.num J0))),(M22,(.f1 M9 (.num J0))),(M24,(.f1 M9 (.num J0))),(M26,(.f1 M9 (.num J0)))],[(M0,(.f2 M1403 (.f1 M7 (.num J0)) (.f2 M1410 (.num J1) (.f2 M1410 (.num J1) (.f2 M1410 (.num J1) (.f2 M1410 (.v M2) (.f2 M1410 (.num J0) (.f2 M1410 (.num J0) (.f2 M1410 (.num J0) (.f2 M1410 (.num J1) (.f2 M1412 (.f1 M9 (.num J0)) (.f2 M1411 (.lit []) (.f2 M1412 (.f1 M9 (.num J0)) (.f2 M1411 (.lit []) (.f2 M1411 (.lit []) (.f1 M8 (.num J0))))))))))))))))),(M1,(.f2 M1403 (.f1 M7 (.num J0)) (.f2 M1410 (.num J1) (.f1 M8 (.num J0))))),(M50,(.v M50))],[]⟩
def r1_020 : Rn := ⟨[(M2,(.num J1)),(M3,(.num J1)),(M4,(.v M4)),(M7,(.f2 M1000 (.v M7) (.num J1))),(M8,(.v M8))],[(M21,(.lit [])),(M23,(.lit [])),(M25,(.f1 M10 (.f2 M1000 (.f2 M3 (.f2 M100 (.v M50) (.v M7)) (.num J26)) (.num J97)))),(M27,(.lit []))],[(M20,(.f1 M9 (.num J0))),(M22,(.f1 M9 (.num J0))),(M24,(.f1 M9 (.num J1))),(M26,(.f1 M9 (.num J0)))],[(M0,(.f2 M1403 (.f1 M7 (.num J0)) (.f2 M1410 (.num J1) (.f2 M1410 (.num J1) (.f2 M1410 (.num J1) (.f2 M1410 (.v M2) (.f2 M1410 (.num J0) (.f2 M1410 (.num J0) (.f2 M1410 (.num J0) (.f2 M1410 (.num J2) (.f2 M1412 (.f1 M9 (.num J0)) (.f2 M1411 (.lit []) (.f2 M1412 (.f1 M9 (.num J1)) (.f2 M1411 (.f1 M10 (.f2 M1000 (.f2 M3 (.f2 M100 (.v M50) (.v M7)) (.num J26)) (.num J97))) (.f2 M1411 (.lit []) (.f1 M8 (.num J0))))))))))))))))),(M1,(.f2 M1403 (.f1 M7 (.num J0)) (.f2 M1410 (.num J1) (.f1 M8 (.num J0))))),(M50,(.v M50))],[]⟩
def r1_021 : Rn := ⟨[(M2,(.num J1)),(M3,(.num J1)),(M4,(.v M4)),(M7,(.f2 M1000 (.v M7) (.num J1))),(M8,(.v M8))],[(M21,(.lit [])),(M23,(.lit [])),(M25,(.lit [])),(M27,(.lit []))],[(M20,(.f1 M9 (.num J0))),(M22,(.f1 M9 (.num J0))),(M24,(.f1 M9 (.num J0))),(M26,(.f1 M9 (.num J0)))],[(M0,(.f2 M1403 (.f1 M7 (.num J0)) (.f2 M1410 (.num J1) (.f2 M1410 (.num J1) (.f2 M1410 (.num J1) (.f2 M1410 (.v M2) (.f2 M1410 (.num J0) (.f2 M1410 (.num J0) (.f2 M1410 (.num J0) (.f2 M1410 (.num J2) (.f2 M1412 (.f1 M9 (.num J0)) (.f2 M1411 (.lit []) (.f2 M1412 (.f1 M9 (.num J0)) (.f2 M1411 (.lit []) (.f2 M1411 (.lit []) (.f1 M8 (.num J0))))))))))))))))),(M1,(.f2 M1403 (.f1 M7 (.num J0)) (.f2 M1410 (.num J1) (.f1 M8 (.num J0))))),(M50,(.v M50))],[]⟩
def r1_030 : Rn := ⟨[(M2,(.num J1)),(M3,(.num J1)),(M4,(.v M4)),(M7,(.f2 M1000 (.v M7) (.num J1))),(M8,(.v M8))],[(M21,(.lit [])),(M23,(.lit [])),(M25,(.lit [])),(M27,(.f1 M10 (.f2 M1000 (.f2 M3 (.f2 M100 (.v M50) (.v M7)) (.num J26)) (.num J97))))],[(M20,(.f1 M9 (.num J0))),(M22,(.f1 M9 (.num J0))),(M24,(.f1 M9 (.num J0))),(M26,(.f1 M9 (.num J1)))],[(M0,(.f2 M1403 (.f1 M7 (.num J0)) (.f2 M1410 (.num J1) (.f2 M1410 (.num J1) (.f2 M1410 (.num J1) (.f2 M1410 (.v M2) (.f2 M1410 (.num J0) (.f2 M1410 (.num J0) (.f2 M1410 (.num J0) (.f2 M1410 (.num J3) (.f2 M1412 (.f1 M9 (.num J0)) (.f2 M1411 (.lit []) (.f2 M1412 (.f1 M9 (.num J1)) (.f2 M1411 (.f1 M10 (.f2 M1000 (.f2 M3 (.f2 M100 (.v M50) (.v M7)) (.num J26)) (.num J97))) (.f2 M1411 (.lit []) (.f1 M8 (.num J0))))))))))))))))),(M1,(.f2 M1403 (.f1 M7 (.num J0)) (.f2 M1410 (.num J1) (.f1 M8 (.num J0))))),(M50,(.v M50))],[]⟩
def r1_031 : Rn := ⟨[(M2,(.num J1)),(M3,(.num J1)),(M4,(.v M4)),(M7,(.f2 M1000 (.v M7) (.num J1))),(M8,(.v M8))],[(M21,(.lit [])),(M23,(.lit [])),(M25,(.lit [])),(M27,(.lit []))],[(M20,(.f1 M9 (.num J0))),(M22,(.f1 M9 (.num J0))),(M24,(.f1 M9 (.num J0))),(M26,(.f1 M9 (.num J0)))],[(M0,(.f2 M1403 (.f1 M7 (.num J0)) (.f2 M1410 (.num J1) (.f2 M1410 (.num J1) (.f2 M1410 (.num J1) (.f2 M1410 (.v M2) (.f2 M1410 (.num J0) (.f2 M1410 (.num J0) (.f2 M1410 (.num J0) (.f2 M1410 (.num J3) (.f2 M1412 (.f1 M9 (.num J0)) (.f2 M1411 (.lit []) (.f2 M1412 (.f1 M9 (.num J0)) (.f2 M1411 (.lit []) (.f2 M1411 (.lit []) (.f1 M8 (.num J0))))))))))))))))),(M1,(.f2 M1403 (.f1 M7 (.num J0)) (.f2 M1410 (.num J1) (.f1 M8 (.num J0))))),(M50,(.v M50))],[]⟩
def r1_100 : Rn := ⟨[(M2,(.f2 M1000 (.f1 M5 (.v M0)) (.num J1))),(M3,(.f2 M1000 (.f1 M5 (.v M0)) (.num J1))),(M4,(.v M4)),(M7,(.f2 M1000 (.v M7) (.num J1))),(M8,(.v M8))],[(M21,(.f1 M10 (.f2 M1000 (.f2 M3 (.f2 M100 (.v M50) (.v M7)) (.num J26)) (.num J97)))),(M23,(.v M23)),(M25,(.v M25)),(M27,(.v M27))],[(M20,(.f1 M9 (.num J1))),(M22,(.v M22)),(M24,(.v M24)),(M26,(.v M26))],[(M0,(.f2 M1403 (.v M0) (.f2 M1410 (.f2 M1000 (.f1 M5 (.v M0)) (.num J1)) (.f2 M1410 (.num J1) (.f2 M1410 (.num J1) (.f2 M1410 (.v M2) (.f2 M1410 (.v M3) (.f2 M1410 (.num J0) (.f2 M1410 (.num J0) (.f2 M1410 (.num J0) (.f2 M1412 (.v M20) (.f2 M1411 (.v M21) (.f2 M1412 (.f1 M9 (.num J1)) (.f2 M1411 (.f1 M10 (.f2 M1000 (.f2 M3 (.f2 M100 (.v M50) (.v M7)) (.num J26)) (.num J97))) (.f2 M1411 (.lit []) (.f1 M8 (.num J0))))))))))))))))),(M1,(.f2 M1403 (.v M1) (.f2 M1410 (.f2 M1000 (.f1 M5 (.v M0)) (.num J1)) (.f1 M8 (.num J0))))),(M50,(.v M50))],[]⟩
def r1_101 : Rn := ⟨[(M2,(.f2 M1000 (.f1 M5 (.v M0)) (.num J1))),(M3,(.f2 M1000 (.f1 M5 (.v M0)) (.num J1))),(M4,(.v M4)),(M7,(.f2 M1000 (.v M7) (.num J1))),(M8,(.v M8))],[(M21,(.lit [])),(M23,(.v M23)),(M25,(.v M25)),(M27,(.v M27))],[(M20,(.f1 M9 (.num J0))),(M22,(.v M22)),(M24,(.v M24)),(M26,(.v M26))],[(M0,(.f2 M1403 (.v M0) (.f2 M1410 (.f2 M1000 (.f1 M5 (.v M0)) (.num J1)) (.f2 M1410 (.num J1) (.f2 M1410 (.num J1) (.f2 M1410 (.v M2) (.f2 M1410 (.v M3) (.f2 M1410 (.num J0) (.f2 M1410 (.num J0) (.f2 M1410 (.num J0) (.f2 M1412 (.v M20) (.f2 M1411 (.v M21) (.f2 M1412 (.f1 M9 (.num J0)) (.f2 M1411 (.lit []) (.f2 M1411 (.lit []) (.f1 M8 (.num J0))))))))))))))))),(M1,(.f2 M1403 (.v M1) (.f2 M1410 (.f2 M1000 (.f1 M5 (.v M0)) (.num J1)) (.f1 M8 (.num J0))))),(M50,(.v M50))],[]⟩
def r1_110 : Rn := ⟨[(M2,(.f2 M1000 (.f1 M5 (.v M0)) (.num J1))),(M3,(.f2 M1000 (.f1 M5 (.v M0)) (.num J1))),(M4,(.v M4)),(M7,(.f2 M1000 (.v M7) (.num J1))),(M8,(.v M8))],[(M21,(.v M21)),(M23,(.f1 M10 (.f2 M1000 (.f2 M3 (.f2 M100 (.v M50) (.v M7)) (.num J26)) (.num J97)))),(M25,(.v M25)),(M27,(.v M27))],[(M20,(.v M20)),(M22,(.f1 M9 (.num J1))),(M24,(.v M24)),(M26,(.v M26))],[(M0,(.f2 M1403 (.v M0) (.f2 M1410 (.f2 M1000 (.f1 M5 (.v M0)) (.num J1)) (.f2 M1410 (.num J1) (.f2 M1410 (.num J1) (.f2 M1410 (.v M2) (.f2 M1410 (.v M3) (.f2 M1410 (.num J0) (.f2 M1410 (.num J0) (.f2 M1410 (.num J1) (.f2 M1412 (.v M22) (.f2 M1411 (.v M23) (.f2 M1412 (.f1 M9 (.num J1)) (.f2 M1411 (.f1 M10 (.f2 M1000 (.f2 M3 (.f2 M100 (.v M50) (.v M7)) (.num J26)) (.num J97))) (.f2 M1411 (.lit []) (.f1 M8 (.num J0))))))))))))))))),(M1,(.f2 M1403 (.v M1) (.f2 M1410 (.f2 M1000 (.f1 M5 (.v M0)) (.num J1)) (.f1 M8 (.num J0))))),(M50,(.v M50))],[]⟩
def r1_111 : Rn := ⟨[(M2,(.f2 M1000 (.f1 M5 (.v M0)) (.num J1))),(M3,(.f2 M1000 (.f1 M5 (.v M0)) (.num J1))),(M4,(.v M4)),(M7,(.f2 M1000 (.v M7) (.num J1))),(M8,(.v M8))],[(M21,(.v M21)),(M23,(.lit [])),(M25,(.v M25)),(M27,(.v M27))],[(M20,(.v M20)),(M22,(.f1 M9 (.num J0))),(M24,(.v M24)),(M26,(.v M26))],[(M0,(.f2 M1403 (.v M0) (.f2 M1410 (.f2 M1000 (.f1 M5 (.v M0)) (.num J1)) (.f2 M1410 (.num J1) (.f2 M1410 (.num J1) (.f2 M1410 (.v M2) (.f2 M1410 (.v M3) (.f2 M1410 (.num J0) (.f2 M1410 (.num J0) (.f2 M1410 (.num J1) (.f2 M1412 (.v M22) (.f2 M1411 (.v M23) (.f2 M1412 (.f1 M9 (.num J0)) (.f2 M1411 (.lit []) (.f2 M1411 (.lit []) (.f1 M8 (.num J0))))))))))))))))),(M1,(.f2 M1403 (.v M1) (.f2 M1410 (.f2 M1000 (.f1 M5 (.v M0)) (.num J1)) (.f1 M8 (.num J0))))),(M50,(.v M50))],[]⟩
def r1_120 : Rn := ⟨[(M2,(.f2 M1000 (.f1 M5 (.v M0)) (.num J1))),(M3,(.f2 M1000 (.f1 M5 (.v M0)) (.num J1))),(M4,(.v M4)),(M7,(.f2 M1000 (.v M7) (.num J1))),(M8,(.v M8))],[(M21,(.v M21)),(M23,(.v M23)),(M25,(.f1 M10 (.f2 M1000 (.f2 M3 (.f2 M100 (.v M50) (.v M7)) (.num J26)) (.num J97)))),(M27,(.v M27))],[(M20,(.v M20)),(M22,(.v M22)),(M24,(.f1 M9 (.num J1))),(M26,(.v M26))],[(M0,(.f2 M1403 (.v M0) (.f2 M1410 (.f2 M1000 (.f1 M5 (.v M0)) (.num J1)) (.f2 M1410 (.num J1) (.f2 M1410 (.num J1) (.f2 M1410 (.v M2) (.f2 M1410 (.v M3) (.f2 M1410 (.num J0) (.f2 M1410 (.num J0) (.f2 M1410 (.num J2) (.f2 M1412 (.v M24) (.f2 M1411 (.v M25) (.f2 M1412 (.f1 M9 (.num J1)) (.f2 M1411 (.f1 M10 (.f2 M1000 (.f2 M3 (.f2 M100 (.v M50) (.v M7)) (.num J26)) (.num J97))) (.f2 M1411 (.lit []) (.f1 M8 (.num J0))))))))))))))))),(M1,(.f2 M1403 (.v M1) (.f2 M1410 (.f2 M1000 (.f1 M5 (.v M0)) (.num J1)) (.f1 M8 (.num J0))))),(M50,(.v M50))],[]⟩
def r1_121 : Rn := ⟨[(M2,(.f2 M1000 (.f1 M5 (.v M0)) (.num J1))),(M3,(.f2 M1000 (.f1 M5 (.v M0)) (.num J1))),(M4,(.v M4)),(M7,(.f2 M1000 (.v M7) (.num J1))),(M8,(.v M8))],[(M21,(.v M21)),(M23,(.v M23)),(M25,(.lit [])),(M27,(.v M27))],[(M20,(.v M20)),(M22,(.v M22)),(M24,(.f1 M9 (.num J0))),(M26,(.v M26))],[(M0,(.f2 M1403 (.v M0) (.f2 M1410 (.f2 M1000 (.f1 M5 (.v M0)) (.num J1)) (.f2 M1410 (.num J1) (.f2 M1410 (.num J1) (.f2 M1410 (.v M2) (.f2 M1410 (.v M3) (.f2 M1410 (.num J0) (.f2 M1410 (.num J0) (.f2 M1410 (.num J2) (.f2 M1412 (.v M24) (.f2 M1411 (.v M25) (.f2 M1412 (.f1 M9 (.num J0)) (.f2 M1411 (.lit []) (.f2 M1411 (.lit []) (.f1 M8 (.num J0))))))))))))))))),(M1,(.f2 M1403 (.v M1) (.f2 M1410 (.f2 M1000 (.f1 M5 (.v M0)) (.num J1)) (.f1 M8 (.num J0))))),(M50,(.v M50))],[]⟩
def r1_130 : Rn := ⟨[(M2,(.f2 M1000 (.f1 M5 (.v M0)) (.num J1))),(M3,(.f2 M1000 (.f1 M5 (.v M0)) (.num J1))),(M4,(.v M4)),(M7,(.f2 M1000 (.v M7) (.num J1))),(M8,(.v M8))],[(M21,(.v M21)),(M23,(.v M23)),(M25,(.v M25)),(M27,(.f1 M10 (.f2 M1000 (.f2 M3 (.f2 M100 (.v M50) (.v M7)) (.num J26)) (.num J97))))],[(M20,(.v M20)),(M22,(.v M22)),(M24,(.v M24)),(M26,(.f1 M9 (.num J1)))],[(M0,(.f2 M1403 (.v M0) (.f2 M1410 (.f2 M1000 (.f1 M5 (.v M0)) (.num J1)) (.f2 M1410 (.num J1) (.f2 M1410 (.num J1) (.f2 M1410 (.v M2) (.f2 M1410 (.v M3) (.f2 M1410 (.num J0) (.f2 M1410 (.num J0) (.f2 M1410 (.num J3) (.f2 M1412 (.v M26) (.f2 M1411 (.v M27) (.f2 M1412 (.f1 M9 (.num J1)) (.f2 M1411 (.f1 M10 (.f2 M1000 (.f2 M3 (.f2 M100 (.v M50) (.v M7)) (.num J26)) (.num J97))) (.f2 M1411 (.lit []) (.f1 M8 (.num J0))))))))))))))))),(M1,(.f2 M1403 (.v M1) (.f2 M1410 (.f2 M1000 (.f1 M5 (.v M0)) (.num J1)) (.f1 M8 (.num J0))))),(M50,(.v M50))],[]⟩
def r1_131 : Rn := ⟨[(M2,(.f2 M1000 (.f1 M5 (.v M0)) (.num J1))),(M3,(.f2 M1000 (.f1 M5 (.v M0)) (.num J1))),(M4,(.v M4)),(M7,(.f2 M1000 (.v M7) (.num J1))),(M8,(.v M8))],[(M21,(.v M21)),(M23,(.v M23)),(M25,(.v M25)),(M27,(.lit []))],[(M20,(.v M20)),(M22,(.v M22)),(M24,(.v M24)),(M26,(.f1 M9 (.num J0)))],[(M0,(.f2 M1403 (.v M0) (.f2 M1410 (.f2 M1000 (.f1 M5 (.v M0)) (.num J1)) (.f2 M1410 (.num J1) (.f2 M1410 (.num J1) (.f2 M1410 (.v M2) (.f2 M1410 (.v M3) (.f2 M1410 (.num J0) (.f2 M1410 (.num J0) (.f2 M1410 (.num J3) (.f2 M1412 (.v M26) (.f2 M1411 (.v M27) (.f2 M1412 (.f1 M9 (.num J0)) (.f2 M1411 (.lit []) (.f2 M1411 (.lit []) (.f1 M8 (.num J0))))))))))))))))),(M1,(.f2 M1403 (.v M1) (.f2 M1410 (.f2 M1000 (.f1 M5 (.v M0)) (.num J1)) (.f1 M8 (.num J0))))),(M50,(.v M50))],[]⟩
def r1 (k s d : Nat) : Rn := match k,s,d with
  | 0,0,0 => r1_000
  | 0,0,1 => r1_001
  | 0,1,0 => r1_010
  | 0,1,1 => r1_011
  | 0,2,0 => r1_020
  | 0,2,1 => r1_021
  | 0,3,0 => r1_030
  | 0,3,1 => r1_031
  | _ + 1,0,0 => r1_100
  | _ + 1,0,1 => r1_101
  | _ + 1,1,0 => r1_110
  | _ + 1,1,1 => r1_111
  | _ + 1,2,0 => r1_120
  | _ + 1,2,1 => r1_121
  | _ + 1,3,0 => r1_130
  | _ + 1,3,1 => r1_131
  | _,_,_ => {}
def rx1 : Rn := ⟨[(M2,(.v M2)),(M3,(.v M3)),(M4,(.v M4))],[(M21,(.v M21)),(M23,(.v M23)),(M25,(.v M25)),(M27,(.v M27))],[(M20,(.v M20)),(M22,(.v M22)),(M24,(.v M24)),(M26,(.v M26))],[(M0,(.v M0)),(M1,(.v M1))],[]⟩
def rab : Rn := ⟨[(M2,(.f2 M1000 (.f1 M5 (.v M0)) (.num J1))),(M3,(.v M3)),(M4,(.v M4))],[(M21,(.v M21)),(M23,(.v M23)),(M25,(.v M25)),(M27,(.v M27))],[(M20,(.v M20)),(M22,(.v M22)),(M24,(.v M24)),(M26,(.v M26))],[(M0,(.f2 M1403 (.v M0) (.f2 M1410 (.f2 M1000 (.f1 M5 (.v M0)) (.num J1)) (.f2 M1410 (.num J4) (.f2 M1410 (.num J1) (.f2 M1410 (.v M2) (.f2 M1410 (.num J0) (.f2 M1410 (.num J0) (.f2 M1410 (.num J0) (.f2 M1410 (.num J0) (.f2 M1412 (.f1 M9 (.num J0)) (.f2 M1411 (.lit []) (.f2 M1412 (.f1 M9 (.num J0)) (.f2 M1411 (.lit []) (.f2 M1411 (.lit []) (.f1 M8 (.num J0))))))))))))))))),(M1,(.v M1))],[]⟩
def rA : Rn := ⟨[(M2,(.v M2)),(M3,(.v M3)),(M4,(.v M4))],[(M21,(.v M21)),(M23,(.v M23)),(M25,(.v M25)),(M27,(.v M27))],[(M20,(.v M20)),(M22,(.v M22)),(M24,(.v M24)),(M26,(.v M26))],[(M0,(.v M0)),(M1,(.v M1)),(M50,(.v M50))],[]⟩
def ru : Rn := ⟨[(M2,(.v M2)),(M3,(.v M3)),(M4,(.v M4)),(M11,(.f1 M5 (.v M50))),(M12,(.num J0))],[(M21,(.v M21)),(M23,(.v M23)),(M25,(.v M25)),(M27,(.v M27))],[(M20,(.v M20)),(M22,(.v M22)),(M24,(.v M24)),(M26,(.v M26))],[(M0,(.v M0)),(M1,(.v M1))],[]⟩
def rS : Rn := ⟨[(M2,(.num J0)),(M4,(.num J0)),(M7,(.num J0)),(M8,(.f1 M5 (.v M50)))],[],[],[(M0,(.f1 M7 (.num J0))),(M1,(.f1 M7 (.num J0))),(M50,(.v M50))],[]⟩
def rP : Rn := ⟨[],[],[],[(M50,(.v M50))],[]⟩
def rPc : Rn := ⟨[],[],[],[(M50,(.v M50))],[]⟩
def rF : Rn := ⟨[(M3,(.v M3)),(M4,(.v M4)),(M11,(.v M11)),(M12,(.f2 M1000 (.v M12) (.num J1)))],[(M21,(.v M21)),(M23,(.v M23)),(M25,(.v M25)),(M27,(.v M27))],[(M20,(.v M20)),(M22,(.v M22)),(M24,(.v M24)),(M26,(.v M26))],[(M0,(.f2 M1403 (.v M0) (.f2 M1410 (.f2 M1000 (.f1 M5 (.v M0)) (.num J1)) (.f2 M1410 (.num J5) (.f2 M1410 (.num J1) (.f2 M1410 (.v M2) (.f2 M1410 (.num J0) (.f2 M1410 (.num J0) (.f2 M1410 (.num J0) (.f2 M1410 (.num J0) (.f2 M1412 (.f1 M9 (.num J0)) (.f2 M1411 (.lit []) (.f2 M1412 (.f1 M9 (.num J0)) (.f2 M1411 (.lit []) (.f2 M1411 (.lit []) (.f1 M8 (.num J0)))))))))))))))))],[]⟩
def rX : Rn := ⟨[(M3,(.v M3)),(M4,(.v M4)),(M11,(.v M11))],[(M21,(.v M21)),(M23,(.v M23)),(M25,(.v M25)),(M27,(.v M27))],[(M20,(.v M20)),(M22,(.v M22)),(M24,(.v M24)),(M26,(.v M26))],[(M0,(.v M0))],[]⟩
def rK : Rn := ⟨[(M3,(.v M3)),(M4,(.v M4)),(M11,(.v M11))],[(M21,(.v M21)),(M23,(.v M23)),(M25,(.v M25)),(M27,(.v M27))],[(M20,(.v M20)),(M22,(.v M22)),(M24,(.v M24)),(M26,(.v M26))],[(M0,(.v M0))],[]⟩
def rT : Rn := ⟨[(M3,(.v M3)),(M4,(.v M4)),(M11,(.v M11)),(M13,(.num J0))],[(M21,(.v M21)),(M23,(.v M23)),(M25,(.v M25)),(M27,(.v M27))],[(M20,(.v M20)),(M22,(.v M22)),(M24,(.v M24)),(M26,(.v M26))],[(M0,(.v M0))],[]⟩
def rR : Rn := ⟨[(M3,(.v M3)),(M4,(.v M4)),(M11,(.v M11)),(M13,(.f2 M1000 (.v M13) (.num J1)))],[(M21,(.v M21)),(M23,(.v M23)),(M25,(.v M25)),(M27,(.v M27))],[(M20,(.v M20)),(M22,(.v M22)),(M24,(.v M24)),(M26,(.v M26))],[(M0,(.v M0))],[]⟩
def rY : Rn := ⟨[(M3,(.v M3)),(M4,(.v M4)),(M11,(.v M11))],[(M21,(.v M21)),(M23,(.v M23)),(M25,(.v M25)),(M27,(.v M27))],[(M20,(.v M20)),(M22,(.v M22)),(M24,(.v M24)),(M26,(.v M26))],[(M0,(.v M0))],[]⟩
def r5_0 : Rn := ⟨[(M2,(.f2 M1000 (.f1 M5 (.v M0)) (.num J1))),(M3,(.f2 M1000 (.f1 M5 (.v M0)) (.num J1))),(M4,(.v M4)),(M11,(.v M11)),(M12,(.f2 M1000 (.v M12) (.num J1)))],[(M21,(tE M109)),(M23,(.v M23)),(M25,(.v M25)),(M27,(.v M27))],[(M20,(tE M108)),(M22,(.v M22)),(M24,(.v M24)),(M26,(.v M26))],[(M0,(.f2 M1403 (.v M0) (.f2 M1410 (.f2 M1000 (.f1 M5 (.v M0)) (.num J1)) (.f2 M1410 (.num J2) (.f2 M1410 (.num J1) (.f2 M1410 (.v M2) (.f2 M1410 (.v M3) (.f2 M1410 (tE M100) (.f2 M1410 (.num J0) (.f2 M1410 (.num J0) (.f2 M1412 (tE M110) (.f2 M1411 (tE M111) (.f2 M1412 (tE M108) (.f2 M1411 (tE M109) (.f2 M1411 (.lit []) (.f1 M8 (.num J0))))))))))))))))),(M1,tD)],[]⟩
def r5_1 : Rn := ⟨[(M2,(.f2 M1000 (.f1 M5 (.v M0)) (.num J1))),(M3,(.f2 M1000 (.f1 M5 (.v M0)) (.num J1))),(M4,(.v M4)),(M11,(.v M11)),(M12,(.f2 M1000 (.v M12) (.num J1)))],[(M21,(.v M21)),(M23,(tE M109)),(M25,(.v M25)),(M27,(.v M27))],[(M20,(.v M20)),(M22,(tE M108)),(M24,(.v M24)),(M26,(.v M26))],[(M0,(.f2 M1403 (.v M0) (.f2 M1410 (.f2 M1000 (.f1 M5 (.v M0)) (.num J1)) (.f2 M1410 (.num J2) (.f2 M1410 (.num J1) (.f2 M1410 (.v M2) (.f2 M1410 (.v M3) (.f2 M1410 (tE M100) (.f2 M1410 (.num J0) (.f2 M1410 (.num J1) (.f2 M1412 (tE M110) (.f2 M1411 (tE M111) (.f2 M1412 (tE M108) (.f2 M1411 (tE M109) (.f2 M1411 (.lit []) (.f1 M8 (.num J0))))))))))))))))),(M1,tD)],[]⟩
def r5_2 : Rn := ⟨[(M2,(.f2 M1000 (.f1 M5 (.v M0)) (.num J1))),(M3,(.f2 M1000 (.f1 M5 (.v M0)) (.num J1))),(M4,(.v M4)),(M11,(.v M11)),(M12,(.f2 M1000 (.v M12) (.num J1)))],[(M21,(.v M21)),(M23,(.v M23)),(M25,(tE M109)),(M27,(.v M27))],[(M20,(.v M20)),(M22,(.v M22)),(M24,(tE M108)),(M26,(.v M26))],[(M0,(.f2 M1403 (.v M0) (.f2 M1410 (.f2 M1000 (.f1 M5 (.v M0)) (.num J1)) (.f2 M1410 (.num J2) (.f2 M1410 (.num J1) (.f2 M1410 (.v M2) (.f2 M1410 (.v M3) (.f2 M1410 (tE M100) (.f2 M1410 (.num J0) (.f2 M1410 (.num J2) (.f2 M1412 (tE M110) (.f2 M1411 (tE M111) (.f2 M1412 (tE M108) (.f2 M1411 (tE M109) (.f2 M1411 (.lit []) (.f1 M8 (.num J0))))))))))))))))),(M1,tD)],[]⟩
def r5_3 : Rn := ⟨[(M2,(.f2 M1000 (.f1 M5 (.v M0)) (.num J1))),(M3,(.f2 M1000 (.f1 M5 (.v M0)) (.num J1))),(M4,(.v M4)),(M11,(.v M11)),(M12,(.f2 M1000 (.v M12) (.num J1)))],[(M21,(.v M21)),(M23,(.v M23)),(M25,(.v M25)),(M27,(tE M109))],[(M20,(.v M20)),(M22,(.v M22)),(M24,(.v M24)),(M26,(tE M108))],[(M0,(.f2 M1403 (.v M0) (.f2 M1410 (.f2 M1000 (.f1 M5 (.v M0)) (.num J1)) (.f2 M1410 (.num J2) (.f2 M1410 (.num J1) (.f2 M1410 (.v M2) (.f2 M1410 (.v M3) (.f2 M1410 (tE M100) (.f2 M1410 (.num J0) (.f2 M1410 (.num J3) (.f2 M1412 (tE M110) (.f2 M1411 (tE M111) (.f2 M1412 (tE M108) (.f2 M1411 (tE M109) (.f2 M1411 (.lit []) (.f1 M8 (.num J0))))))))))))))))),(M1,tD)],[]⟩
def r5 (s : Nat) : Rn := match s with
  | 0 => r5_0
  | 1 => r5_1
  | 2 => r5_2
  | 3 => r5_3
  | _ => {}
def t1 : List (List (List Nat)) := [[[0,1,224,186,4,64,73],[0,1,224,186,4,64,73],[0,1,224,186,4,64,73],[0,1,224,186,4,64,73]],
  [[0,1,208,170,4,5,6],[0,1,257,219,4,80,95],[0,1,257,219,4,80,95],[0,1,257,219,4,80,95]],
  [[0,1,266,228,4,86,104],[0,1,208,170,4,5,6],[0,1,257,219,4,80,95],[0,1,257,219,4,80,95]],
  [[0,1,234,196,4,5,6],[0,1,234,196,4,5,6],[0,1,283,245,4,95,113],[0,1,283,245,4,95,113]],
  [[0,1,266,228,4,86,104],[0,1,266,228,4,86,104],[0,1,208,170,4,5,6],[0,1,257,219,4,80,95]],
  [[0,1,234,196,4,5,6],[0,1,301,263,4,107,131],[0,1,234,196,4,5,6],[0,1,283,245,4,95,113]],
  [[0,1,301,263,4,107,131],[0,1,234,196,4,5,6],[0,1,234,196,4,5,6],[0,1,283,245,4,95,113]],
  [[0,1,257,219,4,5,6],[0,1,257,219,4,5,6],[0,1,257,219,4,5,6],[0,1,318,280,4,116,140]],
  [[0,1,266,228,4,86,104],[0,1,266,228,4,86,104],[0,1,266,228,4,86,104],[0,1,208,170,4,5,6]],
  [[0,1,234,196,4,5,6],[0,1,301,263,4,107,131],[0,1,301,263,4,107,131],[0,1,234,196,4,5,6]],
  [[0,1,301,263,4,107,131],[0,1,234,196,4,5,6],[0,1,301,263,4,107,131],[0,1,234,196,4,5,6]],
  [[0,1,257,219,4,5,6],[0,1,257,219,4,5,6],[0,1,327,289,4,122,149],[0,1,257,219,4,5,6]],
  [[0,1,301,263,4,107,131],[0,1,301,263,4,107,131],[0,1,234,196,4,5,6],[0,1,234,196,4,5,6]],
  [[0,1,257,219,4,5,6],[0,1,330,292,4,122,149],[0,1,257,219,4,5,6],[0,1,257,219,4,5,6]],
  [[0,1,330,292,4,122,149],[0,1,257,219,4,5,6],[0,1,257,219,4,5,6],[0,1,257,219,4,5,6]],
  [[0,1,283,245,4,5,6],[0,1,283,245,4,5,6],[0,1,280,242,4,5,6],[0,1,280,242,4,5,6]]]
def tm : List (List (List Nat)) := [[[],[],[],[]],
  [[0,1,2,3,4,5,6],[0,2,122,4,55,54],[6,1,2,3,4,5],[0,1,2,3,4,5]],
  [[0,1,2,3,4,5,6],[0,2,122,4,55,54],[6,1,2,3,4,5],[0,1,2,3,4,5]],
  [[0,1,2,3,4,5,6],[0,2,146,4,70,69],[6,1,2,3,4,5],[0,1,2,3,4,5]],
  [[0,1,2,3,4,5,6],[0,2,122,4,55,54],[6,1,2,3,4,5],[0,1,2,3,4,5]],
  [[0,1,2,3,4,5,6],[0,2,146,4,70,69],[6,1,2,3,4,5],[0,1,2,3,4,5]],
  [[0,1,2,3,4,5,6],[0,2,146,4,70,69],[6,1,2,3,4,5],[0,1,2,3,4,5]],
  [[0,1,2,3,4,5,6],[0,2,170,4,85,84],[6,1,2,3,4,5],[0,1,2,3,4,5]],
  [[0,1,2,3,4,5,6],[0,2,122,4,55,54],[6,1,2,3,4,5],[0,1,2,3,4,5]],
  [[0,1,2,3,4,5,6],[0,2,146,4,70,69],[6,1,2,3,4,5],[0,1,2,3,4,5]],
  [[0,1,2,3,4,5,6],[0,2,146,4,70,69],[6,1,2,3,4,5],[0,1,2,3,4,5]],
  [[0,1,2,3,4,5,6],[0,2,170,4,85,84],[6,1,2,3,4,5],[0,1,2,3,4,5]],
  [[0,1,2,3,4,5,6],[0,2,146,4,70,69],[6,1,2,3,4,5],[0,1,2,3,4,5]],
  [[0,1,2,3,4,5,6],[0,2,170,4,85,84],[6,1,2,3,4,5],[0,1,2,3,4,5]],
  [[0,1,2,3,4,5,6],[0,2,170,4,85,84],[6,1,2,3,4,5],[0,1,2,3,4,5]],
  [[0,1,2,3,4,5,6],[0,2,194,4,100,99],[6,1,2,3,4,5],[0,1,2,3,4,5]]]
def t50 : List (List (List Nat)) := [[[],[],[],[],[],[],[],[]],
  [[0,221,186,3,4,5],[0,221,186,3,241,240],[],[],[],[],[],[]],
  [[],[],[0,221,186,3,4,5],[0,221,186,3,241,240],[],[],[],[]],
  [[0,253,218,3,4,5],[0,253,218,3,280,279],[0,253,218,3,4,5],[0,253,218,3,280,279],[],[],[],[]],
  [[],[],[],[],[0,221,186,3,4,5],[0,221,186,3,241,240],[],[]],
  [[0,253,218,3,4,5],[0,253,218,3,280,279],[],[],[0,253,218,3,4,5],[0,253,218,3,280,279],[],[]],
  [[],[],[0,253,218,3,4,5],[0,253,218,3,280,279],[0,253,218,3,4,5],[0,253,218,3,280,279],[],[]],
  [[0,285,250,3,4,5],[0,285,250,3,319,318],[0,285,250,3,4,5],[0,285,250,3,319,318],[0,285,250,3,4,5],[0,285,250,3,319,318],[],[]],
  [[],[],[],[],[],[],[0,221,186,3,4,5],[0,221,186,3,241,240]],
  [[0,253,218,3,4,5],[0,253,218,3,280,279],[],[],[],[],[0,253,218,3,4,5],[0,253,218,3,280,279]],
  [[],[],[0,253,218,3,4,5],[0,253,218,3,280,279],[],[],[0,253,218,3,4,5],[0,253,218,3,280,279]],
  [[0,285,250,3,4,5],[0,285,250,3,319,318],[0,285,250,3,4,5],[0,285,250,3,319,318],[],[],[0,285,250,3,4,5],[0,285,250,3,319,318]],
  [[],[],[],[],[0,253,218,3,4,5],[0,253,218,3,280,279],[0,253,218,3,4,5],[0,253,218,3,280,279]],
  [[0,285,250,3,4,5],[0,285,250,3,319,318],[],[],[0,285,250,3,4,5],[0,285,250,3,319,318],[0,285,250,3,4,5],[0,285,250,3,319,318]],
  [[],[],[0,285,250,3,4,5],[0,285,250,3,319,318],[0,285,250,3,4,5],[0,285,250,3,319,318],[0,285,250,3,4,5],[0,285,250,3,319,318]],
  [[0,317,282,3,4,5],[0,317,282,3,358,357],[0,317,282,3,4,5],[0,317,282,3,358,357],[0,317,282,3,4,5],[0,317,282,3,358,357],[0,317,282,3,4,5],[0,317,282,3,358,357]]]
def t51 : List (List (List Nat)) := [[[],[],[],[],[],[],[],[]],
  [[0,221,186,3,4,5],[0,221,186,3,241,240],[],[],[],[],[],[]],
  [[],[],[0,221,186,3,4,5],[0,221,186,3,241,240],[],[],[],[]],
  [[0,253,218,3,4,5],[0,253,218,3,280,279],[0,253,218,3,4,5],[0,253,218,3,280,279],[],[],[],[]],
  [[],[],[],[],[0,221,186,3,4,5],[0,221,186,3,241,240],[],[]],
  [[0,253,218,3,4,5],[0,253,218,3,280,279],[],[],[0,253,218,3,4,5],[0,253,218,3,280,279],[],[]],
  [[],[],[0,253,218,3,4,5],[0,253,218,3,280,279],[0,253,218,3,4,5],[0,253,218,3,280,279],[],[]],
  [[0,285,250,3,4,5],[0,285,250,3,319,318],[0,285,250,3,4,5],[0,285,250,3,319,318],[0,285,250,3,4,5],[0,285,250,3,319,318],[],[]],
  [[],[],[],[],[],[],[0,221,186,3,4,5],[0,221,186,3,241,240]],
  [[0,253,218,3,4,5],[0,253,218,3,280,279],[],[],[],[],[0,253,218,3,4,5],[0,253,218,3,280,279]],
  [[],[],[0,253,218,3,4,5],[0,253,218,3,280,279],[],[],[0,253,218,3,4,5],[0,253,218,3,280,279]],
  [[0,285,250,3,4,5],[0,285,250,3,319,318],[0,285,250,3,4,5],[0,285,250,3,319,318],[],[],[0,285,250,3,4,5],[0,285,250,3,319,318]],
  [[],[],[],[],[0,253,218,3,4,5],[0,253,218,3,280,279],[0,253,218,3,4,5],[0,253,218,3,280,279]],
  [[0,285,250,3,4,5],[0,285,250,3,319,318],[],[],[0,285,250,3,4,5],[0,285,250,3,319,318],[0,285,250,3,4,5],[0,285,250,3,319,318]],
  [[],[],[0,285,250,3,4,5],[0,285,250,3,319,318],[0,285,250,3,4,5],[0,285,250,3,319,318],[0,285,250,3,4,5],[0,285,250,3,319,318]],
  [[0,317,282,3,4,5],[0,317,282,3,358,357],[0,317,282,3,4,5],[0,317,282,3,358,357],[0,317,282,3,4,5],[0,317,282,3,358,357],[0,317,282,3,4,5],[0,317,282,3,358,357]]]
def at2 (t : List (List (List Nat))) (k s : Nat) : List (Bid × Bid) := bM ((t.getD k []).getD s [])
def fC : List Fc := [.rng (.f1 M5 (.v M50)) J1 J30]
def fB : List Fc := [.rng (.f1 M5 (.v M50)) J0 J0]
def fA : List Fc := [.rng (.f1 M5 (.v M50)) J31 J9223372036854775807]
noncomputable def run10 (k s : Nat) : Bool := endsAt .nrm (at2 t1 k s) (r1 k s 0).nms (st1 (k ||| 2 ^ s)) (aev Tryz.prog (envR (fg10 s ++ (fIn1 ++ (fb4 k)))) (tblM (fg10 s ++ (fIn1 ++ (fb4 k)))) M9000 (chB) (st1 k).frame (st1 k).hp)
noncomputable def run11 (k s : Nat) : Bool := endsAt .nrm (at2 t1 k s) (r1 k s 1).nms (st1 (k ||| 2 ^ s)) (aev Tryz.prog (envR (fg11 s ++ (fIn1 ++ (fb4 k)))) (tblM (fg11 s ++ (fIn1 ++ (fb4 k)))) M9000 (chB) (st1 k).frame (st1 k).hp)
noncomputable def run1x (k : Nat) : Bool := endsAt (.ex M0) (at2 tm k 0) (rx1).nms (st1x k) (aev Tryz.prog (envR (fOut1)) (tblM (fOut1)) M9000 (chB) (st1 k).frame (st1 k).hp)
noncomputable def runAb (k : Nat) : Bool := endsAt .ret (at2 tm k 1) (rab).nms (stCo k) (aev Tryz.prog (envR (fAB k ++ (fb4 k))) (tblM (fAB k ++ (fb4 k))) M9000 (chRe) (st1x k).frame (st1x k).hp)
noncomputable def run2 (k : Nat) : Bool := endsAt .nrm (at2 tm k 3) (ru).nms (stU 0 k) (runL Tryz.prog (envR (fC)) (tblM (fC)) M9000 (cutL 1 lw2 ++ [lwRi]) (stA k).frame (stA k).hp)
def subC (L : List (AC × AC)) (c : AC) : AC := match L with
  | [] => c
  | x :: l => bif decide (x.1 = c) then x.2 else subC l c
def sub5 (s : Nat) : List (AC × AC) := [(.sb (.v (20 + 2 * s)),.sb (tE M110)),(.ss (.v (21 + 2 * s)),.ss (tE M111))]
def k2m (k s : Nat) : Nat := Nat.xor k (2 ^ s)
noncomputable def run50m (k s : Nat) : Bool := endsAt .nrm (at2 t50 k (2 * s)) (r5 s).nms (stU 0 k) (aev Tryz.prog (envR (fg s k ++ (fI ++ (fU)))) (tblM (fg s k ++ (fI ++ (fU)))) M9000 (lwB) ((stU 0 k).map (subC (sub5 s))).frame ((stU 0 k).map (subC (sub5 s))).hp)
noncomputable def run50d (k s : Nat) : Bool := endsAt .nrm (at2 t50 k (2 * s + 1)) (r5 s).nms (stU 1 (k2m k s)) (aev Tryz.prog (envR (fg s (k2m k s) ++ (fI ++ (fU)))) (tblM (fg s (k2m k s) ++ (fI ++ (fU)))) M9000 (lwB) ((stU 0 k).map (subC (sub5 s))).frame ((stU 0 k).map (subC (sub5 s))).hp)
noncomputable def run51m (k s : Nat) : Bool := endsAt .nrm (at2 t51 k (2 * s)) (r5 s).nms (stU 1 k) (aev Tryz.prog (envR (fg s k ++ (fI ++ (fU)))) (tblM (fg s k ++ (fI ++ (fU)))) M9000 (lwB) ((stU 1 k).map (subC (sub5 s))).frame ((stU 1 k).map (subC (sub5 s))).hp)
noncomputable def run51d (k s : Nat) : Bool := endsAt .nrm (at2 t51 k (2 * s + 1)) (r5 s).nms (stU 1 (k2m k s)) (aev Tryz.prog (envR (fg s (k2m k s) ++ (fI ++ (fU)))) (tblM (fg s (k2m k s) ++ (fI ++ (fU)))) M9000 (lwB) ((stU 1 k).map (subC (sub5 s))).frame ((stU 1 k).map (subC (sub5 s))).hp)
noncomputable def run1 (k s : Nat) : Bool := run10 k s && run11 k s
noncomputable def run1q (k : Nat) : Bool := run1x k && (runAb k && run2 k)
noncomputable def run5 (k s : Nat) : Bool := (run50m k s && run50d k s) && (run51m k s && run51d k s)
theorem runS : endsAt .nrm (bM [0, 8, 107, 23, 3]) (rS).nms (st1 0) (runL Tryz.prog (envR (fC)) tblC M9000 (cutL 5 chBody ++ [chRi]) (sC0).frame (sC0).hp) = true := by kernel_rfl
theorem runTA : endsAt .ret ([]) (({} : Rn)).nms (sTL) (aev Tryz.prog (envR (fA)) (tblM (fA)) M9000 (lwBody) (s0L).frame (s0L).hp) = true := by kernel_rfl
theorem runTB : endsAt .ret ([]) (({} : Rn)).nms (sTL) (aev Tryz.prog (envR (fB)) (tblM (fB)) M9000 (lwBody) (s0L).frame (s0L).hp) = true := by kernel_rfl
theorem runP : endsAt .nrm ([]) (rP).nms (sP0) (runL Tryz.prog (envR (fC)) (tblM (fC)) M9000 (cutL 2 lwBody) (s0L).frame (s0L).hp) = true := by kernel_rfl
theorem runF : endsAt .nrm (bM [0, 1, 106, 3, 132, 133]) (rF).nms (sE7) (aev Tryz.prog (envR (fQ0 ++ (fI ++ (fU)))) (tblM (fQ0 ++ (fI ++ (fU)))) M9000 (lwB) (stU 1 0).frame (stU 1 0).hp) = true := by kernel_rfl
theorem runX : endsAt (.ex M0) (bM [0, 1, 2, 3, 4, 5]) (rX).nms (sE0) (aev Tryz.prog (envR ([])) (tblM ([])) M9000 (lwB) (sE7).frame (sE7).hp) = true := by kernel_rfl
theorem runK : endsAt .nrm (bM [0, 1, 2, 3, 4, 5]) (rK).nms (sE0) (runL Tryz.prog (envR (fE)) (tblM (fE)) M9000 (cutL 1 lw3) (sE0).frame (sE0).hp) = true := by kernel_rfl
theorem runJ : endsAt .nrm (bM [0, 1, 2, 3, 4, 5]) (rT).nms (sT2) (aev Tryz.prog (envR ([])) (tblM ([])) M9000 (lwRj) (sE0).frame (sE0).hp) = true := by kernel_rfl
theorem runR00 : endsAt .nrm (bM [0, 1, 2, 3, 4, 5]) (rR).nms (sT2) (aev Tryz.prog (envR (fT ++ (fTb false false))) (tblM (fT ++ (fTb false false))) M9000 (lwT) (sT2).frame (sT2).hp) = true := by kernel_rfl
theorem runR01 : endsAt .nrm (bM [0, 1, 2, 3, 4, 5]) (rR).nms (sT2) (aev Tryz.prog (envR (fT ++ (fTb false true))) (tblM (fT ++ (fTb false true))) M9000 (lwT) (sT2).frame (sT2).hp) = true := by kernel_rfl
theorem runR10 : endsAt .nrm (bM [0, 1, 2, 3, 4, 5]) (rR).nms (sT2) (aev Tryz.prog (envR (fT ++ (fTb true false))) (tblM (fT ++ (fTb true false))) M9000 (lwT) (sT2).frame (sT2).hp) = true := by kernel_rfl
theorem runR11 : endsAt .nrm (bM [0, 1, 2, 3, 4, 5]) (rR).nms (sT2) (aev Tryz.prog (envR (fT ++ (fTb true true))) (tblM (fT ++ (fTb true true))) M9000 (lwT) (sT2).frame (sT2).hp) = true := by kernel_rfl
theorem runY : endsAt (.ex M2) (bM [0, 1, 2, 3, 4, 5]) (rY).nms (sE0) (aev Tryz.prog (envR (fTx)) (tblM (fTx)) M9000 (lwT) (sT2).frame (sT2).hp) = true := by kernel_rfl
theorem runL_ : endsAt .ret ([]) (({} : Rn)).nms (sTL) (aev Tryz.prog (envR (fL)) (tblM (fL)) M9000 (lwE) (sE0).frame (sE0).hp) = true := by kernel_rfl
theorem saysT : saysTrue lwRes sTL = true := by kernel_rfl
end Go.Proofs.YtnofmmceafkkoaaGreat
