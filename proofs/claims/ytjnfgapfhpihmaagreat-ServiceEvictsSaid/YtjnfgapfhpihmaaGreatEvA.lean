/-
  A verified evaluator of the model: EvA.
-/
import Derived.Calls
import Derived.Laws.CopyRow
import Derived.Laws.Cells
import Derived.Laws.Rows
import Derived.Laws.NewBlocks
import Derived.Below
set_option linter.unusedVariables false
set_option linter.unusedSimpArgs false
namespace Go.Proofs.YtjnfgapfhpihmaaGreat
inductive D16 where
  | x0 | x1 | x2 | x3 | x4 | x5 | x6 | x7 | x8 | x9 | xa | xb | xc | xd | xe | xf
  deriving Repr, DecidableEq, Inhabited
structure N16 (α : Type) where
  a0 : α
  a1 : α
  a2 : α
  a3 : α
  a4 : α
  a5 : α
  a6 : α
  a7 : α
  a8 : α
  a9 : α
  aa : α
  ab : α
  ac : α
  ad : α
  ae : α
  af : α
def N16.get {α : Type} (d : D16) : N16 α → α := D16.casesOn (motive := fun _ => N16 α → α) d N16.a0 N16.a1 N16.a2 N16.a3 N16.a4 N16.a5 N16.a6 N16.a7 N16.a8 N16.a9 N16.aa N16.ab N16.ac N16.ad N16.ae N16.af
def N16.p0 {α : Type} (v : α) (t : N16 α) : N16 α := N16.casesOn (motive := fun _ => N16 α) t fun _ a1 a2 a3 a4 a5 a6 a7 a8 a9 aa ab ac ad ae af => ⟨v, a1, a2, a3, a4, a5, a6, a7, a8, a9, aa, ab, ac, ad, ae, af⟩
def N16.p1 {α : Type} (v : α) (t : N16 α) : N16 α := N16.casesOn (motive := fun _ => N16 α) t fun a0 _ a2 a3 a4 a5 a6 a7 a8 a9 aa ab ac ad ae af => ⟨a0, v, a2, a3, a4, a5, a6, a7, a8, a9, aa, ab, ac, ad, ae, af⟩
def N16.p2 {α : Type} (v : α) (t : N16 α) : N16 α := N16.casesOn (motive := fun _ => N16 α) t fun a0 a1 _ a3 a4 a5 a6 a7 a8 a9 aa ab ac ad ae af => ⟨a0, a1, v, a3, a4, a5, a6, a7, a8, a9, aa, ab, ac, ad, ae, af⟩
def N16.p3 {α : Type} (v : α) (t : N16 α) : N16 α := N16.casesOn (motive := fun _ => N16 α) t fun a0 a1 a2 _ a4 a5 a6 a7 a8 a9 aa ab ac ad ae af => ⟨a0, a1, a2, v, a4, a5, a6, a7, a8, a9, aa, ab, ac, ad, ae, af⟩
def N16.p4 {α : Type} (v : α) (t : N16 α) : N16 α := N16.casesOn (motive := fun _ => N16 α) t fun a0 a1 a2 a3 _ a5 a6 a7 a8 a9 aa ab ac ad ae af => ⟨a0, a1, a2, a3, v, a5, a6, a7, a8, a9, aa, ab, ac, ad, ae, af⟩
def N16.p5 {α : Type} (v : α) (t : N16 α) : N16 α := N16.casesOn (motive := fun _ => N16 α) t fun a0 a1 a2 a3 a4 _ a6 a7 a8 a9 aa ab ac ad ae af => ⟨a0, a1, a2, a3, a4, v, a6, a7, a8, a9, aa, ab, ac, ad, ae, af⟩
def N16.p6 {α : Type} (v : α) (t : N16 α) : N16 α := N16.casesOn (motive := fun _ => N16 α) t fun a0 a1 a2 a3 a4 a5 _ a7 a8 a9 aa ab ac ad ae af => ⟨a0, a1, a2, a3, a4, a5, v, a7, a8, a9, aa, ab, ac, ad, ae, af⟩
def N16.p7 {α : Type} (v : α) (t : N16 α) : N16 α := N16.casesOn (motive := fun _ => N16 α) t fun a0 a1 a2 a3 a4 a5 a6 _ a8 a9 aa ab ac ad ae af => ⟨a0, a1, a2, a3, a4, a5, a6, v, a8, a9, aa, ab, ac, ad, ae, af⟩
def N16.p8 {α : Type} (v : α) (t : N16 α) : N16 α := N16.casesOn (motive := fun _ => N16 α) t fun a0 a1 a2 a3 a4 a5 a6 a7 _ a9 aa ab ac ad ae af => ⟨a0, a1, a2, a3, a4, a5, a6, a7, v, a9, aa, ab, ac, ad, ae, af⟩
def N16.p9 {α : Type} (v : α) (t : N16 α) : N16 α := N16.casesOn (motive := fun _ => N16 α) t fun a0 a1 a2 a3 a4 a5 a6 a7 a8 _ aa ab ac ad ae af => ⟨a0, a1, a2, a3, a4, a5, a6, a7, a8, v, aa, ab, ac, ad, ae, af⟩
def N16.pa {α : Type} (v : α) (t : N16 α) : N16 α := N16.casesOn (motive := fun _ => N16 α) t fun a0 a1 a2 a3 a4 a5 a6 a7 a8 a9 _ ab ac ad ae af => ⟨a0, a1, a2, a3, a4, a5, a6, a7, a8, a9, v, ab, ac, ad, ae, af⟩
def N16.pb {α : Type} (v : α) (t : N16 α) : N16 α := N16.casesOn (motive := fun _ => N16 α) t fun a0 a1 a2 a3 a4 a5 a6 a7 a8 a9 aa _ ac ad ae af => ⟨a0, a1, a2, a3, a4, a5, a6, a7, a8, a9, aa, v, ac, ad, ae, af⟩
def N16.pc {α : Type} (v : α) (t : N16 α) : N16 α := N16.casesOn (motive := fun _ => N16 α) t fun a0 a1 a2 a3 a4 a5 a6 a7 a8 a9 aa ab _ ad ae af => ⟨a0, a1, a2, a3, a4, a5, a6, a7, a8, a9, aa, ab, v, ad, ae, af⟩
def N16.pd {α : Type} (v : α) (t : N16 α) : N16 α := N16.casesOn (motive := fun _ => N16 α) t fun a0 a1 a2 a3 a4 a5 a6 a7 a8 a9 aa ab ac _ ae af => ⟨a0, a1, a2, a3, a4, a5, a6, a7, a8, a9, aa, ab, ac, v, ae, af⟩
def N16.pe {α : Type} (v : α) (t : N16 α) : N16 α := N16.casesOn (motive := fun _ => N16 α) t fun a0 a1 a2 a3 a4 a5 a6 a7 a8 a9 aa ab ac ad _ af => ⟨a0, a1, a2, a3, a4, a5, a6, a7, a8, a9, aa, ab, ac, ad, v, af⟩
def N16.pf {α : Type} (v : α) (t : N16 α) : N16 α := N16.casesOn (motive := fun _ => N16 α) t fun a0 a1 a2 a3 a4 a5 a6 a7 a8 a9 aa ab ac ad ae _ => ⟨a0, a1, a2, a3, a4, a5, a6, a7, a8, a9, aa, ab, ac, ad, ae, v⟩
def N16.put {α : Type} (d : D16) : α → N16 α → N16 α := D16.casesOn (motive := fun _ => α → N16 α → N16 α) d N16.p0 N16.p1 N16.p2 N16.p3 N16.p4 N16.p5 N16.p6 N16.p7 N16.p8 N16.p9 N16.pa N16.pb N16.pc N16.pd N16.pe N16.pf
def N16.rep {α : Type} (v : α) : N16 α := ⟨v, v, v, v, v, v, v, v, v, v, v, v, v, v, v, v⟩
def D16.val : D16 → Nat
  | .x0 => 0
  | .x1 => 1
  | .x2 => 2
  | .x3 => 3
  | .x4 => 4
  | .x5 => 5
  | .x6 => 6
  | .x7 => 7
  | .x8 => 8
  | .x9 => 9
  | .xa => 10
  | .xb => 11
  | .xc => 12
  | .xd => 13
  | .xe => 14
  | .xf => 15
def D16.of : Nat → Option D16
  | 0 => some .x0
  | 1 => some .x1
  | 2 => some .x2
  | 3 => some .x3
  | 4 => some .x4
  | 5 => some .x5
  | 6 => some .x6
  | 7 => some .x7
  | 8 => some .x8
  | 9 => some .x9
  | 10 => some .xa
  | 11 => some .xb
  | 12 => some .xc
  | 13 => some .xd
  | 14 => some .xe
  | 15 => some .xf
  | _ => none
def D16.inc (d : D16) : Option D16 := D16.casesOn (motive := fun _ => Option D16) d (some .x1) (some .x2) (some .x3) (some .x4) (some .x5) (some .x6) (some .x7) (some .x8) (some .x9) (some .xa) (some .xb) (some .xc) (some .xd) (some .xe) (some .xf) none
structure Bid where
  a : D16
  b : D16
  c : D16
  deriving Repr, DecidableEq, Inhabited
def Bid.num (i : Bid) : Nat := i.a.val * 256 + i.b.val * 16 + i.c.val
def Bid.of (n : Nat) : Option Bid := match D16.of (n / 256), D16.of (n / 16 % 16), D16.of (n % 16) with
  | some a, some b, some c => some ⟨a, b, c⟩
  | _, _, _ => none
def inc3 (a b : D16) : Option Bid := Option.casesOn (motive := fun _ => Option Bid) b.inc (Option.casesOn (motive := fun _ => Option Bid) a.inc none fun a => some ⟨a, .x0, .x0⟩) fun b => some ⟨a, b, .x0⟩
def Bid.inc (i : Bid) : Option Bid := Option.casesOn (motive := fun _ => Option Bid) i.c.inc (inc3 i.a i.b) fun c => some ⟨i.a, i.b, c⟩
inductive Nm where
  | v (n : Nat)
  | lit (l : List Nat)
  | num (n : Int)
  | f1 (f : Nat) (a : Nm)
  | f2 (f : Nat) (a b : Nm)
  deriving Repr, DecidableEq, Inhabited
inductive Sh where
  | nil
  | b (t : Sh)
  | i (k : IntKind) (t : Sh)
  | s (t : Sh)
  | sl (e t : Sh)
  deriving Repr, DecidableEq, Inhabited
def Sh.len : Sh → Nat
  | .nil => 0
  | .b t => t.len + 1
  | .i _ t => t.len + 1
  | .s t => t.len + 1
  | .sl _ t => t.len + 1
inductive DV where
  | b (x : Bool)
  | i (n : Int)
  | s (y : ByteArray)
  | sl (l : List (List DV))
  deriving Inhabited
inductive AC where
  | b (x : Bool)
  | i (k : IntKind) (n : Int)
  | s (l : List Nat)
  | pn
  | p (id : Bid) (off : Nat)
  | sn
  | sl (id : Bid) (off len cap : Nat)
  | su (id : Bid) (off len lb es : Nat)
  | se (id : Bid) (es : Nat)
  | mn
  | mp (id : Bid)
  | fn (f : Bid) (first caps : List (Bid × Nat))
  | fz
  | ni
  | si (k : IntKind) (y : Nm)
  | ss (y : Nm)
  | top
  | sb (y : Nm)
  | ds (e : Sh) (y : Nm)
  | pd (e : Sh) (y t : Nm) (o : Nat)
  | gv (y : Nm)
  | ge (lo : Nat)
  | dc (e : Sh) (y : Nm)
  | sr (id : Bid) (e : Sh) (y : Nm)
  deriving Repr, DecidableEq, Inhabited
inductive TV where
  | c (x : AC)
  | a (l : List AC)
  deriving Repr, Inhabited
inductive AV where
  | c (x : AC)
  | a (l : List AC)
  | t (l : List TV)
  deriving Repr, Inhabited
def TV.av (v : TV) : AV := TV.casesOn (motive := fun _ => AV) v AV.c AV.a
def AV.tv (v : AV) : Option TV := AV.casesOn (motive := fun _ => Option TV) v (fun x => some (.c x)) (fun l => some (.a l)) (fun _ => none)
def AV.cells (v : AV) : Option (List AC) := AV.casesOn (motive := fun _ => Option (List AC)) v (fun x => some [x]) some (fun _ => none)
def AC.beq (x y : AC) : Bool := decide (x = y)
def AV.beq : AV → AV → Bool
  | .c x, .c y => AC.beq x y
  | .a l, .a m => decide (l = m)
  | _, _ => false
inductive AX where
  | t (i j : D16)
  | k (v : AV)
  deriving Repr, Inhabited
inductive CK where
  | b | i | s
  deriving Repr, DecidableEq, Inhabited
inductive AO where
  | mv (x : AX)
  | pick (c x y : AX)
  | gen (o : Op)
  | bin (op : BinOp) (x y : AX)
  | not (x : AX)
  | ci (k : IntKind) (x : AX)
  | eqs (neg : Bool) (x y : AX)
  | eqa (neg : Bool) (ks : List CK) (x y : AX)
  | al (z : List AC)
  | bx (x : AX)
  | bd (z : List AC) (ps : List (Nat × Nat × AX))
  | bs (z : List AC) (len : Nat) (ps : List (Nat × Nat × AX))
  | ld (x : AX)
  | ldn (n : Nat) (x : AX)
  | st (n : Nat) (x v : AX)
  | nc (x : AX)
  | mf (f : Bid) (first caps : List AX)
  | ixa (n size : Nat) (agg : Bool) (x i : AX)
  | mm
  | ms (z : List AC) (bytes : Nat) (l c : AX)
  | sll (size : Nat) (x : AX) (lo hi mx : Option AX)
  | sla (n size : Nat) (x : AX) (lo hi mx : Option AX)
  | fa (off : Nat) (x : AX)
  | fd (off : Nat) (x : AX)
  | fdn (off n : Nat) (x : AX)
  | iaa (n size : Nat) (x i : AX)
  | ias (size : Nat) (x i : AX)
  | eqn (neg : Bool) (x y : AX)
  | len (x : AX)
  | lens (x : AX)
  | cap (x : AX)
  | lk (z : AV) (ok : Bool) (ag : Bool) (ks : List CK) (x i : AX)
  | mu (ag : Bool) (ks : List CK) (m k v : AX)
  | ex (x : AX) (i : Nat)
  | bts (x : AX)
  | call (f : Bid) (args : List AX)
  | cv (x : AX) (args : List AX)
  | ap (size bytes : Nat) (x y : AX)
  | apz (size bytes : Nat) (z : List AC) (x y : AX)
  | cp (size : Nat) (x y : AX)
  | clr (z : List AC) (x : AX)
  | ov (x y : AX)
  | no
  deriving Inhabited
inductive AK where
  | pure | read (lo : Nat) | make | effect
  deriving Repr, Inhabited
structure AOp where
  dst : Option (D16 × D16)
  op : AO
  guard : Option (D16 × D16 × Bool)
  deriving Inhabited
inductive ACd where
  | skip
  | reg (l : List AOp)
  | dreg (l : List (AOp × AK))
  | seq (a b : ACd)
  | cond (c : AX) (x y : ACd)
  | block (id : Nat) (b : ACd)
  | loop (b : ACd)
  | exit (id : Nat)
  | ret
  | bad
  deriving Inhabited
inductive AR where
  | tmp (i j : D16)
  | cell (i j : D16)
  | cells (i j : D16) (n : Nat)
  deriving Repr, Inhabited
inductive AB where
  | cells (c : List AC)
  | map (l : List (AV × AV))
  | row (e : Sh) (y : Nm)
structure Hp where
  next : Bid
  bl : N16 (N16 (N16 (Option AB)))
inductive RO where
  | no
  | ok (v : AV) (h : Hp)
inductive AFn where
  | code (body : ACd) (results : List AR)
  | nat (g : List AV → Option AV)
  | natm (g : List AV → Hp → RO)
  deriving Inhabited
abbrev Fr := N16 (N16 (Option AV))
abbrev Tab := N16 (N16 (N16 (Option AFn)))
def Fr.nil : Fr := N16.rep (N16.rep none)
def bl0 : N16 (N16 (N16 (Option AB))) := N16.rep (N16.rep (N16.rep none))
def get3 {α : Type} (t : N16 (N16 (N16 α))) (i : Bid) : α := Bid.casesOn (motive := fun _ => α) i fun a b c => N16.get c (N16.get b (N16.get a t))
def put3 {α : Type} (t : N16 (N16 (N16 α))) (i : Bid) (v : α) : N16 (N16 (N16 α)) := Bid.casesOn (motive := fun _ => N16 (N16 (N16 α))) i fun a b c => N16.put a (N16.put b (N16.put c v (N16.get b (N16.get a t))) (N16.get a t)) t
def getF (i j : D16) (fr : Fr) : Option AV := N16.get j (N16.get i fr)
def putF (i j : D16) (v : AV) (fr : Fr) : Fr := N16.put i (N16.put j (some v) (N16.get i fr)) fr
def evK (v : AV) (_ : Fr) : Option AV := some v
def ev (x : AX) : Fr → Option AV := AX.casesOn (motive := fun _ => Fr → Option AV) x getF evK
def Hp.get (h : Hp) (id : Bid) : Option AB := Hp.casesOn (motive := fun _ => Option AB) h fun _ bl => get3 bl id
inductive RF where
  | no
  | ok (fr : Fr) (h : Hp)
inductive RC where
  | no
  | nrm (fr : Fr) (h : Hp)
  | ex (id : Nat) (fr : Fr) (h : Hp)
  | ret (fr : Fr) (h : Hp)
def ob {α β : Type} (o : Option α) (f : α → Option β) : Option β := Option.casesOn (motive := fun _ => Option β) o none f
def ro {α : Type} (o : Option α) (f : α → RO) : RO := Option.casesOn (motive := fun _ => RO) o .no f
noncomputable def evs (fr : Fr) (l : List AX) : Option (List AV) :=
  @List.rec AX (fun _ => Option (List AV)) (some []) (fun x _ ih => ob (ev x fr) fun v => ob ih fun vs => some (v :: vs)) l
def bo {α : Type} (b : Bool) (o : Option α) : Option α := Bool.casesOn (motive := fun _ => Option α) b none o
def br (b : Bool) (o : RO) : RO := Bool.casesOn (motive := fun _ => RO) b .no o
def Hp.putB (h : Hp) (id : Bid) (b : Option AB) : Hp := Hp.casesOn (motive := fun _ => Hp) h fun n bl => ⟨n, put3 bl id b⟩
def new (h : Hp) (b : AB) (k : Bid → AV) : RO := Hp.casesOn (motive := fun _ => RO) h fun i bl => ro i.inc fun n => .ok (k i) ⟨n, put3 bl i (some b)⟩
noncomputable def lget {α : Type} (n : Nat) : List α → Option α :=
  @Nat.rec (fun _ => List α → Option α) (fun l => List.casesOn (motive := fun _ => Option α) l none fun x _ => some x) (fun _ ih l => List.casesOn (motive := fun _ => Option α) l none fun _ t => ih t) n
noncomputable def ltake {α : Type} (n : Nat) : List α → Option (List α) :=
  @Nat.rec (fun _ => List α → Option (List α)) (fun _ => some []) (fun _ ih l => List.casesOn (motive := fun _ => Option (List α)) l none fun x t => ob (ih t) fun t => some (x :: t)) n
noncomputable def lsub {α : Type} (k : Nat) (n : Nat) : List α → Option (List α) :=
  @Nat.rec (fun _ => List α → Option (List α)) (ltake k) (fun _ ih l => List.casesOn (motive := fun _ => Option (List α)) l none fun _ t => ih t) n
noncomputable def lover {α : Type} (new : List α) : List α → Option (List α) :=
  @List.rec α (fun _ => List α → Option (List α)) some (fun x _ ih l => List.casesOn (motive := fun _ => Option (List α)) l none fun _ t => ob (ih t) fun t => some (x :: t)) new
noncomputable def lovers {α : Type} (new : List α) (n : Nat) : List α → Option (List α) :=
  @Nat.rec (fun _ => List α → Option (List α)) (lover new) (fun _ ih l => List.casesOn (motive := fun _ => Option (List α)) l none fun x t => ob (ih t) fun t => some (x :: t)) n
def cellsOf (o : Option AB) : Option (List AC) := ob o fun b => AB.casesOn (motive := fun _ => Option (List AC)) b some (fun _ => none) (fun _ _ => none)
noncomputable def Hp.ld (h : Hp) (id : Bid) (off : Nat) : Option AC := ob (cellsOf (h.get id)) (lget off)
noncomputable def Hp.lds (h : Hp) (id : Bid) (off k : Nat) : Option (List AC) := ob (cellsOf (h.get id)) (lsub k off)
noncomputable def Hp.sts (h : Hp) (id : Bid) (off : Nat) (l : List AC) : Option Hp := ob (cellsOf (h.get id)) fun c => ob (lovers l off c) fun c => some (h.putB id (some (.cells c)))
def Hp.drop (h : Hp) (id : Bid) : Hp := h.putB id none
def asC (v : AV) : Option AC := AV.casesOn (motive := fun _ => Option AC) v some (fun _ => none) (fun _ => none)
def asA (v : AV) : Option (List AC) := AV.casesOn (motive := fun _ => Option (List AC)) v (fun _ => none) some (fun _ => none)
def asT (v : AV) : Option (List TV) := AV.casesOn (motive := fun _ => Option (List TV)) v (fun _ => none) (fun _ => none) some
def onP (x : AC) (f : Bid → Nat → RO) : RO := AC.casesOn (motive := fun _ => RO) x (fun _ => .no) (fun _ _ => .no) (fun _ => .no) .no f .no (fun _ _ _ _ => .no) (fun _ _ _ _ _ => .no) (fun _ _ => .no) .no (fun _ => .no) (fun _ _ _ => .no) .no .no (fun _ _ => .no) (fun _ => .no) .no (fun _ => .no) (fun _ _ => .no) (fun _ _ _ _ => .no) (fun _ => .no) (fun _ => .no) (fun _ _ => .no) (fun _ _ _ => .no)
def onB (x : AC) (f : Bool → RO) : RO := AC.casesOn (motive := fun _ => RO) x f (fun _ _ => .no) (fun _ => .no) .no (fun _ _ => .no) .no (fun _ _ _ _ => .no) (fun _ _ _ _ _ => .no) (fun _ _ => .no) .no (fun _ => .no) (fun _ _ _ => .no) .no .no (fun _ _ => .no) (fun _ => .no) .no (fun _ => .no) (fun _ _ => .no) (fun _ _ _ _ => .no) (fun _ => .no) (fun _ => .no) (fun _ _ => .no) (fun _ _ _ => .no)
def asI (x : AC) (e : RO) (f : IntKind → Int → RO) : RO := AC.casesOn (motive := fun _ => RO) x (fun _ => e) f (fun _ => e) e (fun _ _ => e) e (fun _ _ _ _ => e) (fun _ _ _ _ _ => e) (fun _ _ => e) e (fun _ => e) (fun _ _ _ => e) e e (fun _ _ => e) (fun _ => e) e (fun _ => e) (fun _ _ => e) (fun _ _ _ _ => e) (fun _ => e) (fun _ => e) (fun _ _ => e) (fun _ _ _ => e)
def onD (x : AC) (e : RO) (f : Sh → Nm → RO) : RO := AC.casesOn (motive := fun _ => RO) x (fun _ => e) (fun _ _ => e) (fun _ => e) e (fun _ _ => e) e (fun _ _ _ _ => e) (fun _ _ _ _ _ => e) (fun _ _ => e) e (fun _ => e) (fun _ _ _ => e) e e (fun _ _ => e) (fun _ => e) e (fun _ => e) f (fun _ _ _ _ => e) (fun _ => e) (fun _ => e) f (fun _ _ _ => e)
def onPd (x : AC) (e : RO) (f : Sh → Nm → Nm → Nat → RO) : RO := AC.casesOn (motive := fun _ => RO) x (fun _ => e) (fun _ _ => e) (fun _ => e) e (fun _ _ => e) e (fun _ _ _ _ => e) (fun _ _ _ _ _ => e) (fun _ _ => e) e (fun _ => e) (fun _ _ _ => e) e e (fun _ _ => e) (fun _ => e) e (fun _ => e) (fun _ _ => e) f (fun _ => e) (fun _ => e) (fun _ _ => .no) (fun _ _ _ => .no)
def evC (x : AX) (fr : Fr) (f : AC → RO) : RO := ro (ev x fr) fun v => ro (asC v) f
def evP (x : AX) (fr : Fr) (f : Bid → Nat → RO) : RO := evC x fr fun v => onP v f
def natOf (x : AC) : Option Nat :=
  match x with
  | .i _ (.ofNat n) => some n
  | _ => none
def evN (x : AX) (fr : Fr) : Option Nat := ob (ev x fr) fun v => ob (asC v) natOf
noncomputable def Hp.row (h : Hp) (size : Nat) (x : AC) : Option (Nat × List AC) :=
  match x with
  | .sn => some (0, [])
  | .sl id off len _ => ob (h.lds id off (len * size)) fun l => some (len, l)
  | .su id off len _ es => bo (Nat.beq es size) (ob (h.lds id off (len * size)) fun l => some (len, l))
  | .se _ _ => some (0, [])
  | .s l => bo (Nat.beq size 1) (some (l.length, l.map fun (n : Nat) => AC.i .u8 (Int.ofNat n)))
  | _ => none
noncomputable def fill1 (fr : Fr) (p : Nat × Nat × AX) (ih : List AC → Option (List AC)) (z : List AC) : Option (List AC) := ob (ev p.2.2 fr) fun v => ob v.cells fun l => bo (Nat.beq l.length p.2.1) (ob (lovers l p.1 z) ih)
noncomputable def fills (fr : Fr) (ps : List (Nat × Nat × AX)) : List AC → Option (List AC) :=
  @List.rec (Nat × Nat × AX) (fun _ => List AC → Option (List AC)) some (fun p _ ih => fill1 fr p ih) ps
def bound (fr : Fr) (d : Nat) : Option AX → Option Nat
  | none => some d
  | some x => evN x fr
def zrep (z : List AC) : Nat → List AC
  | 0 => []
  | n + 1 => z ++ zrep z n
def AC.val : AC → Option Value
  | .b x => some (.bool x)
  | .i k n => some (.int k n)
  | .s l => some (.string ⟨(l.map UInt8.ofNat).toArray⟩)
  | .pn => some (.pointer none)
  | .sn => some (.slice none 0 0)
  | .mn => some (.map none)
  | .fz => some .nilFunc
  | .ni => some .nilIface
  | _ => none
def vals : List AC → Option (List Value)
  | [] => some []
  | x :: l => match x.val with
    | none => none
    | some v => match vals l with
      | none => none
      | some vs => some (v :: vs)
def AV.val : AV → Option Value
  | .c x => x.val
  | .a l => match vals l with | some vs => some (.agg vs.toArray) | none => none
  | .t [] => some (.tuple #[])
  | .t _ => none
def AC.of : Value → Option AC
  | .bool x => some (.b x)
  | .int k n => some (.i k n)
  | .string y => some (.s (y.data.toList.map UInt8.toNat))
  | .pointer none => some .pn
  | .slice none 0 0 => some .sn
  | .map none => some .mn
  | .nilFunc => some .fz
  | .nilIface => some .ni
  | .func (.func f) x y => bif Nat.beq x.size 0 && Nat.beq y.size 0 then (match Bid.of f with | some f => some (.fn f [] []) | none => none) else none
  | _ => none
def acsOf : List Value → Option (List AC)
  | [] => some []
  | x :: l => match AC.of x with
    | none => none
    | some v => match acsOf l with
      | none => none
      | some vs => some (v :: vs)
def AV.of : Value → Option AV
  | .agg cs => match acsOf cs.toList with | some l => some (.a l) | none => none
  | .tuple vs => bif Nat.beq vs.size 0 then some (.t []) else none
  | v => match AC.of v with | some x => some (.c x) | none => none
def pureRun {α : Type} (P : Program) : Sem α → Option α
  | .pure a => some a
  | .program k => pureRun P (k P)
  | _ => none
def tmpOf (n : Nat) : Option (D16 × D16) := match D16.of (n / 16), D16.of (n % 16) with
  | some i, some j => some (i, j)
  | _, _ => none
def opdVal (fr : Fr) : Operand → Value
  | .tmp t => match tmpOf t with
    | some (i, j) => match getF i j fr with
      | some v => match v.val with | some u => u | none => undef
      | none => undef
    | none => undef
  | .const v => v
  | .global g => .pointer (some ⟨g, 0, none⟩)
  | .func f => .func (.func f) #[] #[]
def opdOk (fr : Fr) : Operand → Bool
  | .tmp t => match tmpOf t with
    | some (i, j) => match getF i j fr with
      | some v => v.val.isSome
      | none => false
    | none => false
  | _ => true
def opdAV (fr : Fr) : Operand → Option AV
  | .tmp t => match tmpOf t with
    | some (i, j) => getF i j fr
    | none => none
  | .const v => AV.of v
  | _ => none
def genRun (P : Program) (o : Op) (fr : Fr) : Option AV :=
  bif o.operands.toList.all (opdOk fr) then
    match pureRun P (execOp (opdVal fr) ⟨none, o, 0, "", #[], none⟩) with
    | some (.value v) => AV.of v
    | _ => none
  else none
def slow (op : BinOp) (k : IntKind) (a b : Int) : Option AC :=
  match op with
  | .add => some (.i k (k.wrap (a + b)))
  | .sub => some (.i k (k.wrap (a - b)))
  | .mul => some (.i k (k.wrap (a * b)))
  | .eql => some (.b (decide (a = b)))
  | .neq => some (.b (!decide (a = b)))
  | .lss => some (.b (decide (a < b)))
  | .leq => some (.b (decide (a ≤ b)))
  | .gtr => some (.b (decide (b < a)))
  | .geq => some (.b (decide (b ≤ a)))
  | _ => none
def isI64 (k : IntKind) : Bool := IntKind.casesOn (motive := fun _ => Bool) k false false false true false false false false
def both (a b : Int) (e : Option AC) (f : Nat → Nat → Option AC) : Option AC := Int.casesOn (motive := fun _ => Option AC) a (fun m => Int.casesOn (motive := fun _ => Option AC) b (fun n => f m n) (fun _ => e)) (fun _ => e)
def oi (n : Nat) : Option AC := some (.i .i64 (Int.ofNat n))
def obool (b : Bool) : Option AC := some (.b b)
def bAdd (k : IntKind) (a b : Int) : Option AC := both a b (slow .add k a b) fun m n => Bool.casesOn (motive := fun _ => Option AC) (Bool.casesOn (motive := fun _ => Bool) (isI64 k) false (Nat.blt (Nat.add m n) 9223372036854775808)) (slow .add k a b) (oi (Nat.add m n))
def bSub (k : IntKind) (a b : Int) : Option AC := both a b (slow .sub k a b) fun m n => Bool.casesOn (motive := fun _ => Option AC) (Bool.casesOn (motive := fun _ => Bool) (isI64 k) false (Bool.casesOn (motive := fun _ => Bool) (Nat.ble n m) false (Nat.blt m 9223372036854775808))) (slow .sub k a b) (oi (Nat.sub m n))
def bMul (k : IntKind) (a b : Int) : Option AC := both a b (slow .mul k a b) fun m n => Bool.casesOn (motive := fun _ => Option AC) (Bool.casesOn (motive := fun _ => Bool) (isI64 k) false (Nat.blt (Nat.mul m n) 9223372036854775808)) (slow .mul k a b) (oi (Nat.mul m n))
def bEql (k : IntKind) (a b : Int) : Option AC := both a b (slow .eql k a b) fun m n => obool (Nat.beq m n)
def bNeq (k : IntKind) (a b : Int) : Option AC := both a b (slow .neq k a b) fun m n => obool (Bool.not (Nat.beq m n))
def bLss (k : IntKind) (a b : Int) : Option AC := both a b (slow .lss k a b) fun m n => obool (Nat.blt m n)
def bLeq (k : IntKind) (a b : Int) : Option AC := both a b (slow .leq k a b) fun m n => obool (Nat.ble m n)
def bGtr (k : IntKind) (a b : Int) : Option AC := both a b (slow .gtr k a b) fun m n => obool (Nat.blt n m)
def bGeq (k : IntKind) (a b : Int) : Option AC := both a b (slow .geq k a b) fun m n => obool (Nat.ble n m)
def bNone (_ : IntKind) (_ _ : Int) : Option AC := none
def intBin (op : BinOp) : IntKind → Int → Int → Option AC :=
  BinOp.casesOn (motive := fun _ => IntKind → Int → Int → Option AC) op bAdd bSub bMul bNone bNone bNone bNone bNone bNone bNone bNone bEql bNeq bLss bLeq bGtr bGeq
def eqK (k k' : IntKind) : Bool := decide (k = k')
def mapOf (o : Option AB) : Option (List (AV × AV)) := ob o fun b => AB.casesOn (motive := fun _ => Option (List (AV × AV))) b (fun _ => none) some (fun _ _ => none)
def ptrs : List AV → Option (List (Bid × Nat))
  | [] => some []
  | .c (.p id off) :: l => match ptrs l with | some m => some ((id, off) :: m) | none => none
  | _ :: _ => none
def bytesOf : List AC → Option (List Nat)
  | [] => some []
  | .i .u8 (.ofNat n) :: l => bif Nat.blt n 256 then (match bytesOf l with | some m => some (n :: m) | none => none) else none
  | _ :: _ => none
structure Vn where
  i : Nm → Int
  s : Nm → ByteArray
  b : Nm → Bool := fun _ => false
  d : Nm → List (List DV) := fun _ => []
  g : Nm → Value := fun _ => .bool false
  z : Nat → Option Obj := fun _ => none
structure Env where
  prop : Vn → Prop
  cmp : BinOp → AC → AC → Option Bool
  len : Nm → Option AC
  cv : IntKind → IntKind → Nm → Option AC
  bin : BinOp → AC → AC → Option AC
  gen : Program → Op → List (Option AV) → Option AV
  dlen : Nm → Option AC := fun _ => none
  dix : Nm → AC → Option Nm := fun _ _ => none
  dld : Sh → Nm → Nm → Nat → Option AC := fun _ _ _ _ => none
  dsl : Nm → Option AC → Option AC → Option Nm := fun _ _ _ => none
  dap : Sh → Nm → List AC → Option Nm := fun _ _ _ => none
  dcat : Nm → Nm → Option Nm := fun _ _ => none
  dbig : Nm → Nat → Bool := fun _ _ => false
  sof : List AC → Option AC := fun _ => none
noncomputable section
def opMv (x : AX) (fr : Fr) (h : Hp) : RO := ro (ev x fr) fun v => .ok v h
def opPick (c x y : AX) (fr : Fr) (h : Hp) : RO := evC c fr fun v => onB v fun b => Bool.casesOn (motive := fun _ => RO) b (opMv y fr h) (opMv x fr h)
def genAny (P : Program) (E : Env) (o : Op) (fr : Fr) : Option AV := Option.casesOn (motive := fun _ => Option AV) (genRun P o fr) (E.gen P o (o.operands.toList.map (opdAV fr))) some
def opGen (P : Program) (E : Env) (o : Op) (fr : Fr) (h : Hp) : RO := ro (genAny P E o fr) fun v => .ok v h
def opCmp (E : Env) (op : BinOp) (u v : AC) (h : Hp) : RO := ro (E.bin op u v) fun c => .ok (.c c) h
def opBin (E : Env) (op : BinOp) (x y : AX) (fr : Fr) (h : Hp) : RO :=
  evC x fr fun u => evC y fr fun v => asI u (opCmp E op u v h) fun k a => asI v (opCmp E op u v h) fun k' b => br (eqK k k') (ro (intBin op k a b) fun r => .ok (.c r) h)
def opNot (x : AX) (fr : Fr) (h : Hp) : RO := evC x fr fun v => onB v fun b => .ok (.c (.b (Bool.not b))) h
def conv (k : IntKind) (n : Int) : Int := Int.casesOn (motive := fun _ => Int) n (fun m => Bool.casesOn (motive := fun _ => Int) (Nat.blt m 128) (k.wrap n) (Int.ofNat m)) (fun _ => k.wrap n)
def symCi (E : Env) (k : IntKind) (v : AC) (h : Hp) : RO := match v with
  | .si q y => ro (E.cv k q y) fun c => .ok (.c c) h
  | _ => .no
def opCi (E : Env) (k : IntKind) (x : AX) (fr : Fr) (h : Hp) : RO := evC x fr fun v => asI v (symCi E k v h) fun _ n => .ok (.c (.i k (conv k n))) h
def strOp (E : Env) (neg : Bool) (u v : AC) : Option Bool :=
  match u, v with
  | .s l, .s m => some (xor neg (decide (l = m)))
  | _, _ => E.cmp (bif neg then .neq else .eql) u v
def opEqs (E : Env) (neg : Bool) (x y : AX) (fr : Fr) (h : Hp) : RO := evC x fr fun u => evC y fr fun v => ro (strOp E neg u v) fun b => .ok (.c (.b b)) h
def isStr : AC → Bool
  | .s _ => true
  | .ss _ => true
  | _ => false
def eqCell (E : Env) : CK → AC → AC → Option Bool
  | .i, .i k n, .i k' n' => bif eqK k k' then some (decide (n = n')) else none
  | .i, .si k t, .i k' n' => bif eqK k k' then E.cmp .eql (.si k t) (.i k' n') else none
  | .i, .si k t, .si k' t' => bif eqK k k' then E.cmp .eql (.si k t) (.si k' t') else none
  | .i, .i k n, .si k' t' => bif eqK k k' then E.cmp .eql (.i k n) (.si k' t') else none
  | .b, .b x, .b y => some (decide (x = y))
  | .b, .sb t, .sb t' => bif decide (t = t') then some true else none
  | .s, x, y => bo (isStr x && isStr y) (strOp E false x y)
  | _, _, _ => none
def eqKs (E : Env) : List CK → List AC → List AC → Option Bool
  | [], [], [] => some true
  | k :: ks, x :: l, y :: m => match eqCell E k x y, eqKs E ks l m with
    | some a, some b => some (a && b)
    | _, _ => none
  | _, _, _ => none
def opEqa (E : Env) (neg : Bool) (ks : List CK) (x y : AX) (fr : Fr) (h : Hp) : RO := ro (ev x fr) fun u => ro (ev y fr) fun v => ro (asA u) fun l => ro (asA v) fun m => ro (eqKs E ks l m) fun b => .ok (.c (.b (xor neg b))) h
def opAl (z : List AC) (_ : Fr) (h : Hp) : RO := new h (.cells z) fun id => .c (.p id 0)
def opBx (x : AX) (fr : Fr) (h : Hp) : RO := ro (ev x fr) fun v => ro v.cells fun l => new h (.cells l) fun id => .c (.p id 0)
def opBd (z : List AC) (ps : List (Nat × Nat × AX)) (fr : Fr) (h : Hp) : RO := ro (fills fr ps z) fun l => .ok (.a l) h
def opBs (z : List AC) (len : Nat) (ps : List (Nat × Nat × AX)) (fr : Fr) (h : Hp) : RO := ro (fills fr ps z) fun l => new h (.cells l) fun id => .c (.sl id 0 len len)
def opLd (E : Env) (x : AX) (fr : Fr) (h : Hp) : RO := evC x fr fun c => onPd c (onP c fun id off => ro (h.ld id off) fun v => .ok (.c v) h) fun e y t o => ro (E.dld e y t o) fun v => .ok (.c v) h
def dlds (E : Env) (e : Sh) (y t : Nm) (n : Nat) : Nat → Option (List AC) :=
  @Nat.rec (fun _ => Nat → Option (List AC)) (fun _ => some []) (fun _ ih o => ob (E.dld e y t o) fun v => ob (ih (Nat.succ o)) fun l => some (v :: l)) n
def opLdn (E : Env) (n : Nat) (x : AX) (fr : Fr) (h : Hp) : RO := evC x fr fun c => onPd c (onP c fun id off => ro (h.lds id off n) fun v => .ok (.a v) h) fun e y t o => ro (dlds E e y t n o) fun v => .ok (.a v) h
def opSt (n : Nat) (x v : AX) (fr : Fr) (h : Hp) : RO := evP x fr fun id off => ro (ev v fr) fun v => ro v.cells fun l => br (Nat.beq l.length n) (ro (h.sts id off l) fun h => .ok (.t []) h)
def opNc (x : AX) (fr : Fr) (h : Hp) : RO := evC x fr fun v => match v with
  | .p id off => .ok (.c (.p id off)) h
  | .pd e y t o => .ok (.c (.pd e y t o)) h
  | .fn f l m => .ok (.c (.fn f l m)) h
  | _ => .no
def opMf (f : Bid) (first caps : List AX) (fr : Fr) (h : Hp) : RO := ro (evs fr first) fun us => ro (evs fr caps) fun vs => ro (ptrs us) fun l => ro (ptrs vs) fun m => .ok (.c (.fn f l m)) h
def opIxa (n size : Nat) (agg : Bool) (x i : AX) (fr : Fr) (h : Hp) : RO := ro (ev x fr) fun v => ro (asA v) fun l => ro (evN i fr) fun i => br (Nat.blt i n) (Bool.casesOn (motive := fun _ => RO) agg (ro (lget (i * size) l) fun x => .ok (.c x) h) (ro (lsub size (i * size) l) fun l => .ok (.a l) h))
def opMm (_ : Fr) (h : Hp) : RO := new h (.map []) fun id => .c (.mp id)
def opMs (z : List AC) (bytes : Nat) (l c : AX) (fr : Fr) (h : Hp) : RO := ro (evN l fr) fun l => ro (evN c fr) fun c => br (Nat.ble l c && Nat.ble c 1048576 && Nat.ble (c * bytes) 1048576) (new h (.cells (zrep z c)) fun id => .c (.sl id 0 l c))
def sliceE (id : Bid) (off size l e m : Nat) : AC := .sl id (bif Nat.beq m l then off else off + l * size) (e - l) (m - l)
def sliceU (id : Bid) (off len lb es l e : Nat) : AC := bif Nat.beq l 0 then .su id off e lb es else bif Nat.blt l lb then .su id (off + l * es) (e - l) (lb - l) es else .se id es
def opSl0 (size : Nat) (v : AC) (lo hi mx : Option AX) (fr : Fr) (h : Hp) : RO := match v with
  | .sn => ro (bound fr 0 lo) fun l => ro (bound fr 0 hi) fun e => ro (bound fr 0 mx) fun m => br (Nat.beq l 0 && Nat.beq e 0 && Nat.beq m 0) (.ok (.c .sn) h)
  | .sl id off len cap => ro (bound fr 0 lo) fun l => ro (bound fr len hi) fun e => ro (bound fr cap mx) fun m => br (Nat.ble l e && Nat.ble e m && Nat.ble m cap) (.ok (.c (sliceE id off size l e m)) h)
  | .su id off len lb es => br (Nat.beq es size) (match mx with
    | some m => ro (bound fr 0 lo) fun l => ro (bound fr len hi) fun e => ro (evN m fr) fun m => br (Nat.ble l e && Nat.ble e m && Nat.ble m lb) (.ok (.c (sliceE id off size l e m)) h)
    | none => ro (bound fr 0 lo) fun l => ro (bound fr len hi) fun e => br (Nat.ble l e && Nat.ble e lb) (.ok (.c (sliceU id off len lb es l e)) h))
  | .se id es => br (Nat.beq es size && mx.isNone) (ro (bound fr 0 lo) fun l => ro (bound fr 0 hi) fun e => br (Nat.beq l 0 && Nat.beq e 0) (.ok (.c (.se id es)) h))
  | _ => .no
def boundC (fr : Fr) : Option AX → Option (Option AC)
  | none => some none
  | some x => ob (ob (ev x fr) asC) fun c => some (some c)
def eqBound : Option AC → Option AC → Bool
  | some (.i k n), some (.i k' n') => decide (k = k') && decide (n = n')
  | some (.si k t), some (.si k' t') => decide (k = k') && decide (t = t')
  | _, _ => false
def opSlD (E : Env) (size : Nat) (e : Sh) (y : Nm) (lo hi mx : Option AX) (fr : Fr) (h : Hp) : RO :=
  br (Nat.beq e.len size) (ro (boundC fr lo) fun l => ro (boundC fr hi) fun u => ro (boundC fr mx) fun m => ro (E.dsl y l u) fun t => Option.casesOn (motive := fun _ => RO) m (.ok (.c (.ds e t)) h) fun m => br (eqBound u (some m)) (.ok (.c (.dc e t)) h))
def opSll (E : Env) (size : Nat) (x : AX) (lo hi mx : Option AX) (fr : Fr) (h : Hp) : RO := evC x fr fun v => onD v (opSl0 size v lo hi mx fr h) fun e y => opSlD E size e y lo hi mx fr h
def opSla (n size : Nat) (x : AX) (lo hi mx : Option AX) (fr : Fr) (h : Hp) : RO := evP x fr fun id off => ro (bound fr 0 lo) fun l => ro (bound fr n hi) fun e => ro (bound fr n mx) fun m => br (Nat.ble l e && Nat.ble e m && Nat.ble m n) (.ok (.c (sliceE id off size l e m)) h)
def opFa (o : Nat) (x : AX) (fr : Fr) (h : Hp) : RO := evC x fr fun c => onPd c (onP c fun id off => .ok (.c (.p id (Nat.add off o))) h) fun e y t p => .ok (.c (.pd e y t (Nat.add p o))) h
def opFd (o : Nat) (x : AX) (fr : Fr) (h : Hp) : RO := ro (ev x fr) fun v => ro (asA v) fun l => ro (lget o l) fun x => .ok (.c x) h
def opFdn (o n : Nat) (x : AX) (fr : Fr) (h : Hp) : RO := ro (ev x fr) fun v => ro (asA v) fun l => ro (lsub n o l) fun l => .ok (.a l) h
def opIaa (n size : Nat) (x i : AX) (fr : Fr) (h : Hp) : RO := evC x fr fun c => onPd c (onP c fun id off => ro (evN i fr) fun i => br (Nat.blt i n) (.ok (.c (.p id (Nat.add off (Nat.mul i size)))) h)) fun e y t p => ro (evN i fr) fun i => br (Nat.blt i n) (.ok (.c (.pd e y t (Nat.add p (Nat.mul i size)))) h)
def iasOf (size : Nat) (v : AC) (i : AX) (fr : Fr) (h : Hp) : RO := ro (evN i fr) fun i => match v with
  | .sl id off len _ => br (Nat.blt i len) (.ok (.c (.p id (Nat.add off (Nat.mul i size)))) h)
  | .su id off len _ _ => br (Nat.blt i len) (.ok (.c (.p id (Nat.add off (Nat.mul i size)))) h)
  | _ => .no
def opIas (E : Env) (size : Nat) (x i : AX) (fr : Fr) (h : Hp) : RO := evC x fr fun v => onD v (iasOf size v i fr h) fun e y => br (Nat.beq e.len size) (evC i fr fun c => ro (E.dix y c) fun t => .ok (.c (.pd e y t 0)) h)
def isNil : AC → Option Bool
  | .sn => some true
  | .sl .. => some false
  | .su .. => some false
  | .se .. => some false
  | _ => none
def opEqn (neg : Bool) (x y : AX) (fr : Fr) (h : Hp) : RO := evC x fr fun u => evC y fr fun v => ro (isNil u) fun a => ro (isNil v) fun b => br (a || b) (.ok (.c (.b (xor neg (a && b)))) h)
def lenOf : AC → Option Nat
  | .sn => some 0
  | .sl _ _ len _ => some len
  | .su _ _ len _ _ => some len
  | .se _ _ => some 0
  | _ => none
def opLen (E : Env) (x : AX) (fr : Fr) (h : Hp) : RO := evC x fr fun v => onD v (ro (lenOf v) fun n => .ok (.c (.i .i64 (Int.ofNat n))) h) fun _ y => ro (E.dlen y) fun c => .ok (.c c) h
def lensOf (E : Env) : AC → Option AC
  | .s l => some (.i .i64 (Int.ofNat l.length))
  | .ss y => E.len y
  | _ => none
def opLens (E : Env) (x : AX) (fr : Fr) (h : Hp) : RO := evC x fr fun v => ro (lensOf E v) fun r => .ok (.c r) h
def opCap (x : AX) (fr : Fr) (h : Hp) : RO := evC x fr fun v => match v with
  | .sn => .ok (.c (.i .i64 (Int.ofNat 0))) h
  | .sl _ _ _ cap => .ok (.c (.i .i64 (Int.ofNat cap))) h
  | .su _ _ _ lb _ => .ok (.c (.ge lb)) h
  | _ => .no
def keyEq (E : Env) (ag : Bool) (ks : List CK) (x y : AV) : Option Bool := bif ag then (ob (asA x) fun l => ob (asA y) fun m => eqKs E ks l m) else (ob (asC x) fun c => ob (asC y) fun d => eqKs E ks [c] [d])
def keyOk (ag : Bool) (ks : List CK) (k : AV) : Bool := bif ag then (match asA k with | some l => Nat.beq l.length ks.length | none => false) else (asC k).isSome
def mapGet (E : Env) (ag : Bool) (ks : List CK) (k : AV) : List (AV × AV) → Nat → Option (Option (Nat × AV))
  | [], _ => some none
  | (x, v) :: l, i => match keyEq E ag ks k x with
    | some true => some (some (i, v))
    | some false => mapGet E ag ks k l (i + 1)
    | none => none
def mapPut (k : AV) (v : AV) (l : List (AV × AV)) : Option (Nat × AV) → List (AV × AV)
  | some p => l.modify p.1 fun _ => (k, v)
  | none => l ++ [(k, v)]
def pairB (ok : Bool) (v : AV) (b : Bool) (h : Hp) : RO := Bool.casesOn (motive := fun _ => RO) ok (.ok v h) (ro v.tv fun v => .ok (.t [v, .c (.b b)]) h)
def opLk (E : Env) (z : AV) (ok ag : Bool) (ks : List CK) (x i : AX) (fr : Fr) (h : Hp) : RO := evC x fr fun v => ro (ev i fr) fun k => match v with
  | .mp id => ro (mapOf (h.get id)) fun l => br (keyOk ag ks k) (ro (mapGet E ag ks k l 0) fun r => match r with
    | some p => pairB ok p.2 true h
    | none => pairB ok z false h)
  | _ => .no
def opMu (E : Env) (ag : Bool) (ks : List CK) (m k v : AX) (fr : Fr) (h : Hp) : RO := evC m fr fun m => ro (ev k fr) fun k => ro (ev v fr) fun v => match m with
  | .mp id => ro (mapOf (h.get id)) fun l => br (keyOk ag ks k) (ro (mapGet E ag ks k l 0) fun r => .ok (.t []) (h.putB id (some (.map (mapPut k v l r)))))
  | _ => .no
def opEx (x : AX) (i : Nat) (fr : Fr) (h : Hp) : RO := ro (ev x fr) fun v => ro (asT v) fun l => ro (lget i l) fun v => .ok v.av h
def btsOf (E : Env) (l : List AC) (h : Hp) : RO := Option.casesOn (motive := fun _ => RO) (bytesOf l) (ro (E.sof l) fun c => .ok (.c c) h) fun m => .ok (.c (.s m)) h
def opBts (E : Env) (x : AX) (fr : Fr) (h : Hp) : RO := evC x fr fun v => match v with
  | .sl id off len _ => ro (h.lds id off len) fun l => btsOf E l h
  | _ => .no
def appendTo (size bytes : Nat) (x : AC) (n : Nat) (new' : List AC) (h : Hp) : RO :=
  match x with
  | .sn => bif Nat.beq n 0 then .ok (.c .sn) h else br (Nat.ble n 1048576 && Nat.ble (n * bytes) 1048576) (new h (.cells new') fun id => .c (.su id 0 n n size))
  | .sl id off len cap =>
    bif Nat.ble (len + n) cap then (ro (h.sts id (off + len * size) new') fun h => .ok (.c (.sl id off (len + n) cap)) h)
    else br (Nat.ble (len + n) 1048576 && Nat.ble ((len + n) * bytes) 1048576) (ro (h.lds id off (len * size)) fun old => new h (.cells (old ++ new')) fun id => .c (.su id 0 (len + n) (len + n) size))
  | .su id off len lb es => br (Nat.beq es size) (bif Nat.ble (len + n) lb then (ro (h.sts id (off + len * size) new') fun h => .ok (.c (.su id off (len + n) lb es)) h)
    else br (Nat.ble (len + n) 1048576 && Nat.ble ((len + n) * bytes) 1048576) (ro (h.lds id off (len * size)) fun old => new (h.drop id) (.cells (old ++ new')) fun id => .c (.su id 0 (len + n) (len + n) size)))
  | .se id es => br (Nat.beq es size) (bif Nat.beq n 0 then .ok (.c (.se id es)) h
    else br (Nat.ble n 1048576 && Nat.ble (n * bytes) 1048576) (ro (cellsOf (h.get id)) fun _ => new (h.drop id) (.cells new') fun id => .c (.su id 0 n n size)))
  | _ => .no
def frozeTo (E : Env) (size bytes : Nat) (e : Sh) (t : Option Nm) (h : Hp) : RO := ro t fun t => br (Nat.beq e.len size && E.dbig t bytes) (.ok (.c (.ds e t)) h)
def nmNil : Nm := .f1 7 (.num (.ofNat 0))
def opApD (E : Env) (size bytes : Nat) (x : AC) (e : Sh) (y : Nm) (h : Hp) : RO := match x with
  | .sn => frozeTo E size bytes e (E.dcat nmNil y) h
  | .dc e' y' => br (decide (e = e')) (frozeTo E size bytes e (E.dcat y' y) h)
  | _ => .no
def opAp0 (E : Env) (size bytes : Nat) (x y : AC) (h : Hp) : RO := match x with
  | .dc e y' => ro (h.row size y) fun r => br (Nat.blt 0 r.1) (frozeTo E size bytes e (E.dap e y' r.2) h)
  | _ => ro (h.row size y) fun r => appendTo size bytes x r.1 r.2 h
def opAp (E : Env) (size bytes : Nat) (x y : AX) (fr : Fr) (h : Hp) : RO := evC x fr fun x => evC y fr fun y => onD y (opAp0 E size bytes x y h) fun e t => opApD E size bytes x e t h
def opApz (size bytes : Nat) (z : List AC) (x y : AX) (fr : Fr) (h : Hp) : RO := evC x fr fun x => ro (evN y fr) fun n => br (Nat.ble n 1048576 && Nat.ble (n * bytes) 1048576) (appendTo size bytes x n (zrep z n) h)
def copyTo (id : Bid) (off len n size : Nat) (src : List AC) (h : Hp) : RO := ro (ltake (Nat.min n len * size) src) fun l => ro (h.sts id off l) fun h => .ok (.c (.i .i64 (Int.ofNat (Nat.min n len)))) h
def orR (a b : RO) : RO := RO.casesOn (motive := fun _ => RO) a b RO.ok
def opCp0 (size : Nat) (x y : AC) (h : Hp) : RO := ro (h.row size y) fun r => match x with
  | .sn => .ok (.c (.i .i64 (Int.ofNat 0))) h
  | .sl id off len _ => copyTo id off len r.1 size r.2 h
  | .su id off len _ _ => copyTo id off len r.1 size r.2 h
  | .se _ _ => .ok (.c (.i .i64 (Int.ofNat 0))) h
  | _ => .no
def opCpX (size : Nat) (x y : AC) (h : Hp) : RO := match x, y with
  | .su id off len _ es, .su id2 off2 len2 _ es2 => br (Nat.beq es size && Nat.beq es2 size) (ro (cellsOf (h.get id)) fun c => ro (h.lds id2 off2 (Nat.min len2 len * size)) fun l =>
    br (Nat.ble off c.length && Nat.ble c.length (off + l.length)) (.ok (.c (.i .i64 (Int.ofNat (Nat.min len2 len)))) (h.putB id (some (.cells (c.take off ++ l))))))
  | _, _ => .no
def opCp (size : Nat) (x y : AX) (fr : Fr) (h : Hp) : RO := evC x fr fun x => evC y fr fun y => orR (opCp0 size x y h) (opCpX size x y h)
def opClr (z : List AC) (x : AX) (fr : Fr) (h : Hp) : RO := evC x fr fun x => match x with
  | .sn => .ok (.t []) h
  | .sl id off len _ => ro (h.sts id off (zrep z len)) fun h => .ok (.t []) h
  | .su id off len _ _ => ro (h.sts id off (zrep z len)) fun h => .ok (.t []) h
  | .se _ _ => .ok (.t []) h
  | _ => .no
def blkOf : AC → Option Bid
  | .sl id _ _ _ => some id
  | .su id _ _ _ _ => some id
  | _ => none
def liveC (h : Hp) (id : Bid) : Bool := match cellsOf (h.get id) with
  | some (_ :: _) => true
  | _ => false
def opOv (x y : AX) (fr : Fr) (h : Hp) : RO := evC x fr fun u => evC y fr fun v => ro (blkOf u) fun a => ro (blkOf v) fun b => br (Bool.not (decide (a = b)) && (liveC h a && liveC h b)) (.ok (.c (.b false)) h)
def opNo (_ : Fr) (_ : Hp) : RO := .no
abbrev CallF := Bid → List AV → Hp → RO
def opCall (call : CallF) (f : Bid) (args : List AX) (fr : Fr) (h : Hp) : RO := ro (evs fr args) fun vs => call f vs h
def addrs (l : List (Bid × Nat)) : List AV := l.map fun c => AV.c (.p c.1 c.2)
def opCv (call : CallF) (x : AX) (args : List AX) (fr : Fr) (h : Hp) : RO := evC x fr fun x => ro (evs fr args) fun vs => match x with
  | .fn f first caps => call f (addrs first ++ vs ++ addrs caps) h
  | _ => .no
def aop (P : Program) (E : Env) (call : CallF) (o : AO) : Fr → Hp → RO :=
  AO.casesOn (motive := fun _ => Fr → Hp → RO) o opMv opPick (opGen P E) (opBin E) opNot (opCi E) (opEqs E) (opEqa E) opAl opBx opBd opBs (opLd E) (opLdn E) opSt opNc opMf opIxa opMm opMs (opSll E) opSla opFa opFd opFdn opIaa (opIas E) opEqn (opLen E) (opLens E) opCap (opLk E) (opMu E) opEx (opBts E) (opCall call) (opCv call) (opAp E) opApz opCp opClr opOv opNo
def setDst (d : Option (D16 × D16)) (v : AV) (fr : Fr) : Fr := Option.casesOn (motive := fun _ => Fr) d fr fun p => putF p.1 p.2 v fr
def wantedB (x : AV) (want : Bool) : Option Bool :=
  match x with
  | .c (.b b) => some (b == want)
  | .t [] => some false
  | _ => none
def wantedA (fr : Fr) (g : Option (D16 × D16 × Bool)) : Option Bool := Option.casesOn (motive := fun _ => Option Bool) g (some true) fun p => ob (getF p.1 p.2.1 fr) fun x => wantedB x p.2.2
def rf (r : RO) (f : AV → Hp → RF) : RF := RO.casesOn (motive := fun _ => RF) r .no f
def rof (o : Option Bool) (f : Bool → RF) : RF := Option.casesOn (motive := fun _ => RF) o .no f
def regStep (P : Program) (E : Env) (call : CallF) (o : AOp) (ih : Fr → Hp → RF) (fr : Fr) (h : Hp) : RF :=
  rof (wantedA fr o.guard) fun b => Bool.casesOn (motive := fun _ => RF) b (ih (setDst o.dst (.t []) fr) h) (rf (aop P E call o.op fr h) fun v h => ih (setDst o.dst v fr) h)
def aregion (P : Program) (E : Env) (call : CallF) (l : List AOp) : Fr → Hp → RF :=
  @List.rec AOp (fun _ => Fr → Hp → RF) RF.ok (fun o _ ih => regStep P E call o ih) l
def noCall : CallF := fun _ _ _ => .no
def sameIn (P : Program) (E : Env) (o : AO) (fr : Fr) (v : AV) : Nat → List Hp → Bool
  | 0, _ => true
  | n + 1, h :: l => (match aop P E noCall o fr h with | .ok u _ => AV.beq u v | .no => false) && sameIn P E o fr v n l
  | _ + 1, [] => false
def putAll (id : Bid) (b : AB) (l : List Hp) : List Hp := l.map fun h => h.putB id (some b)
abbrev DrawF := Fr → Hp → List Hp → Bid → RF
def drawPure (d : Option (D16 × D16)) (ih : DrawF) (r : RO) (fr : Fr) (h : Hp) (past : List Hp) (rid : Bid) : RF := rf r fun v _ => ih (setDst d v fr) h past rid
def drawRead (P : Program) (E : Env) (o : AOp) (lo : Nat) (ih : DrawF) (fr : Fr) (h : Hp) (past : List Hp) (rid : Bid) : RF :=
  rf (aop P E noCall o.op fr h) fun v _ => Bool.casesOn (motive := fun _ => RF) (sameIn P E o.op fr v (past.length - lo) past) .no (ih (setDst o.dst v fr) h past rid)
def freshIn (id : Bid) (l : List Hp) : Bool := l.all fun h => (h.get id).isNone
def drawMake (P : Program) (E : Env) (o : AOp) (ih : DrawF) (fr : Fr) (h : Hp) (past : List Hp) (rid : Bid) : RF :=
  rf (aop P E noCall o.op fr ⟨rid, h.bl⟩) fun v h' => Option.casesOn (motive := fun _ => RF) (h'.get rid) .no fun b => Option.casesOn (motive := fun _ => RF) rid.inc .no fun r =>
    Bool.casesOn (motive := fun _ => RF) (freshIn rid (h :: past)) .no (ih (setDst o.dst v fr) (h.putB rid (some b)) (putAll rid b past) r)
def drawEffect (P : Program) (E : Env) (call : CallF) (o : AOp) (ih : DrawF) (fr : Fr) (h : Hp) (past : List Hp) (rid : Bid) : RF :=
  rf (aop P E call o.op fr h) fun v h' => ih (setDst o.dst v fr) h' (h :: past) rid
def pastOf (k : AK) (h : Hp) (past : List Hp) : List Hp := AK.casesOn (motive := fun _ => List Hp) k past (fun _ => past) past (h :: past)
def drawStep (P : Program) (E : Env) (call : CallF) (o : AOp) (k : AK) (ih : DrawF) (fr : Fr) (h : Hp) (past : List Hp) (rid : Bid) : RF :=
  rof (wantedA fr o.guard) fun b => Bool.casesOn (motive := fun _ => RF) b (ih (setDst o.dst (.t []) fr) h (pastOf k h past) rid)
    (AK.casesOn (motive := fun _ => RF) k (drawPure o.dst ih (aop P E noCall o.op fr h) fr h past rid) (fun lo => drawRead P E o lo ih fr h past rid) (drawMake P E o ih fr h past rid) (drawEffect P E call o ih fr h past rid))
def adraw (P : Program) (E : Env) (call : CallF) (l : List (AOp × AK)) : DrawF :=
  @List.rec (AOp × AK) (fun _ => DrawF) (fun fr h _ _ => .ok fr h) (fun o _ ih => drawStep P E call o.1 o.2 ih) l
def reserve (l : List (AOp × AK)) (n : Bid) : Option Bid :=
  @List.rec (AOp × AK) (fun _ => Bid → Option Bid) some (fun o _ ih n => AK.casesOn (motive := fun _ => Option Bid) o.2 (ih n) (fun _ => ih n) (ob n.inc ih) (ih n)) l n
def draws (P : Program) (E : Env) (call : CallF) (l : List (AOp × AK)) (fr : Fr) (h : Hp) : RF :=
  Hp.casesOn (motive := fun _ => RF) h fun n bl => Option.casesOn (motive := fun _ => RF) (reserve l n) .no fun m => adraw P E call l fr ⟨m, bl⟩ [] n
def places : List (D16 × D16) := [(.x0, .x0), (.x0, .x1), (.x0, .x2), (.x0, .x3), (.x0, .x4), (.x0, .x5), (.x0, .x6), (.x0, .x7), (.x0, .x8), (.x0, .x9), (.x0, .xa), (.x0, .xb), (.x0, .xc), (.x0, .xd), (.x0, .xe), (.x0, .xf), (.x1, .x0), (.x1, .x1), (.x1, .x2), (.x1, .x3), (.x1, .x4), (.x1, .x5), (.x1, .x6), (.x1, .x7)]
def frame1 (v : AV) (ih : List (D16 × D16) → Fr → Option Fr) (ps : List (D16 × D16)) (fr : Fr) : Option Fr := List.casesOn (motive := fun _ => Option Fr) ps none fun p ps => ih ps (putF p.1 p.2 v fr)
def frameOf (l : List AV) : List (D16 × D16) → Fr → Option Fr :=
  @List.rec AV (fun _ => List (D16 × D16) → Fr → Option Fr) (fun _ fr => some fr) (fun v _ ih => frame1 v ih) l
def ares1 (fr : Fr) (h : Hp) : AR → Option AV
  | .tmp i j => getF i j fr
  | .cell i j => ob (getF i j fr) fun v => match v with
    | .c (.p id off) => ob (h.ld id off) fun x => some (.c x)
    | _ => none
  | .cells i j n => ob (getF i j fr) fun v => match v with
    | .c (.p id off) => ob (h.lds id off n) fun x => some (.a x)
    | _ => none
def ares (fr : Fr) (h : Hp) (l : List AR) : Option (List AV) :=
  @List.rec AR (fun _ => Option (List AV)) (some []) (fun r _ ih => ob (ares1 fr h r) fun v => ob ih fun vs => some (v :: vs)) l
def tvs (l : List AV) : Option (List TV) := @List.rec AV (fun _ => Option (List TV)) (some []) (fun v _ ih => ob v.tv fun v => ob ih fun l => some (v :: l)) l
def oneT (l : List AV) : Option AV := ob (tvs l) fun l => some (.t l)
def one (l : List AV) : Option AV := List.casesOn (motive := fun _ => Option AV) l (oneT l) fun v t => List.casesOn (motive := fun _ => Option AV) t (some v) fun _ _ => oneT l
def retOf (res : List AR) (fr : Fr) (h : Hp) : RO := ro (ares fr h res) fun vs => ro (one vs) fun v => .ok v h
def callBy (T : Tab) (ih : ACd → Fr → Hp → RC) : CallF := fun f args h => ro (get3 T f) fun fn =>
  AFn.casesOn (motive := fun _ => RO) fn (fun body res => ro (frameOf args places Fr.nil) fun fr => RC.casesOn (motive := fun _ => RO) (ih body fr h) .no (retOf res) (fun _ _ _ => .no) (retOf res)) (fun g => ro (g args) fun v => .ok v h) (fun g => g args h)
def cSkip (fr : Fr) (h : Hp) : RC := .nrm fr h
def rc (r : RF) : RC := RF.casesOn (motive := fun _ => RC) r .no RC.nrm
def cReg (P : Program) (E : Env) (T : Tab) (ih : ACd → Fr → Hp → RC) (l : List AOp) (fr : Fr) (h : Hp) : RC := rc (aregion P E (callBy T ih) l fr h)
def cDreg (P : Program) (E : Env) (T : Tab) (ih : ACd → Fr → Hp → RC) (l : List (AOp × AK)) (fr : Fr) (h : Hp) : RC := rc (draws P E (callBy T ih) l fr h)
def cSeq (ih : ACd → Fr → Hp → RC) (a b : ACd) (fr : Fr) (h : Hp) : RC := RC.casesOn (motive := fun _ => RC) (ih a fr h) .no (ih b) RC.ex RC.ret
def cCond (ih : ACd → Fr → Hp → RC) (c : AX) (x y : ACd) (fr : Fr) (h : Hp) : RC :=
  Option.casesOn (motive := fun _ => RC) (ob (ev c fr) asC) .no fun v => match v with
    | .b b => Bool.casesOn (motive := fun _ => RC) b (ih y fr h) (ih x fr h)
    | _ => .no
def exitB (id i : Nat) (fr : Fr) (h : Hp) : RC := bif Nat.beq i id then .nrm fr h else .ex i fr h
def cBlock (ih : ACd → Fr → Hp → RC) (id : Nat) (b : ACd) (fr : Fr) (h : Hp) : RC := RC.casesOn (motive := fun _ => RC) (ih b fr h) .no RC.nrm (exitB id) RC.ret
def cLoop (ih : ACd → Fr → Hp → RC) (b : ACd) (fr : Fr) (h : Hp) : RC := RC.casesOn (motive := fun _ => RC) (ih b fr h) .no (ih (.loop b)) RC.ex RC.ret
def cBad (_ : Fr) (_ : Hp) : RC := .no
def aevS (P : Program) (E : Env) (T : Tab) (ih : ACd → Fr → Hp → RC) (c : ACd) : Fr → Hp → RC :=
  ACd.casesOn (motive := fun _ => Fr → Hp → RC) c cSkip (cReg P E T ih) (cDreg P E T ih) (cSeq ih) (cCond ih) (cBlock ih) (cLoop ih) RC.ex RC.ret cBad
def aev (P : Program) (E : Env) (T : Tab) (n : Nat) : ACd → Fr → Hp → RC :=
  @Nat.rec (fun _ => ACd → Fr → Hp → RC) (fun _ => cBad) (fun _ ih => aevS P E T ih) n
end
end Go.Proofs.YtjnfgapfhpihmaaGreat
namespace Go.Proofs.YtjnfgapfhpihmaaGreat
def cX : Operand → Option AX
  | .tmp t => match tmpOf t with | some (i, j) => some (.t i j) | none => none
  | .const v => match AV.of v with | some a => some (.k a) | none => none
  | .global _ => none
  | .func f => match Bid.of f with | some f => some (.k (.c (.fn f [] []))) | none => none
def cXs : List Operand → Option (List AX)
  | [] => some []
  | x :: l => match cX x with
    | none => none
    | some a => match cXs l with
      | none => none
      | some as_ => some (a :: as_)
def cO : Option Operand → Option (Option AX)
  | none => some none
  | some x => match cX x with | some a => some (some a) | none => none
def zeroOf (P : Program) (t : TypeId) : Option (List AC) :=
  match P.info? t with
  | some i => match i.zero with
    | some v => match AV.of v with | some a => a.cells | none => none
    | none => none
  | none => none
def zeroV (P : Program) (t : TypeId) : Option AV :=
  match P.info? t with
  | some i => match i.zero with
    | some v => AV.of v
    | none => none
  | none => none
def sizeT (P : Program) (t : TypeId) : Option Nat := match P.info? t with | some i => some i.size | none => none
def bytesT (P : Program) (t : TypeId) : Option Nat := match P.info? t with | some i => some i.bytes | none => none
def cParts (place : Nat → Option (Nat × Nat)) : List (Nat × Operand) → Option (List (Nat × Nat × AX))
  | [] => some []
  | (i, x) :: l => match place i, cX x, cParts place l with
    | some (o, s), some a, some ps => some ((o, s, a) :: ps)
    | _, _, _ => none
def plainFs (P : Program) (g : TypeId → Option (List CK)) : List Field → Nat → Option (List CK)
  | [], _ => some []
  | f :: fs, n => if f.name = "_" ∨ f.offset ≠ n then none else
    match g f.type, sizeT P f.type with
    | some k, some s => if k.length = s then (match plainFs P g fs (n + s) with | some l => some (k ++ l) | none => none) else none
    | _, _ => none
def kRep (ks : List CK) : Nat → List CK
  | 0 => []
  | n + 1 => ks ++ kRep ks n
def plainS (P : Program) (arr : Bool) : Nat → TypeId → Option (List CK)
  | 0, _ => none
  | d + 1, t => match P.underlying t with
    | some .bool => some [.b]
    | some (.int _) => some [.i]
    | some .string => some [.s]
    | some (.struct fs) => if P.stoodInHeld t = true then none else plainFs P (plainS P arr d) fs.toList 0
    | some (.array n e) => match plainS P arr d e, sizeT P e with
      | some ks, some s => if arr = true ∧ ks.length = s then some (kRep ks n) else none
      | _, _ => none
    | _ => none
def cEqa (P : Program) (neg : Bool) (t : TypeId) (x y : Operand) : Option AO :=
  if P.eqGuardType P.depth t = true then none else
  match plainS P true 8 t, cX x, cX y with
  | some ks, some x, some y => if sizeT P t = some ks.length then some (.eqa neg ks x y) else none
  | _, _, _ => none
def placesOf (P : Program) : List Field → Option (List (Nat × Nat))
  | [] => some []
  | f :: fs => match sizeT P f.type, placesOf P fs with
    | some s, some l => some ((f.offset, s) :: l)
    | _, _ => none
def keyS (P : Program) (kt : TypeId) : Option (Bool × List CK) :=
  match P.underlying kt with
  | some (.int _) => some (false, [.i])
  | some (.struct _) => match plainS P false 8 kt with
    | some ks => if sizeT P kt = some ks.length then some (true, ks) else none
    | none => none
  | _ => none
def cMu (P : Program) (t : TypeId) (m k v : Operand) : Option AO :=
  match P.underlying t, cX m, cX k, cX v with
  | some (.map kt _), some m, some k, some v => match keyS P kt with
    | some (ag, ks) => some (.mu ag ks m k v)
    | none => none
  | _, _, _, _ => none
def cAp (P : Program) (e : TypeId) (x y : AX) : Option AO := match sizeT P e, zeroOf P e, bytesT P e with
  | some s, some z, some b => if 0 < s ∧ z.length = s ∧ b ≤ 1048576 then some (.ap s b x y) else none
  | _, _, _ => none
def isOv (P : Program) (fn : Func) : Bool := fn.body.isNone && ((fn.name == "runtime.NumGoroutine") == false && ((Extern.findNext fn).isNone && ((Extern.allGenericRows.lookup fn.name).isNone && ((Extern.allTypedRows.lookup fn.name).isNone && ((Extern.allRows.lookup fn.name).isNone && (fn.origin == "slices.overlaps" && (match fn.params.toList, fn.resultTypes.toList with
  | [t, t'], [_] => decide (t = t') && (match P.underlying t with
    | some (.slice e) => (sizeT P e).isSome
    | _ => false)
  | _, _ => false)))))))
def cOv : List Operand → Option AO
  | [x, y] => match cX x, cX y with
    | some x, some y => some (.ov x y)
    | _, _ => none
  | _ => none
theorem cOv_ok {b : Bool} {l : List Operand} {ao : AO} (h : (bif b then cOv l else none) = some ao) : ∃ x y ax ay, l = [x, y] ∧ cX x = some ax ∧ cX y = some ay ∧ ao = .ov ax ay := by
  cases b with
  | false => cases h
  | true =>
    have h' : cOv l = some ao := h
    unfold cOv at h'
    split at h'
    · rename_i x y
      split at h'
      · rename_i ax ay hx hy
        cases h'
        exact ⟨x, y, ax, ay, rfl, hx, hy, rfl⟩
      · cases h'
    · cases h'
def cOp (P : Program) (op : Op) : Option AO :=
  match op with
  | .move x => (cX x).map .mv
  | .assign x => (cX x).map .mv
  | .pick c a b => match cX c, cX a, cX b with | some c, some a, some b => some (.pick c a b) | _, _, _ => none
  | .alloc e => (zeroOf P e).map .al
  | .box _ x => (cX x).map .bx
  | .build t parts => match P.underlying t, zeroOf P t with
    | some (.struct fs), some z => match placesOf P fs.toList with
      | some pl => (cParts (fun i => pl[i]?) parts.toList).map (.bd z)
      | none => none
    | some (.array _ e), some z => match sizeT P e with
      | some s => (cParts (fun i => some (i * s, s)) parts.toList).map (.bd z)
      | none => none
    | _, _ => none
  | .buildSlice t len parts => match P.underlying t with
    | some (.slice e) => match sizeT P e, zeroOf P e with
      | some s, some z => if 0 < s ∧ z.length = s ∧ len * s ≤ 65536 then (cParts (fun i => some (i * s, s)) parts.toList).map (.bs (zrep z len) len) else none
      | _, _ => none
    | _ => none
  | .load t a => match P.underlying t, sizeT P t, cX a with
    | some (.struct _), some s, some a => some (.ldn s a)
    | some (.array _ _), some s, some a => some (.ldn s a)
    | some _, some _, some a => some (.ld a)
    | _, _, _ => none
  | .store t a v => match sizeT P t, cX a, cX v with | some s, some a, some v => some (.st s a v) | _, _, _ => none
  | .nilCheck x => (cX x).map .nc
  | .binOp op t x y _ => match P.underlying t, op with
    | some (.int _), .shl => some (.gen (.binOp op t x y 0))
    | some (.int _), .shr => some (.gen (.binOp op t x y 0))
    | some (.int _), .quo => some (.gen (.binOp op t x y 0))
    | some (.int _), .rem => some (.gen (.binOp op t x y 0))
    | some (.int _), .and => some (.gen (.binOp op t x y 0))
    | some (.int _), .or => some (.gen (.binOp op t x y 0))
    | some (.int _), .xor => some (.gen (.binOp op t x y 0))
    | some (.int _), .andNot => some (.gen (.binOp op t x y 0))
    | some (.int _), _ => match cX x, cX y with | some x, some y => some (.bin op x y) | _, _ => none
    | some .string, .eql => match cX x, cX y with | some x, some y => some (.eqs false x y) | _, _ => none
    | some .string, .neq => match cX x, cX y with | some x, some y => some (.eqs true x y) | _, _ => none
    | some (.struct _), .eql => cEqa P false t x y
    | some (.struct _), .neq => cEqa P true t x y
    | some (.array _ _), .eql => cEqa P false t x y
    | some (.array _ _), .neq => cEqa P true t x y
    | some (.slice _), .eql => match cX x, cX y with | some x, some y => some (.eqn false x y) | _, _ => none
    | some (.slice _), .neq => match cX x, cX y with | some x, some y => some (.eqn true x y) | _, _ => none
    | some _, _ => some (.gen (.binOp op t x y 0))
    | none, _ => none
  | .unOp .not _ x => (cX x).map .not
  | .unOp op t x => some (.gen (.unOp op t x))
  | .convert s d x => match P.underlying s, P.underlying d with
    | some (.slice e), some .string => match P.underlying e with
      | some (.int .u8) => (cX x).map .bts
      | _ => none
    | some (.int _), some (.int k) => (cX x).map (.ci k)
    | some .string, some .string => some (.gen (.convert s d x))
    | _, _ => none
  | .makeFunc (.func f) first caps => match Bid.of f, cXs first.toList, cXs caps.toList with | some f, some l, some m => some (.mf f l m) | _, _, _ => none
  | .makeMap _ none => some .mm
  | .makeInterface t x => some (.gen (.makeInterface t x))
  | .typeAssert x t u ok => some (.gen (.typeAssert x t u ok))
  | .makeSlice t l c => match P.underlying t with
    | some (.slice e) => match sizeT P e, zeroOf P e, bytesT P e, cX l, cX c with
      | some s, some z, some b, some l, some c => if 0 < s ∧ z.length = s then some (.ms z b l c) else none
      | _, _, _, _, _ => none
    | _ => none
  | .slice t x lo hi mx => if mx.isSome = true ∧ hi.isSome = false then none else match P.underlying t, cX x, cO lo, cO hi, cO mx with
    | some (.array n e), some x, some lo, some hi, some mx => (sizeT P e).map fun s => .sla n s x lo hi mx
    | some (.slice e), some x, some lo, some hi, some mx => (sizeT P e).map fun s => .sll s x lo hi mx
    | some .string, _, _, _, _ => some (.gen (.slice t x lo hi mx))
    | _, _, _, _, _ => none
  | .fieldAddr s x f => match P.underlying s, cX x with
    | some (.struct fs), some x => match fs[f]? with
      | some f => match sizeT P f.type with | some n => if 0 < n then some (.fa f.offset x) else none | none => none
      | none => none
    | _, _ => none
  | .field t x f => match P.underlying t, cX x with
    | some (.struct fs), some x => match fs[f]? with
      | some f => match P.underlying f.type, sizeT P f.type with
        | some (.struct _), some n => some (.fdn f.offset n x)
        | some (.array _ _), some n => some (.fdn f.offset n x)
        | some _, some _ => some (.fd f.offset x)
        | _, _ => none
      | none => none
    | _, _ => none
  | .indexAddr t x i => match P.underlying t, cX x, cX i with
    | some (.array n e), some x, some i => (sizeT P e).map fun s => .iaa n s x i
    | some (.slice e), some x, some i => (sizeT P e).map fun s => .ias s x i
    | _, _, _ => none
  | .index t x i => match P.underlying t, cX x, cX i with
    | some (.array n e), some x, some i => match P.underlying e, sizeT P e with
      | some (.struct _), some s => some (.ixa n s true x i)
      | some (.array _ _), some s => some (.ixa n s true x i)
      | some _, some s => some (.ixa n s false x i)
      | _, _ => none
    | some .string, _, _ => some (.gen (.index t x i))
    | _, _, _ => none
  | .lookup t x i ok => match P.underlying t, cX x, cX i with
    | some (.map kt e), some x, some i => match keyS P kt, zeroV P e with
      | some (ag, ks), some z => some (.lk z ok ag ks x i)
      | _, _ => none
    | _, _, _ => none
  | .mapUpdate t m k v => cMu P t m k v
  | .insert t m k v => cMu P t m k v
  | .extract x i => (cX x).map fun x => .ex x i
  | .call c => match c.callee, c.args.toList, c.argTypes.toList with
    | .value (.func f), args, _ => match P.funcs[f]? with
      | some fn => if fn.body.isSome ∧ fn.name ≠ "runtime.NumGoroutine" then (match Bid.of f, cXs args with | some f, some args => some (.call f args) | _, _ => none) else bif isOv P fn then cOv args else none
      | none => none
    | .value x, args, _ => match cX x, cXs args with | some x, some l => some (.cv x l) | _, _ => none
    | .builtin .append, [x, y], [tx, ty] => match P.underlying tx, P.underlying ty, cX x, cX y with
      | some (.slice e), some (.int _), some x, some y => match sizeT P e, zeroOf P e, bytesT P e with
        | some s, some z, some b => if 0 < s ∧ z.length = s ∧ b ≤ 1048576 then some (.apz s b z x y) else none
        | _, _, _ => none
      | some (.slice e), some (.slice _), some x, some y => cAp P e x y
      | some (.slice e), some .string, some x, some y => cAp P e x y
      | _, _, _, _ => none
    | .builtin .len, [x], [t] => match P.underlying t, cX x with
      | some (.slice _), some x => some (.len x)
      | some .string, some x => some (.lens x)
      | some (.array n _), _ => some (.mv (.k (.c (.i .i64 n))))
      | _, _ => none
    | .builtin .cap, [x], [t] => match P.underlying t, cX x with
      | some (.slice _), some x => some (.cap x)
      | _, _ => none
    | .builtin .copy, [x, y], (tx :: _) => match P.underlying tx, cX x, cX y with
      | some (.slice e), some x, some y => (sizeT P e).map fun s => .cp s x y
      | _, _, _ => none
    | .builtin .clear, [x], [t] => match P.underlying t, cX x with
      | some (.slice e), some x => match zeroOf P e with
        | some z => if 0 < z.length then some (.clr z x) else none
        | none => none
      | _, _ => none
    | .builtin .min, _, _ => some (.gen op)
    | .builtin .max, _, _ => some (.gen op)
    | _, _, _ => none
  | _ => none
def kindOf : AO → Nat
  | .ld _ | .ldn .. | .lk .. => 1
  | .al .. | .bx .. | .bs .. | .mm | .ms .. => 2
  | .bts _ | .st .. | .mu .. | .call .. | .cv .. | .ap .. | .apz .. | .cp .. | .clr .. | .ov .. => 3
  | _ => 0
def cDst (N : Nat) : Option Nat → Option (Option (D16 × D16))
  | none => some none
  | some t => if t < N then (match tmpOf t with | some p => some (some p) | none => none) else none
def cOper (P : Program) (N : Nat) (ops : Array Oper) (o : Oper) : Option AOp :=
  match cDst N o.dst with
  | none => none
  | some dst => match o.guard with
    | none => some ⟨dst, (match cOp P o.op with | some a => a | none => AO.no), none⟩
    | some (j, want) => match ops[j]? with
      | some g => match g.dst with
        | some t => match tmpOf t with
          | some (gi, gj) => some ⟨dst, (match cOp P o.op with | some a => a | none => AO.no), some (gi, gj, want)⟩
          | none => none
        | none => none
      | none => none
def mapO {α β : Type} (f : α → Option β) : List α → Option (List β)
  | [] => some []
  | x :: l => match f x with
    | none => none
    | some y => match mapO f l with
      | none => none
      | some ys => some (y :: ys)
def starGo (b : Array Nat) (effs : List Nat) (n : Nat) (done : Nat) (acc : List Nat) : List Nat :=
  match effs with
  | [] => acc ++ (List.range n).filter fun i => !done.testBit i
  | e :: es =>
    let pre := (List.range n).filter fun i => !done.testBit i && (b.getD e 0).testBit i
    starGo b es n (pre.foldl (fun d i => d ||| 2 ^ i) done ||| 2 ^ e) (acc ++ pre ++ [e])
def looks (ops : Array Oper) (o : Oper) : List Nat :=
  (o.op.operands.toList.filterMap fun | .tmp t => some t | _ => none) ++
  (match o.guard with
   | some (g, _) => ((ops[g]?).bind (·.dst)).toList
   | none => [])
def bAt (bm : List Nat) (i j : Nat) : Bool := (bm.getD i 0).testBit j
def drawPerm (n : Nat) (order : List Nat) : Bool :=
  order.length == n && ((List.range n).all fun i => order.contains i) && (order.all fun i => decide (i < n)) &&
  (List.range n).all fun q => (List.range q).all fun p => !(order.getD p 0 == order.getD q 0)
def drawEdges (ops : Array Oper) (bm : List Nat) (n : Nat) : Bool :=
  (List.range n).all fun i => match ops[i]? with
    | some o => (o.after.toList.all fun e => !Region.binds .any e || decide (e.on < i)) &&
      ((List.range n).all fun j => !bAt bm i j || (o.after.toList.any fun e => Region.binds .any e && (e.on == j || bAt bm e.on j)))
    | none => false
def drawKeeps (bm ks order : List Nat) (n : Nat) : Bool :=
  (List.range n).all fun q => (List.range q).all fun p =>
    !bAt bm (order.getD p 0) (order.getD q 0) &&
    (!(ks.getD (order.getD q 0) 0 == 3) || (bAt bm (order.getD q 0) (order.getD p 0) || ((List.range q).any fun r => decide (p < r) && ks.getD (order.getD r 0) 0 == 3 && bAt bm (order.getD r 0) (order.getD p 0))))
def drawDsts (ops : Array Oper) (bm : List Nat) (n : Nat) : Bool :=
  (List.range n).all fun i => (List.range n).all fun j => i == j || (match ops[i]?, ops[j]? with
    | some x, some y => match y.dst with
      | some t => !(x.dst == some t) && (!(looks ops x).contains t || bAt bm i j || bAt bm j i)
      | none => true
    | _, _ => false)
def drawChk (ops : Array Oper) (bm : List Nat) (ks : List Nat) (order : List Nat) : Bool :=
  drawPerm ops.size order && drawEdges ops bm ops.size && drawKeeps bm ks order ops.size && drawDsts ops bm ops.size
def loOf (bm ks order : List Nat) (n i : Nat) : Nat := ((List.range n).filter fun q => ks.getD (order.getD q 0) 0 == 3 && bAt bm i (order.getD q 0)).length
def akOf (bm ks order : List Nat) (n i : Nat) (ao : AO) : AK := match kindOf ao with
  | 0 => AK.pure
  | 1 => AK.read (loOf bm ks order n i)
  | 2 => AK.make
  | _ => AK.effect
def cRegion (P : Program) (N : Nat) (ops : Array Oper) (draw : Bool) : Option ACd :=
  match mapO (cOper P N ops) ops.toList with
  | none => none
  | some l =>
    if !draw then some (.reg l) else
    let bm := (Region.before ops).toList
    let ks := l.map fun o => kindOf o.op
    let effs := (List.range ops.size).filter fun i => ks.getD i 0 == 3
    let order := starGo (Region.before ops) effs ops.size 0 []
    if drawChk ops bm ks order then
      some (.dreg (order.map fun i => (l.getD i default, akOf bm ks order ops.size i (l.getD i default).op)))
    else none
def cCode (P : Program) (N : Nat) : Code → Option ACd
  | .skip => some .skip
  | .region _ ops draw => cRegion P N ops draw
  | .seq a b => match cCode P N a, cCode P N b with | some a, some b => some (.seq a b) | _, _ => none
  | .cond c x y => match cX c, cCode P N x, cCode P N y with | some c, some x, some y => some (.cond c x y) | _, _, _ => none
  | .block id b => (cCode P N b).map (.block id)
  | .loop b => (cCode P N b).map .loop
  | .exit id => some (.exit id)
  | .scope b => cCode P N b
  | .label _ => some .skip
  | .ret => some .ret
  | _ => none
def cRes (P : Program) : List ResultVar → Option (List AR)
  | [] => some []
  | .tmp t :: l => match tmpOf t, cRes P l with | some (i, j), some l => some (.tmp i j :: l) | _, _ => none
  | .cell a t :: l => match tmpOf a, P.underlying t, sizeT P t, cRes P l with
    | some (i, j), some (.struct _), some s, some l => some (.cells i j s :: l)
    | some (i, j), some (.array _ _), some s, some l => some (.cells i j s :: l)
    | some (i, j), some _, some _, some l => some (.cell i j :: l)
    | _, _, _, _ => none
def cFn (P : Program) (fn : Func) : Option AFn :=
  match fn.body with
  | some c => match cCode P fn.ntmps c, cRes P fn.results.toList with
    | some b, some r => some (.code b r)
    | _, _ => none
  | none => none
end Go.Proofs.YtjnfgapfhpihmaaGreat
namespace Go.Proofs.YtjnfgapfhpihmaaGreat
section trees
variable {α : Type}
theorem N16.get_put (d : D16) (v : α) (t : N16 α) : (N16.put d v t).get d = v := by cases d <;> rfl
theorem D16.val_inj {d e : D16} (h : d.val = e.val) : d = e := by cases d <;> cases e <;> first | rfl | (exact absurd h (by decide))
theorem D16.val_lt (d : D16) : d.val < 16 := by cases d <;> decide
theorem N16.get_put_ne {d e : D16} (h : e ≠ d) (v : α) (t : N16 α) : (N16.put d v t).get e = t.get e := by
  cases d <;> (cases e <;> first | rfl | exact absurd rfl h)
theorem N16.get_rep (d : D16) (v : α) : (N16.rep v).get d = v := by cases d <;> rfl
theorem get3_put3 (t : N16 (N16 (N16 α))) (i : Bid) (v : α) : get3 (put3 t i v) i = v := by
  cases i; simp only [get3, put3, N16.get_put]
theorem get3_put3_ne {i j : Bid} (h : j ≠ i) (t : N16 (N16 (N16 α))) (v : α) : get3 (put3 t i v) j = get3 t j := by
  cases i with | mk a b c => cases j with | mk a' b' c' =>
  simp only [get3, put3]
  by_cases ha : a' = a
  · subst ha
    rw [N16.get_put]
    by_cases hb : b' = b
    · subst hb
      rw [N16.get_put]
      by_cases hc : c' = c
      · subst hc; exact absurd rfl h
      · rw [N16.get_put_ne hc]
    · rw [N16.get_put_ne hb]
  · rw [N16.get_put_ne ha]
theorem get3_rep (i : Bid) (v : α) : get3 (N16.rep (N16.rep (N16.rep v))) i = v := by cases i; simp only [get3, N16.get_rep]
end trees
theorem getF_putF (i j : D16) (v : AV) (fr : Fr) : getF i j (putF i j v fr) = some v := by simp only [getF, putF, N16.get_put]
theorem getF_putF_ne {i j i' j' : D16} (h : ¬(i' = i ∧ j' = j)) (v : AV) (fr : Fr) : getF i' j' (putF i j v fr) = getF i' j' fr := by
  simp only [getF, putF]
  by_cases hi : i' = i
  · subst hi
    rw [N16.get_put]
    by_cases hj : j' = j
    · exact absurd ⟨rfl, hj⟩ h
    · rw [N16.get_put_ne hj]
  · rw [N16.get_put_ne hi]
theorem getF_nil (i j : D16) : getF i j Fr.nil = none := by simp only [getF, Fr.nil, N16.get_rep]
def tn (i j : D16) : Nat := i.val * 16 + j.val
theorem tn_inj {i j i' j' : D16} (h : tn i j = tn i' j') : i = i' ∧ j = j' := by
  unfold tn at h
  have := D16.val_lt j
  have := D16.val_lt j'
  exact ⟨D16.val_inj (by omega), D16.val_inj (by omega)⟩
theorem D16.of_val : ∀ {n : Nat} {d : D16}, D16.of n = some d → d.val = n := by
  intro n d h
  match n, h with
  | 0, h => cases h; rfl
  | 1, h => cases h; rfl
  | 2, h => cases h; rfl
  | 3, h => cases h; rfl
  | 4, h => cases h; rfl
  | 5, h => cases h; rfl
  | 6, h => cases h; rfl
  | 7, h => cases h; rfl
  | 8, h => cases h; rfl
  | 9, h => cases h; rfl
  | 10, h => cases h; rfl
  | 11, h => cases h; rfl
  | 12, h => cases h; rfl
  | 13, h => cases h; rfl
  | 14, h => cases h; rfl
  | 15, h => cases h; rfl
  | n + 16, h => cases h
theorem tmpOf_tn {n : Nat} {i j : D16} (h : tmpOf n = some (i, j)) : tn i j = n := by
  unfold tmpOf at h
  cases h1 : D16.of (n / 16) with
  | none => rw [h1] at h; cases h
  | some a =>
    cases h2 : D16.of (n % 16) with
    | none => rw [h1, h2] at h; cases h
    | some b =>
      rw [h1, h2] at h
      cases h
      have := D16.of_val h1
      have := D16.of_val h2
      unfold tn; omega
theorem Bid.of_num {n : Nat} {i : Bid} (h : Bid.of n = some i) : i.num = n := by
  unfold Bid.of at h
  cases h1 : D16.of (n / 256) with
  | none => rw [h1] at h; cases h
  | some a =>
    cases h2 : D16.of (n / 16 % 16) with
    | none => rw [h1, h2] at h; cases h
    | some b =>
      cases h3 : D16.of (n % 16) with
      | none => rw [h1, h2, h3] at h; cases h
      | some c =>
        rw [h1, h2, h3] at h
        cases h
        have := D16.of_val h1
        have := D16.of_val h2
        have := D16.of_val h3
        unfold Bid.num; dsimp only; omega
theorem D16.inc_some {d e : D16} (h : d.inc = some e) : e.val = d.val + 1 := by cases d <;> first | (cases h; rfl) | cases h
theorem D16.inc_none {d : D16} (h : d.inc = none) : d.val = 15 := by cases d <;> first | rfl | cases h
theorem Bid.inc_num {i j : Bid} (h : i.inc = some j) : j.num = i.num + 1 := by
  cases i with | mk a b c =>
  unfold Bid.inc at h
  dsimp only at h
  cases hc : c.inc with
  | some c' =>
    rw [hc] at h
    cases h
    have := D16.inc_some hc
    unfold Bid.num; dsimp only; omega
  | none =>
    rw [hc] at h
    have h15 := D16.inc_none hc
    unfold inc3 at h
    dsimp only at h
    cases hb : b.inc with
    | some b' =>
      rw [hb] at h
      cases h
      have := D16.inc_some hb
      have h0 : D16.x0.val = 0 := rfl
      unfold Bid.num; dsimp only; omega
    | none =>
      rw [hb] at h
      have hb15 := D16.inc_none hb
      dsimp only at h
      cases ha : a.inc with
      | some a' =>
        rw [ha] at h
        cases h
        have := D16.inc_some ha
        have h0 : D16.x0.val = 0 := rfl
        unfold Bid.num; dsimp only; omega
      | none => rw [ha] at h; cases h
theorem Hp.get_putB (h : Hp) (id : Bid) (b : Option AB) : (h.putB id b).get id = b := by cases h; simp only [Hp.get, Hp.putB, get3_put3]
theorem Hp.get_putB_ne {id j : Bid} (hj : j ≠ id) (h : Hp) (b : Option AB) : (h.putB id b).get j = h.get j := by cases h; simp only [Hp.get, Hp.putB, get3_put3_ne hj]
theorem Hp.next_putB (h : Hp) (id : Bid) (b : Option AB) : (h.putB id b).next = h.next := by cases h; rfl
section lists
variable {α : Type}
theorem ob_some {β : Type} {o : Option α} {f : α → Option β} {b : β} (h : ob o f = some b) : ∃ a, o = some a ∧ f a = some b := by
  cases o with
  | none => cases h
  | some a => exact ⟨a, rfl, h⟩
theorem bo_some {c : Bool} {o : Option α} {b : α} (h : bo c o = some b) : c = true ∧ o = some b := by
  cases c with
  | false => cases h
  | true => exact ⟨rfl, h⟩
theorem lget_eq : ∀ (n : Nat) (l : List α), lget n l = l[n]?
  | 0, [] => rfl
  | 0, _ :: _ => rfl
  | n + 1, [] => rfl
  | n + 1, x :: l => by
    show lget n l = _
    rw [lget_eq n l]; simp
theorem ltake_some : ∀ {n : Nat} {l m : List α}, ltake n l = some m → m = l.take n ∧ m.length = n
  | 0, l, m, h => by cases h; simp
  | n + 1, [], m, h => by cases h
  | n + 1, x :: l, m, h => by
    have h' : ob (ltake n l) (fun t => some (x :: t)) = some m := h
    obtain ⟨t, ht, he⟩ := ob_some h'
    obtain ⟨h1, h2⟩ := ltake_some ht
    cases he
    exact ⟨by simp [← h1], by simp [h2]⟩
theorem lsub_some {k : Nat} : ∀ {n : Nat} {l m : List α}, lsub k n l = some m → m = (l.drop n).take k ∧ m.length = k ∧ n + k ≤ l.length
  | 0, l, m, h => by
    obtain ⟨h1, h2⟩ := ltake_some (show ltake k l = some m from h)
    refine ⟨by simpa using h1, h2, ?_⟩
    have : m.length ≤ l.length := by rw [h1]; simp; omega
    omega
  | n + 1, [], m, h => by cases h
  | n + 1, x :: l, m, h => by
    obtain ⟨h1, h2, h3⟩ := lsub_some (show lsub k n l = some m from h)
    exact ⟨by simpa using h1, h2, by simp; omega⟩
theorem lover_some : ∀ {new l m : List α}, lover new l = some m → m = new ++ l.drop new.length ∧ new.length ≤ l.length
  | [], l, m, h => by cases h; simp
  | x :: new, [], m, h => by cases h
  | x :: new, y :: l, m, h => by
    have h' : ob (lover new l) (fun t => some (x :: t)) = some m := h
    obtain ⟨t, ht, he⟩ := ob_some h'
    obtain ⟨h1, h2⟩ := lover_some ht
    cases he
    exact ⟨by simp [h1], by simp; omega⟩
theorem lovers_some {new : List α} : ∀ {n : Nat} {l m : List α}, lovers new n l = some m → m = l.take n ++ new ++ l.drop (n + new.length) ∧ n + new.length ≤ l.length
  | 0, l, m, h => by
    obtain ⟨h1, h2⟩ := lover_some (show lover new l = some m from h)
    exact ⟨by simpa using h1, by omega⟩
  | n + 1, [], m, h => by cases h
  | n + 1, x :: l, m, h => by
    have h' : ob (lovers new n l) (fun t => some (x :: t)) = some m := h
    obtain ⟨t, ht, he⟩ := ob_some h'
    obtain ⟨h1, h2⟩ := lovers_some ht
    cases he
    refine ⟨?_, by simp; omega⟩
    rw [h1, show n + 1 + new.length = (n + new.length) + 1 by omega]
    simp
theorem lovers_get {new l m : List α} {n : Nat} (h : lovers new n l = some m) (o : Nat) : m[o]? = if n ≤ o ∧ o < n + new.length then new[o - n]? else l[o]? := by
  obtain ⟨h1, h2⟩ := lovers_some h
  subst h1
  have ht : (l.take n).length = n := by simp; omega
  by_cases h3 : n ≤ o ∧ o < n + new.length
  · rw [if_pos h3, List.append_assoc, List.getElem?_append_right (by omega), ht, List.getElem?_append_left (by omega)]
  · rw [if_neg h3]
    by_cases h4 : o < n
    · rw [List.append_assoc, List.getElem?_append_left (by omega), List.getElem?_take_of_lt h4]
    · rw [List.append_assoc, List.getElem?_append_right (by omega), ht, List.getElem?_append_right (by omega), List.getElem?_drop]
      congr 1; omega
theorem lovers_length {new l m : List α} {n : Nat} (h : lovers new n l = some m) : m.length = l.length := by
  obtain ⟨h1, h2⟩ := lovers_some h
  subst h1; simp; omega
end lists
inductive All2 {α β : Type} (R : α → β → Prop) : List α → List β → Prop where
  | nil : All2 R [] []
  | cons {x : α} {y : β} {l : List α} {m : List β} (h : R x y) (t : All2 R l m) : All2 R (x :: l) (y :: m)
namespace All2
variable {α β : Type} {R S : α → β → Prop}
theorem length {l : List α} {m : List β} (h : All2 R l m) : l.length = m.length := by
  induction h with
  | nil => rfl
  | cons _ _ ih => simp [ih]
theorem mono (hr : ∀ x y, R x y → S x y) {l : List α} {m : List β} (h : All2 R l m) : All2 S l m := by
  induction h with
  | nil => exact .nil
  | cons h _ ih => exact .cons (hr _ _ h) ih
theorem get {l : List α} {m : List β} (h : All2 R l m) {i : Nat} {x : α} (hx : l[i]? = some x) : ∃ y, m[i]? = some y ∧ R x y := by
  induction h generalizing i with
  | nil => simp at hx
  | cons h t ih =>
    cases i with
    | zero => simp at hx; subst hx; exact ⟨_, rfl, h⟩
    | succ i => simpa using ih (by simpa using hx)
theorem append {l l' : List α} {m m' : List β} (h : All2 R l m) (h' : All2 R l' m') : All2 R (l ++ l') (m ++ m') := by
  induction h with
  | nil => exact h'
  | cons h t ih => exact .cons h ih
theorem drop {l : List α} {m : List β} (h : All2 R l m) (n : Nat) : All2 R (l.drop n) (m.drop n) := by
  induction h generalizing n with
  | nil => simp; exact .nil
  | cons h t ih =>
    cases n with
    | zero => exact .cons h t
    | succ n => simpa using ih n
theorem take {l : List α} {m : List β} (h : All2 R l m) (n : Nat) : All2 R (l.take n) (m.take n) := by
  induction h generalizing n with
  | nil => simp; exact .nil
  | cons h t ih =>
    cases n with
    | zero => simp; exact .nil
    | succ n => simpa using .cons h (ih n)
theorem of_get {l : List α} {m : List β} (hl : l.length = m.length) (h : ∀ (i : Nat) x y, l[i]? = some x → m[i]? = some y → R x y) : All2 R l m := by
  induction l generalizing m with
  | nil => cases m with
    | nil => exact .nil
    | cons y m => simp at hl
  | cons x l ih => cases m with
    | nil => simp at hl
    | cons y m => exact .cons (h 0 x y rfl rfl) (ih (by simpa using hl) fun i a b ha hb => h (i + 1) a b (by simpa using ha) (by simpa using hb))
end All2
end Go.Proofs.YtjnfgapfhpihmaaGreat
namespace Go.Proofs.YtjnfgapfhpihmaaGreat
structure Emb where
  m : Bid → Option (Nat × Nat × Nat)
  z : Nat → Option Obj
instance : CoeFun Emb (fun _ => Bid → Option (Nat × Nat × Nat)) := ⟨Emb.m⟩
def Emb.nil (z : Nat → Option Obj) : Emb := ⟨fun _ => none, z⟩
def SlG (z : Nat → Option Obj) (n : Nat) (R : List DV → List Value → Prop) (rows : List (List DV)) (v : Value) : Prop :=
  ∃ p cap, v = .slice p rows.length cap ∧ rows.length ≤ cap ∧ (rows = [] ∨ ∃ b off arr T fz, p = some ⟨b, off, none⟩ ∧ z b = some (.cells arr T fz) ∧ ∀ (i : Nat) row, rows[i]? = some row → R row ((arr.toList.drop (off + i * n)).take n))
def RowD (z : Nat → Option Obj) : Sh → List DV → List Value → Prop
  | .nil, l, vs => l = [] ∧ vs = []
  | .b e, l, vs => ∃ x l' vs', l = .b x :: l' ∧ vs = .bool x :: vs' ∧ RowD z e l' vs'
  | .i k e, l, vs => ∃ n l' vs', l = .i n :: l' ∧ vs = .int k n :: vs' ∧ RowD z e l' vs'
  | .s e, l, vs => ∃ y l' vs', l = .s y :: l' ∧ vs = .string y :: vs' ∧ RowD z e l' vs'
  | .sl d e, l, vs => ∃ rows v l' vs', l = .sl rows :: l' ∧ vs = v :: vs' ∧ SlG z d.len (RowD z d) rows v ∧ RowD z e l' vs'
theorem SlG.le {z z' : Nat → Option Obj} (hz : ∀ b x, z b = some x → z' b = some x) {n : Nat} {R R' : List DV → List Value → Prop} (hR : ∀ l vs, R l vs → R' l vs) {rows : List (List DV)} {v : Value} (h : SlG z n R rows v) : SlG z' n R' rows v := by
  obtain ⟨p, cap, h1, h0, h2⟩ := h
  refine ⟨p, cap, h1, h0, ?_⟩
  rcases h2 with h2 | ⟨b, off, arr, T, fz, h3, h4, h5⟩
  · exact .inl h2
  · exact .inr ⟨b, off, arr, T, fz, h3, hz _ _ h4, fun i row hr => hR _ _ (h5 i row hr)⟩
theorem RowD.le {z z' : Nat → Option Obj} (hz : ∀ b x, z b = some x → z' b = some x) : ∀ (e : Sh) (l : List DV) (vs : List Value), RowD z e l vs → RowD z' e l vs
  | .nil, _, _, h => h
  | .b e, _, _, ⟨x, l', vs', h1, h2, h3⟩ => ⟨x, l', vs', h1, h2, RowD.le hz e _ _ h3⟩
  | .i _ e, _, _, ⟨x, l', vs', h1, h2, h3⟩ => ⟨x, l', vs', h1, h2, RowD.le hz e _ _ h3⟩
  | .s e, _, _, ⟨x, l', vs', h1, h2, h3⟩ => ⟨x, l', vs', h1, h2, RowD.le hz e _ _ h3⟩
  | .sl d e, _, _, ⟨rows, v, l', vs', h1, h2, h3, h4⟩ => ⟨rows, v, l', vs', h1, h2, h3.le hz (RowD.le hz d), RowD.le hz e _ _ h4⟩
def SlD (z : Nat → Option Obj) (e : Sh) (rows : List (List DV)) (v : Value) : Prop := SlG z e.len (RowD z e) rows v
def PtrAt (φ : Emb) (p : Bid × Nat) (v : Value) : Prop := ∃ b base tot, φ p.1 = some (b, base, tot) ∧ v = .pointer (some ⟨b, base + p.2, none⟩)
def VC (ρ : Vn) (φ : Emb) (x : AC) (v : Value) : Prop :=
  match x with
  | .b x => v = .bool x
  | .i k n => v = .int k n
  | .s l => ∃ y : ByteArray, v = .string y ∧ y.data.toList.map UInt8.toNat = l
  | .pn => v = .pointer none
  | .p id off => PtrAt φ (id, off) v
  | .sn => v = .slice none 0 0
  | .sl id off len cap => ∃ b base tot, φ id = some (b, base, tot) ∧ v = .slice (some ⟨b, base + off, none⟩) len cap
  | .su id off len lb es => ∃ b base tot cap, φ id = some (b, base, tot) ∧ v = .slice (some ⟨b, base + off, none⟩) len cap ∧ len ≤ lb ∧ lb ≤ cap ∧ base + off + cap * es ≤ tot
  | .se id es => ∃ b base tot o cap, φ id = some (b, base, tot) ∧ v = .slice (some ⟨b, o, none⟩) 0 cap ∧ o + cap * es ≤ tot
  | .mn => v = .map none
  | .mp id => ∃ b base tot, φ id = some (b, base, tot) ∧ v = .map (some b)
  | .fn f first caps => ∃ xs ys : List Value, v = .func (.func f.num) xs.toArray ys.toArray ∧ All2 (PtrAt φ) first xs ∧ All2 (PtrAt φ) caps ys
  | .fz => v = .nilFunc
  | .ni => v = .nilIface
  | .si k y => v = .int k (ρ.i y)
  | .ss y => v = .string (ρ.s y)
  | .top => ∃ y, v = .string y
  | .sb y => v = .bool (ρ.b y)
  | .ds e y => SlD φ.z e (ρ.d y) v
  | .pd e y t o => ∃ b base arr T fz row, v = .pointer (some ⟨b, base + o, none⟩) ∧ φ.z b = some (.cells arr T fz) ∧ (ρ.d y)[(ρ.i t).toNat]? = some row ∧ RowD φ.z e row ((arr.toList.drop base).take e.len)
  | .gv y => v = ρ.g y ∧ v.oneCell' = true
  | .ge lo => ∃ n : Nat, v = .int .i64 (n : Int) ∧ lo ≤ n
  | .dc e y => SlD φ.z e (ρ.d y) v ∧ ∃ p n, v = .slice p n n
  | .sr id e y => ∃ b tot cap, φ id = some (b, 0, tot) ∧ v = .slice (some ⟨b, 0, none⟩) (ρ.d y).length cap ∧ (ρ.d y).length ≤ cap ∧ cap * e.len ≤ tot ∧ cap ≤ 9223372036854775807
def VT (ρ : Vn) (φ : Emb) (x : TV) (v : Value) : Prop :=
  match x with
  | .c x => VC ρ φ x v
  | .a l => ∃ vs : List Value, v = .agg vs.toArray ∧ All2 (VC ρ φ) l vs
def VV (ρ : Vn) (φ : Emb) (x : AV) (v : Value) : Prop :=
  match x with
  | .c x => VC ρ φ x v
  | .a l => ∃ vs : List Value, v = .agg vs.toArray ∧ All2 (VC ρ φ) l vs
  | .t l => ∃ vs : List Value, v = .tuple vs.toArray ∧ All2 (VT ρ φ) l vs
structure Emb.le (φ φ' : Emb) : Prop where
  m : ∀ id x, φ id = some x → φ' id = some x
  z : ∀ b x, φ.z b = some x → φ'.z b = some x
instance {φ φ' : Emb} : CoeFun (Emb.le φ φ') (fun _ => ∀ id x, φ id = some x → φ' id = some x) := ⟨Emb.le.m⟩
theorem Emb.le.refl (φ : Emb) : φ.le φ := ⟨fun _ _ h => h, fun _ _ h => h⟩
theorem Emb.le.trans {φ φ' φ'' : Emb} (a : φ.le φ') (b : φ'.le φ'') : φ.le φ'' := ⟨fun id x h => b.m id x (a.m id x h), fun id x h => b.z id x (a.z id x h)⟩
section
variable {ρ : Vn} {φ φ' : Emb}
theorem PtrAt.le (h : φ.le φ') {p : Bid × Nat} {v : Value} (hp : PtrAt φ p v) : PtrAt φ' p v := by
  obtain ⟨b, base, tot, h1, h2⟩ := hp
  exact ⟨b, base, tot, h _ _ h1, h2⟩
theorem VC.le (h : φ.le φ') {x : AC} {v : Value} (hv : VC ρ φ x v) : VC ρ φ' x v := by
  cases x with
  | p id off => exact PtrAt.le h hv
  | sl id off len cap => obtain ⟨b, base, tot, h1, h2⟩ := hv; exact ⟨b, base, tot, h _ _ h1, h2⟩
  | su id off len lb es => obtain ⟨b, base, tot, cap, h1, h2⟩ := hv; exact ⟨b, base, tot, cap, h _ _ h1, h2⟩
  | se id es => obtain ⟨b, base, tot, o, cap, h1, h2⟩ := hv; exact ⟨b, base, tot, o, cap, h _ _ h1, h2⟩
  | mp id => obtain ⟨b, base, tot, h1, h2⟩ := hv; exact ⟨b, base, tot, h _ _ h1, h2⟩
  | fn f first caps => obtain ⟨xs, ys, h1, h2, h3⟩ := hv; exact ⟨xs, ys, h1, h2.mono fun _ _ => PtrAt.le h, h3.mono fun _ _ => PtrAt.le h⟩
  | ds e y => exact SlG.le h.z (RowD.le h.z e) hv
  | dc e y => exact ⟨SlG.le h.z (RowD.le h.z e) hv.1, hv.2⟩
  | sr id e y => obtain ⟨b, tot, cap, h1, h2⟩ := hv; exact ⟨b, tot, cap, h _ _ h1, h2⟩
  | pd e y t o => obtain ⟨b, base, arr, T, fz, row, h1, h2, h3, h4⟩ := hv; exact ⟨b, base, arr, T, fz, row, h1, h.z _ _ h2, h3, RowD.le h.z e _ _ h4⟩
  | _ => exact hv
theorem VC.sld {c : AC} {s : Sh} {y : Nm} (hc : c = .ds s y ∨ c = .dc s y) {v : Value} (hv : VC ρ φ c v) : SlD φ.z s (ρ.d y) v := by
  rcases hc with rfl | rfl
  · exact hv
  · exact hv.1
theorem VT.le (h : φ.le φ') {x : TV} {v : Value} (hv : VT ρ φ x v) : VT ρ φ' x v := by
  cases x with
  | c x => exact VC.le h hv
  | a l => obtain ⟨vs, h1, h2⟩ := hv; exact ⟨vs, h1, h2.mono fun _ _ => VC.le h⟩
theorem VV.le (h : φ.le φ') {x : AV} {v : Value} (hv : VV ρ φ x v) : VV ρ φ' x v := by
  cases x with
  | c x => exact VC.le h hv
  | a l => obtain ⟨vs, h1, h2⟩ := hv; exact ⟨vs, h1, h2.mono fun _ _ => VC.le h⟩
  | t l => obtain ⟨vs, h1, h2⟩ := hv; exact ⟨vs, h1, h2.mono fun _ _ => VT.le h⟩
theorem VC.one {x : AC} {v : Value} (hv : VC ρ φ x v) : v.oneCell' = true := by
  cases x with
  | s l => obtain ⟨y, rfl, _⟩ := hv; rfl
  | p id off => obtain ⟨b, base, tot, _, rfl⟩ := hv; rfl
  | sl id off len cap => obtain ⟨b, base, tot, _, rfl⟩ := hv; rfl
  | su id off len lb es => obtain ⟨b, base, tot, cap, _, rfl, _⟩ := hv; rfl
  | se id es => obtain ⟨b, base, tot, o, cap, _, rfl, _⟩ := hv; rfl
  | mp id => obtain ⟨b, base, tot, _, rfl⟩ := hv; rfl
  | fn f first caps => obtain ⟨xs, ys, rfl, _⟩ := hv; rfl
  | top => obtain ⟨y, rfl⟩ := hv; rfl
  | ds e y => obtain ⟨p, cap, rfl, _⟩ := hv; rfl
  | pd e y t o => obtain ⟨b, base, arr, T, fz, row, rfl, _⟩ := hv; rfl
  | gv y => exact hv.2
  | ge lo => obtain ⟨n, rfl, _⟩ := hv; rfl
  | dc e y => obtain ⟨p, n, rfl⟩ := hv.2; rfl
  | sr id e y => obtain ⟨b, tot, cap, _, rfl, _⟩ := hv; rfl
  | _ => rw [show v = _ from hv]; rfl
theorem cells_one {v : Value} (h : v.oneCell' = true) : v.cells = #[v] := by cases v <;> first | rfl | cases h
theorem VV.cells {x : AV} {v : Value} {l : List AC} (hv : VV ρ φ x v) (h : x.cells = some l) : All2 (VC ρ φ) l v.cells.toList := by
  cases x with
  | c x =>
    cases h
    have h1 : VC ρ φ x v := hv
    rw [cells_one h1.one]
    exact .cons h1 .nil
  | a m => cases h; obtain ⟨vs, rfl, h2⟩ := hv; exact h2
  | t m => cases h
theorem All2.ones {l : List AC} {vs : List Value} (h : All2 (VC ρ φ) l vs) : ∀ v ∈ vs, v.oneCell' = true := by
  induction h with
  | nil => simp
  | cons h _ ih =>
    intro v hv
    rcases List.mem_cons.1 hv with rfl | hv
    · exact h.one
    · exact ih v hv
theorem VT.av {x : TV} {v : Value} (h : VT ρ φ x v) : VV ρ φ x.av v := by cases x <;> exact h
theorem VV.tv {x : AV} {v : Value} {y : TV} (h : VV ρ φ x v) (hy : x.tv = some y) : VT ρ φ y v := by
  cases x with
  | c x => cases hy; exact h
  | a x => cases hy; exact h
  | t x => cases hy
end
def FR (ρ : Vn) (φ : Emb) (fr : Fr) (tmps : Array Value) : Prop := ∀ i j v, getF i j fr = some v → tn i j < tmps.size ∧ VV ρ φ v (tmps.getD (tn i j) undef)
theorem FR.le {ρ : Vn} {φ φ' : Emb} {fr : Fr} {tmps : Array Value} (h : FR ρ φ fr tmps) (k : φ.le φ') : FR ρ φ' fr tmps := fun i j v hv => ⟨(h i j v hv).1, (h i j v hv).2.le k⟩
def CellsAt (ρ : Vn) (φ : Emb) (c : List AC) (base : Nat) (arr : Array Value) : Prop := base + c.length ≤ arr.size ∧ ∀ (o : Nat) x, c[o]? = some x → ∃ v, arr[base + o]? = some v ∧ VC ρ φ x v
def RowsIn (z : Nat → Option Obj) (e : Sh) (rows : List (List DV)) (arr : Array Value) : Prop := rows.length * e.len ≤ arr.size ∧ ∀ (i : Nat) row, rows[i]? = some row → RowD z e row ((arr.toList.drop (i * e.len)).take e.len)
theorem RowsIn.le {z z' : Nat → Option Obj} (hz : ∀ b x, z b = some x → z' b = some x) {e : Sh} {rows : List (List DV)} {arr : Array Value} (h : RowsIn z e rows arr) : RowsIn z' e rows arr := ⟨h.1, fun i row hr => RowD.le hz e _ _ (h.2 i row hr)⟩
structure Frz (ρ : Vn) (φ : Emb) (h : Hp) (w : World) : Prop where
  zin : ∀ b x, ρ.z b = some x → φ.z b = some x
  at_ : ∀ b x, φ.z b = some x → w.heap[b]? = some x ∧ ∀ id y, (h.get id).isSome → φ id = some y → y.1 ≠ b
theorem Frz.step {ρ : Vn} {φ φ' : Emb} {h h' : Hp} {w w' : World} (f : Frz ρ φ h w) (hfr : ∀ b, b < w.heap.size → (∀ id x, (h.get id).isSome → φ id = some x → x.1 ≠ b) → w'.heap[b]? = w.heap[b]?)
    (hsub : ∀ id x, (h'.get id).isSome → φ' id = some x → x.1 < w.heap.size → ∃ id0 x0, (h.get id0).isSome ∧ φ id0 = some x0 ∧ x0.1 = x.1) (hz : φ'.z = φ.z) : Frz ρ φ' h' w' := by
  refine ⟨fun b x hb => by rw [hz]; exact f.zin b x hb, ?_⟩
  intro b x hb
  rw [hz] at hb
  obtain ⟨h1, h2⟩ := f.at_ b x hb
  have hlt := (Array.getElem?_eq_some_iff.1 h1).1
  refine ⟨(hfr b hlt h2).trans h1, fun id y hl hy he => ?_⟩
  obtain ⟨id0, x0, h3, h4, h5⟩ := hsub id y hl hy (by omega)
  exact h2 id0 x0 h3 h4 (h5.trans he)
structure Rel0 (ρ : Vn) (φ : Emb) (h : Hp) (w : World) : Prop where
  cells : ∀ id c, h.get id = some (.cells c) → ∃ b base arr T, φ id = some (b, base, arr.size) ∧ w.heap[b]? = some (.cells arr T (0, 0)) ∧ CellsAt ρ φ c base arr
  maps : ∀ id l, h.get id = some (.map l) → ∃ b es clock, φ id = some (b, 0, 0) ∧ w.heap[b]? = some (.map es clock) ∧ All2 (fun (e : AV × AV) (x : MapEntry) => VV ρ φ e.1 x.key ∧ VV ρ φ e.2 x.val) l es.toList
  rows : ∀ id e y, h.get id = some (.row e y) → ∃ b arr T, φ id = some (b, 0, arr.size) ∧ w.heap[b]? = some (.cells arr T (0, 0)) ∧ RowsIn φ.z e (ρ.d y) arr
  inj : ∀ id id' x x', (h.get id).isSome → (h.get id').isSome → φ id = some x → φ id' = some x' → x.1 = x'.1 → id = id'
  low : ∀ id, (h.get id).isSome → id.num < h.next.num
  free : ∀ id, h.next.num ≤ id.num → φ id = none
structure Rel (ρ : Vn) (φ : Emb) (h : Hp) (w : World) : Prop extends Rel0 ρ φ h w where
  frz : Frz ρ φ h w
theorem CellsAt.le {ρ : Vn} {φ φ' : Emb} {c : List AC} {base : Nat} {arr : Array Value} (h : CellsAt ρ φ c base arr) (k : φ.le φ') : CellsAt ρ φ' c base arr :=
  ⟨h.1, fun o x hx => let ⟨v, h1, h2⟩ := h.2 o x hx; ⟨v, h1, h2.le k⟩⟩
structure Stp (ρ : Vn) (φ : Emb) (h : Hp) (w : World) (φ' : Emb) (h' : Hp) (w' : World) : Prop where
  le : φ.le φ'
  rel : Rel ρ φ' h' w'
  size : w.heap.size ≤ w'.heap.size
  frame : ∀ b, b < w.heap.size → (∀ id x, (h.get id).isSome → φ id = some x → x.1 ≠ b) → w'.heap[b]? = w.heap[b]?
  sub : ∀ id x, (h'.get id).isSome → φ' id = some x → x.1 < w.heap.size → ∃ id0 x0, (h.get id0).isSome ∧ φ id0 = some x0 ∧ x0.1 = x.1
  next : h.next.num ≤ h'.next.num
  dom : ∀ id, φ' id ≠ none → φ id ≠ none ∨ h.next.num ≤ id.num
  os : w'.os = w.os
  tape : w'.tape = w.tape
  output : w'.output = w.output
  zdom : ∀ b x, φ'.z b = some x → φ.z b = some x ∨ w.heap.size ≤ b ∨ ∃ id y, (h.get id).isSome ∧ φ id = some y ∧ y.1 = b
section
variable {ρ : Vn} {φ φ' φ'' : Emb} {h h' h'' : Hp} {w w' w'' : World}
theorem Stp.mk' (frz : Frz ρ φ h w) (le : φ.le φ') (rel : Rel0 ρ φ' h' w') (size : w.heap.size ≤ w'.heap.size)
    (frame : ∀ b, b < w.heap.size → (∀ id x, (h.get id).isSome → φ id = some x → x.1 ≠ b) → w'.heap[b]? = w.heap[b]?)
    (sub : ∀ id x, (h'.get id).isSome → φ' id = some x → x.1 < w.heap.size → ∃ id0 x0, (h.get id0).isSome ∧ φ id0 = some x0 ∧ x0.1 = x.1)
    (next : h.next.num ≤ h'.next.num) (dom : ∀ id, φ' id ≠ none → φ id ≠ none ∨ h.next.num ≤ id.num) (os : w'.os = w.os) (tape : w'.tape = w.tape) (output : w'.output = w.output) (hz : φ'.z = φ.z := by rfl) : Stp ρ φ h w φ' h' w' :=
  ⟨le, ⟨rel, frz.step frame sub hz⟩, size, frame, sub, next, dom, os, tape, output, fun b x hb => .inl (by rw [← hz]; exact hb)⟩
theorem Rel.block (r : Rel ρ φ h w) {id : Bid} {x : Nat × Nat × Nat} (hl : (h.get id).isSome) (hx : φ id = some x) : x.1 < w.heap.size := by
  cases hb : h.get id with
  | none => rw [hb] at hl; cases hl
  | some b =>
    cases b with
    | cells c =>
      obtain ⟨b, base, arr, T, h1, h2, _⟩ := r.cells id c hb
      rw [hx] at h1; cases h1
      exact (Array.getElem?_eq_some_iff.1 h2).1
    | map l =>
      obtain ⟨b, es, cl, h1, h2, _⟩ := r.maps id l hb
      rw [hx] at h1; cases h1
      exact (Array.getElem?_eq_some_iff.1 h2).1
    | row e y =>
      obtain ⟨b, arr, T, h1, h2, _⟩ := r.rows id e y hb
      rw [hx] at h1; cases h1
      exact (Array.getElem?_eq_some_iff.1 h2).1
theorem Rel.has (r : Rel ρ φ h w) {id : Bid} (hl : (h.get id).isSome) : ∃ x, φ id = some x := by
  cases hb : h.get id with
  | none => rw [hb] at hl; cases hl
  | some b =>
    cases b with
    | cells c => obtain ⟨b, base, arr, T, h1, _⟩ := r.cells id c hb; exact ⟨_, h1⟩
    | map l => obtain ⟨b, es, cl, h1, _⟩ := r.maps id l hb; exact ⟨_, h1⟩
    | row e y => obtain ⟨b, arr, T, h1, _⟩ := r.rows id e y hb; exact ⟨_, h1⟩
theorem Stp.refl (r : Rel ρ φ h w) : Stp ρ φ h w φ h w :=
  ⟨.refl _, r, Nat.le_refl _, fun _ _ _ => rfl, fun id x hl hx _ => ⟨id, x, hl, hx, rfl⟩, Nat.le_refl _, fun _ h => .inl h, rfl, rfl, rfl, fun _ _ h => .inl h⟩
theorem Stp.trans (a : Stp ρ φ h w φ' h' w') (b : Stp ρ φ' h' w' φ'' h'' w'') : Stp ρ φ h w φ'' h'' w'' where
  le := a.le.trans b.le
  rel := b.rel
  size := Nat.le_trans a.size b.size
  frame := fun g hg hn => (b.frame g (Nat.lt_of_lt_of_le hg a.size) fun id x hl hx he => by
    obtain ⟨id0, x0, h1, h2, h3⟩ := a.sub id x hl hx (by omega)
    exact hn id0 x0 h1 h2 (h3.trans he)).trans (a.frame g hg hn)
  sub := fun id x hl hx hs => by
    obtain ⟨id1, x1, h1, h2, h3⟩ := b.sub id x hl hx (Nat.lt_of_lt_of_le hs a.size)
    obtain ⟨id0, x0, h4, h5, h6⟩ := a.sub id1 x1 h1 h2 (by omega)
    exact ⟨id0, x0, h4, h5, h6.trans h3⟩
  next := Nat.le_trans a.next b.next
  dom := fun id hd => by
    rcases b.dom id hd with h1 | h1
    · exact a.dom id h1
    · exact .inr (Nat.le_trans a.next h1)
  os := b.os.trans a.os
  tape := b.tape.trans a.tape
  output := b.output.trans a.output
  zdom := fun g x hg => by
    rcases b.zdom g x hg with h1 | h1 | ⟨id, y, h1, h2, h3⟩
    · exact a.zdom g x h1
    · exact .inr (.inl (Nat.le_trans a.size h1))
    · by_cases hlt : g < w.heap.size
      · obtain ⟨id0, x0, h4, h5, h6⟩ := a.sub id y h1 h2 (by omega)
        exact .inr (.inr ⟨id0, x0, h4, h5, h6.trans h3⟩)
      · exact .inr (.inl (by omega))
theorem Rel.same (r : Rel ρ φ h w) (hh : w'.heap = w.heap) : Rel ρ φ h w' :=
  ⟨⟨by rw [hh]; exact r.cells, by rw [hh]; exact r.maps, by rw [hh]; exact r.rows, r.inj, r.low, r.free⟩, ⟨r.frz.zin, fun b x hb => ⟨by rw [hh]; exact (r.frz.at_ b x hb).1, (r.frz.at_ b x hb).2⟩⟩⟩
theorem Stp.draw (r : Rel ρ φ h w) (n : Nat) : Stp ρ φ h w φ h { w with drawn := n } :=
  ⟨.refl _, r.same rfl, Nat.le_refl _, fun _ _ _ => rfl, fun id x hl hx _ => ⟨id, x, hl, hx, rfl⟩, Nat.le_refl _, fun _ h => .inl h, rfl, rfl, rfl, fun _ _ h => .inl h⟩
theorem Rel.ld (r : Rel ρ φ h w) {id : Bid} {off : Nat} {x : AC} (hx : h.ld id off = some x) : ∃ b base tot v, φ id = some (b, base, tot) ∧ w.cell? ⟨b, base + off, none⟩ = some v ∧ VC ρ φ x v := by
  obtain ⟨c, hc, hl⟩ := ob_some hx
  obtain ⟨bk, hb, hk⟩ := ob_some hc
  cases bk with
  | map l => cases hk
  | row e y => cases hk
  | cells c' =>
    cases hk
    obtain ⟨b, base, arr, T, h1, h2, h3, h4⟩ := r.cells id c hb
    rw [lget_eq] at hl
    obtain ⟨v, h5, h6⟩ := h4 off x hl
    exact ⟨b, base, _, v, h1, by rw [cell_of_row w b _ arr T _ h2]; exact h5, h6⟩
theorem Rel.lds (r : Rel ρ φ h w) {id : Bid} {off k : Nat} {l : List AC} (hx : h.lds id off k = some l) : ∃ b base tot vs, φ id = some (b, base, tot) ∧ vs.length = k ∧ All2 (VC ρ φ) l vs ∧ (∀ (j : Nat) v, vs[j]? = some v → w.cell? ⟨b, base + off + j, none⟩ = some v) := by
  obtain ⟨c, hc, hl⟩ := ob_some hx
  obtain ⟨bk, hb, hk⟩ := ob_some hc
  cases bk with
  | map l => cases hk
  | row e y => cases hk
  | cells c' =>
    cases hk
    obtain ⟨b, base, arr, T, h1, h2, h3, h4⟩ := r.cells id c hb
    obtain ⟨hm, hlen, hfit⟩ := lsub_some hl
    subst hm
    refine ⟨b, base, _, (arr.toList.drop (base + off)).take k, h1, by simp; omega, ?_, ?_⟩
    · refine All2.of_get (by simp; omega) fun i x y hx hy => ?_
      have hi : i < k := by
        rcases Nat.lt_or_ge i k with h | h
        · exact h
        · rw [List.getElem?_take_eq_none (by omega)] at hx; cases hx
      rw [List.getElem?_take_of_lt hi, List.getElem?_drop] at hx hy
      obtain ⟨v, h5, h6⟩ := h4 (off + i) x hx
      rw [← Array.getElem?_toList, ← Nat.add_assoc, hy] at h5
      cases h5
      exact h6
    · intro j v hv
      have hj : j < k := by
        rcases Nat.lt_or_ge j k with h | h
        · exact h
        · rw [List.getElem?_take_eq_none (by omega)] at hv; cases hv
      rw [List.getElem?_take_of_lt hj, List.getElem?_drop] at hv
      rw [cell_of_row w b _ arr T _ h2, ← Array.getElem?_toList]
      exact hv
theorem Rel.sts (r : Rel ρ φ h w) {id : Bid} {off : Nat} {l : List AC} {vs : List Value} (hl : All2 (VC ρ φ) l vs) (hx : h.sts id off l = some h') : ∃ b base arr T, φ id = some (b, base, arr.size) ∧ w.heap[b]? = some (.cells arr T (0, 0)) ∧ base + off + vs.length ≤ arr.size ∧
    Stp ρ φ h w φ h' (w.setRow b (arr.toList.take (base + off) ++ vs ++ arr.toList.drop (base + off + vs.length)).toArray) := by
  obtain ⟨c, hc, hx⟩ := ob_some hx
  obtain ⟨c2, hc2, hx⟩ := ob_some hx
  obtain ⟨bk, hb, hk⟩ := ob_some hc
  cases hx
  cases bk with
  | map l => cases hk
  | row e y => cases hk
  | cells c' =>
    cases hk
    obtain ⟨b, base, arr, T, h1, h2, h3, h4⟩ := r.cells id c hb
    have hlen := hl.length
    have hfit := (lovers_some hc2).2
    have hsz : (arr.toList.take (base + off) ++ vs ++ arr.toList.drop (base + off + vs.length)).toArray.size = arr.size := by simp; omega
    have hnew := setRow_heap w b arr (arr.toList.take (base + off) ++ vs ++ arr.toList.drop (base + off + vs.length)).toArray T (0, 0) h2
    have hlive : ∀ j, ((h.putB id (some (AB.cells c2))).get j).isSome = (h.get j).isSome := by
      intro j
      by_cases hj : j = id
      · subst hj; rw [Hp.get_putB, hb]; rfl
      · rw [Hp.get_putB_ne hj]
    refine ⟨b, base, arr, T, h1, h2, by omega, ?_⟩
    refine Stp.mk' r.frz (.refl _) ⟨?_, ?_, ?_, ?_, ?_, ?_⟩ (by simp) ?_ ?_ (by rw [Hp.next_putB]; exact Nat.le_refl _) (fun _ h => .inl h) rfl rfl rfl
    · intro j d hd
      by_cases hj : j = id
      · subst hj
        rw [Hp.get_putB] at hd
        cases hd
        refine ⟨b, base, _, T, by rw [hsz]; exact h1, hnew, by rw [hsz, lovers_length hc2]; omega, fun o x hx => ?_⟩
        rw [lovers_get hc2] at hx
        rw [List.getElem?_toArray]
        have ht : (arr.toList.take (base + off)).length = base + off := by simp; omega
        by_cases hr : off ≤ o ∧ o < off + l.length
        · rw [if_pos hr] at hx
          obtain ⟨v, h5, h6⟩ := hl.get hx
          refine ⟨v, ?_, h6⟩
          rw [List.append_assoc, List.getElem?_append_right (by omega), ht, List.getElem?_append_left (by omega), ← h5]
          congr 1; omega
        · rw [if_neg hr] at hx
          obtain ⟨v, h5, h6⟩ := h4 o x hx
          refine ⟨v, ?_, h6⟩
          rw [← Array.getElem?_toList] at h5
          by_cases ho : o < off
          · rw [List.append_assoc, List.getElem?_append_left (by omega), List.getElem?_take_of_lt (by omega)]; exact h5
          · rw [List.append_assoc, List.getElem?_append_right (by omega), ht, List.getElem?_append_right (by omega), List.getElem?_drop, ← h5]
            congr 1; omega
      · rw [Hp.get_putB_ne hj] at hd
        obtain ⟨b', base', arr', T', k1, k2, k3⟩ := r.cells j d hd
        refine ⟨b', base', arr', T', k1, ?_, k3⟩
        rw [setRow_other _ _ _ _ fun e => hj (r.inj j id _ _ (by rw [hd]; rfl) (by rw [hb]; rfl) k1 h1 e)]
        exact k2
    · intro j d hd
      have hj : j ≠ id := by rintro rfl; rw [Hp.get_putB] at hd; cases hd
      rw [Hp.get_putB_ne hj] at hd
      obtain ⟨b', es, cl, k1, k2, k3⟩ := r.maps j d hd
      refine ⟨b', es, cl, k1, ?_, k3⟩
      rw [setRow_other _ _ _ _ fun e => hj (r.inj j id _ _ (by rw [hd]; rfl) (by rw [hb]; rfl) k1 h1 e)]
      exact k2
    · intro j d y hd
      have hj : j ≠ id := by rintro rfl; rw [Hp.get_putB] at hd; cases hd
      rw [Hp.get_putB_ne hj] at hd
      obtain ⟨b', arr', T', k1, k2, k3⟩ := r.rows j d y hd
      refine ⟨b', arr', T', k1, ?_, k3⟩
      rw [setRow_other _ _ _ _ fun e => hj (r.inj j id _ _ (by rw [hd]; rfl) (by rw [hb]; rfl) k1 h1 e)]
      exact k2
    · intro i j x y hi hj; rw [hlive] at hi hj; exact r.inj i j x y hi hj
    · intro i hi; rw [hlive] at hi; rw [Hp.next_putB]; exact r.low i hi
    · intro i hi; rw [Hp.next_putB] at hi; exact r.free i hi
    · intro g hg hn
      exact setRow_other _ _ _ _ fun e => hn id _ (by rw [hb]; rfl) h1 e.symm
    · intro i x hi hx _
      rw [hlive] at hi
      exact ⟨i, x, hi, hx, rfl⟩
def Emb.add (φ : Emb) (id : Bid) (x : Nat × Nat × Nat) : Emb := ⟨fun j => if j = id then some x else φ j, φ.z⟩
theorem Emb.add_same (φ : Emb) (id : Bid) (x : Nat × Nat × Nat) : φ.add id x id = some x := by simp [Emb.add]
theorem Emb.add_ne {id j : Bid} (hj : j ≠ id) (φ : Emb) (x : Nat × Nat × Nat) : φ.add id x j = φ j := by simp [Emb.add, hj]
theorem Emb.le_add {id : Bid} (hf : φ id = none) (x : Nat × Nat × Nat) : φ.le (φ.add id x) := ⟨fun j y hy => by
  by_cases hj : j = id
  · subst hj; rw [hf] at hy; cases hy
  · rw [Emb.add_ne hj]; exact hy, fun _ _ h => h⟩
def Hp.more (h : Hp) (n : Bid) (b : AB) : Hp := ⟨n, put3 h.bl h.next (some b)⟩
theorem Hp.get_more_same (h : Hp) (n : Bid) (b : AB) : (h.more n b).get h.next = some b := by simp only [Hp.get, Hp.more, get3_put3]
theorem Hp.get_more_ne {h : Hp} {j : Bid} (hj : j ≠ h.next) (n : Bid) (b : AB) : (h.more n b).get j = h.get j := by cases h; simp only [Hp.get, Hp.more, get3_put3_ne hj]
theorem Rel.more (r : Rel ρ φ h w) {n : Bid} (hn : h.next.inc = some n) {b base tot : Nat} {B : AB} (hsz : w.heap.size ≤ w'.heap.size) (hs : w.heap.size ≤ b)
    (hw : ∀ g, g < w.heap.size → w'.heap[g]? = w.heap[g]?) (hos : w'.os = w.os) (htape : w'.tape = w.tape) (hout : w'.output = w.output)
    (hc : ∀ c, B = .cells c → ∃ arr T, tot = arr.size ∧ w'.heap[b]? = some (.cells arr T (0, 0)) ∧ CellsAt ρ (φ.add h.next (b, base, tot)) c base arr)
    (hm : ∀ l, B = .map l → base = 0 ∧ tot = 0 ∧ ∃ es clock, w'.heap[b]? = some (.map es clock) ∧ All2 (fun (e : AV × AV) (x : MapEntry) => VV ρ (φ.add h.next (b, base, tot)) e.1 x.key ∧ VV ρ (φ.add h.next (b, base, tot)) e.2 x.val) l es.toList)
    (hr : ∀ e y, B = .row e y → base = 0 ∧ ∃ arr T, tot = arr.size ∧ w'.heap[b]? = some (.cells arr T (0, 0)) ∧ RowsIn φ.z e (ρ.d y) arr := by intro e y h; cases h) :
    Stp ρ φ h w (φ.add h.next (b, base, tot)) (h.more n B) w' := by
  have hf : φ h.next = none := r.free _ (Nat.le_refl _)
  have hle := Emb.le_add hf (b, base, tot)
  have hnn := Bid.inc_num hn
  have hnot : h.get h.next = none := by
    cases hx : h.get h.next with
    | none => rfl
    | some y => have := r.low h.next (by rw [hx]; rfl); omega
  refine Stp.mk' r.frz hle ⟨?_, ?_, ?_, ?_, ?_, ?_⟩ hsz (fun g hg _ => hw g hg) ?_ ?_ ?_ hos htape hout
  · intro j c hd
    by_cases hj : j = h.next
    · subst hj
      rw [Hp.get_more_same] at hd
      cases hd
      obtain ⟨arr, T, h1, h2, h3⟩ := hc c rfl
      exact ⟨b, base, arr, T, by rw [Emb.add_same, h1], h2, h3⟩
    · rw [Hp.get_more_ne hj] at hd
      obtain ⟨b', base', arr', T', k1, k2, k3⟩ := r.cells j c hd
      exact ⟨b', base', arr', T', by rw [Emb.add_ne hj]; exact k1, by rw [hw _ (r.block (by rw [hd]; rfl) k1)]; exact k2, k3.le hle⟩
  · intro j l hd
    by_cases hj : j = h.next
    · subst hj
      rw [Hp.get_more_same] at hd
      cases hd
      obtain ⟨rfl, rfl, es, cl, h2, h3⟩ := hm l rfl
      exact ⟨b, es, cl, Emb.add_same _ _ _, h2, h3⟩
    · rw [Hp.get_more_ne hj] at hd
      obtain ⟨b', es, cl, k1, k2, k3⟩ := r.maps j l hd
      exact ⟨b', es, cl, by rw [Emb.add_ne hj]; exact k1, by rw [hw _ (r.block (by rw [hd]; rfl) k1)]; exact k2, k3.mono fun _ _ h => ⟨h.1.le hle, h.2.le hle⟩⟩
  · intro j d y hd
    by_cases hj : j = h.next
    · subst hj
      rw [Hp.get_more_same] at hd
      cases hd
      obtain ⟨rfl, arr, T, h1, h2, h3⟩ := hr d y rfl
      exact ⟨b, arr, T, by rw [Emb.add_same, h1], h2, h3⟩
    · rw [Hp.get_more_ne hj] at hd
      obtain ⟨b', arr', T', k1, k2, k3⟩ := r.rows j d y hd
      exact ⟨b', arr', T', by rw [Emb.add_ne hj]; exact k1, by rw [hw _ (r.block (by rw [hd]; rfl) k1)]; exact k2, k3⟩
  · intro i j x y hi hj hx hy he
    by_cases h1 : i = h.next
    · by_cases h2 : j = h.next
      · rw [h1, h2]
      · subst h1
        rw [Emb.add_same] at hx
        cases hx
        rw [Hp.get_more_ne h2] at hj
        rw [Emb.add_ne h2] at hy
        have := r.block hj hy
        simp only at he
        omega
    · by_cases h2 : j = h.next
      · subst h2
        rw [Emb.add_same] at hy
        cases hy
        rw [Hp.get_more_ne h1] at hi
        rw [Emb.add_ne h1] at hx
        have := r.block hi hx
        simp only at he
        omega
      · rw [Hp.get_more_ne h1] at hi
        rw [Hp.get_more_ne h2] at hj
        rw [Emb.add_ne h1] at hx
        rw [Emb.add_ne h2] at hy
        exact r.inj i j x y hi hj hx hy he
  · intro i hi
    show i.num < n.num
    by_cases h1 : i = h.next
    · subst h1; omega
    · rw [Hp.get_more_ne h1] at hi
      have := r.low i hi
      omega
  · intro i hi
    have hi' : n.num ≤ i.num := hi
    have h1 : i ≠ h.next := by rintro rfl; omega
    rw [Emb.add_ne h1]
    exact r.free i (by omega)
  · intro i x hi hx hlt
    by_cases h1 : i = h.next
    · subst h1
      rw [Emb.add_same] at hx
      cases hx
      simp only at hlt
      omega
    · rw [Hp.get_more_ne h1] at hi
      rw [Emb.add_ne h1] at hx
      exact ⟨i, x, hi, hx, rfl⟩
  · show h.next.num ≤ n.num
    omega
  · intro i hi
    by_cases h1 : i = h.next
    · subst h1; exact .inr (Nat.le_refl _)
    · rw [Emb.add_ne h1] at hi; exact .inl hi
end
end Go.Proofs.YtjnfgapfhpihmaaGreat
