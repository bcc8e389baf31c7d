/-
  A verified evaluator, its definitions: abstract values, abstract memory, compiled operations and code, and the evaluation itself. No function of the program is named here.
  Everything is laid out for the kernel: small closed arms, recursors named.
-/
import Derived.Calls
namespace Go.Proofs.YtmbbciidknchiaaGreat
inductive D16 where
  | x0 | x1 | x2 | x3 | x4 | x5 | x6 | x7 | x8 | x9 | xa | xb | xc | xd | xe | xf
  deriving Repr, DecidableEq, Inhabited
structure N16 (α : Type) where
  a0 : α
  a1 : α
  a2 : α
  a3 : α
  a4 : α
  a5 : α
  a6 : α
  a7 : α
  a8 : α
  a9 : α
  aa : α
  ab : α
  ac : α
  ad : α
  ae : α
  af : α
def N16.get {α : Type} (d : D16) : N16 α → α := D16.casesOn (motive := fun _ => N16 α → α) d N16.a0 N16.a1 N16.a2 N16.a3 N16.a4 N16.a5 N16.a6 N16.a7 N16.a8 N16.a9 N16.aa N16.ab N16.ac N16.ad N16.ae N16.af
def N16.p0 {α : Type} (v : α) (t : N16 α) : N16 α := N16.casesOn (motive := fun _ => N16 α) t fun _ a1 a2 a3 a4 a5 a6 a7 a8 a9 aa ab ac ad ae af => ⟨v, a1, a2, a3, a4, a5, a6, a7, a8, a9, aa, ab, ac, ad, ae, af⟩
def N16.p1 {α : Type} (v : α) (t : N16 α) : N16 α := N16.casesOn (motive := fun _ => N16 α) t fun a0 _ a2 a3 a4 a5 a6 a7 a8 a9 aa ab ac ad ae af => ⟨a0, v, a2, a3, a4, a5, a6, a7, a8, a9, aa, ab, ac, ad, ae, af⟩
def N16.p2 {α : Type} (v : α) (t : N16 α) : N16 α := N16.casesOn (motive := fun _ => N16 α) t fun a0 a1 _ a3 a4 a5 a6 a7 a8 a9 aa ab ac ad ae af => ⟨a0, a1, v, a3, a4, a5, a6, a7, a8, a9, aa, ab, ac, ad, ae, af⟩
def N16.p3 {α : Type} (v : α) (t : N16 α) : N16 α := N16.casesOn (motive := fun _ => N16 α) t fun a0 a1 a2 _ a4 a5 a6 a7 a8 a9 aa ab ac ad ae af => ⟨a0, a1, a2, v, a4, a5, a6, a7, a8, a9, aa, ab, ac, ad, ae, af⟩
def N16.p4 {α : Type} (v : α) (t : N16 α) : N16 α := N16.casesOn (motive := fun _ => N16 α) t fun a0 a1 a2 a3 _ a5 a6 a7 a8 a9 aa ab ac ad ae af => ⟨a0, a1, a2, a3, v, a5, a6, a7, a8, a9, aa, ab, ac, ad, ae, af⟩
def N16.p5 {α : Type} (v : α) (t : N16 α) : N16 α := N16.casesOn (motive := fun _ => N16 α) t fun a0 a1 a2 a3 a4 _ a6 a7 a8 a9 aa ab ac ad ae af => ⟨a0, a1, a2, a3, a4, v, a6, a7, a8, a9, aa, ab, ac, ad, ae, af⟩
def N16.p6 {α : Type} (v : α) (t : N16 α) : N16 α := N16.casesOn (motive := fun _ => N16 α) t fun a0 a1 a2 a3 a4 a5 _ a7 a8 a9 aa ab ac ad ae af => ⟨a0, a1, a2, a3, a4, a5, v, a7, a8, a9, aa, ab, ac, ad, ae, af⟩
def N16.p7 {α : Type} (v : α) (t : N16 α) : N16 α := N16.casesOn (motive := fun _ => N16 α) t fun a0 a1 a2 a3 a4 a5 a6 _ a8 a9 aa ab ac ad ae af => ⟨a0, a1, a2, a3, a4, a5, a6, v, a8, a9, aa, ab, ac, ad, ae, af⟩
def N16.p8 {α : Type} (v : α) (t : N16 α) : N16 α := N16.casesOn (motive := fun _ => N16 α) t fun a0 a1 a2 a3 a4 a5 a6 a7 _ a9 aa ab ac ad ae af => ⟨a0, a1, a2, a3, a4, a5, a6, a7, v, a9, aa, ab, ac, ad, ae, af⟩
def N16.p9 {α : Type} (v : α) (t : N16 α) : N16 α := N16.casesOn (motive := fun _ => N16 α) t fun a0 a1 a2 a3 a4 a5 a6 a7 a8 _ aa ab ac ad ae af => ⟨a0, a1, a2, a3, a4, a5, a6, a7, a8, v, aa, ab, ac, ad, ae, af⟩
def N16.pa {α : Type} (v : α) (t : N16 α) : N16 α := N16.casesOn (motive := fun _ => N16 α) t fun a0 a1 a2 a3 a4 a5 a6 a7 a8 a9 _ ab ac ad ae af => ⟨a0, a1, a2, a3, a4, a5, a6, a7, a8, a9, v, ab, ac, ad, ae, af⟩
def N16.pb {α : Type} (v : α) (t : N16 α) : N16 α := N16.casesOn (motive := fun _ => N16 α) t fun a0 a1 a2 a3 a4 a5 a6 a7 a8 a9 aa _ ac ad ae af => ⟨a0, a1, a2, a3, a4, a5, a6, a7, a8, a9, aa, v, ac, ad, ae, af⟩
def N16.pc {α : Type} (v : α) (t : N16 α) : N16 α := N16.casesOn (motive := fun _ => N16 α) t fun a0 a1 a2 a3 a4 a5 a6 a7 a8 a9 aa ab _ ad ae af => ⟨a0, a1, a2, a3, a4, a5, a6, a7, a8, a9, aa, ab, v, ad, ae, af⟩
def N16.pd {α : Type} (v : α) (t : N16 α) : N16 α := N16.casesOn (motive := fun _ => N16 α) t fun a0 a1 a2 a3 a4 a5 a6 a7 a8 a9 aa ab ac _ ae af => ⟨a0, a1, a2, a3, a4, a5, a6, a7, a8, a9, aa, ab, ac, v, ae, af⟩
def N16.pe {α : Type} (v : α) (t : N16 α) : N16 α := N16.casesOn (motive := fun _ => N16 α) t fun a0 a1 a2 a3 a4 a5 a6 a7 a8 a9 aa ab ac ad _ af => ⟨a0, a1, a2, a3, a4, a5, a6, a7, a8, a9, aa, ab, ac, ad, v, af⟩
def N16.pf {α : Type} (v : α) (t : N16 α) : N16 α := N16.casesOn (motive := fun _ => N16 α) t fun a0 a1 a2 a3 a4 a5 a6 a7 a8 a9 aa ab ac ad ae _ => ⟨a0, a1, a2, a3, a4, a5, a6, a7, a8, a9, aa, ab, ac, ad, ae, v⟩
def N16.put {α : Type} (d : D16) : α → N16 α → N16 α := D16.casesOn (motive := fun _ => α → N16 α → N16 α) d N16.p0 N16.p1 N16.p2 N16.p3 N16.p4 N16.p5 N16.p6 N16.p7 N16.p8 N16.p9 N16.pa N16.pb N16.pc N16.pd N16.pe N16.pf
def N16.rep {α : Type} (v : α) : N16 α := ⟨v, v, v, v, v, v, v, v, v, v, v, v, v, v, v, v⟩
def D16.val : D16 → Nat
  | .x0 => 0
  | .x1 => 1
  | .x2 => 2
  | .x3 => 3
  | .x4 => 4
  | .x5 => 5
  | .x6 => 6
  | .x7 => 7
  | .x8 => 8
  | .x9 => 9
  | .xa => 10
  | .xb => 11
  | .xc => 12
  | .xd => 13
  | .xe => 14
  | .xf => 15
def D16.of : Nat → Option D16
  | 0 => some .x0
  | 1 => some .x1
  | 2 => some .x2
  | 3 => some .x3
  | 4 => some .x4
  | 5 => some .x5
  | 6 => some .x6
  | 7 => some .x7
  | 8 => some .x8
  | 9 => some .x9
  | 10 => some .xa
  | 11 => some .xb
  | 12 => some .xc
  | 13 => some .xd
  | 14 => some .xe
  | 15 => some .xf
  | _ => none
def D16.inc (d : D16) : Option D16 := D16.casesOn (motive := fun _ => Option D16) d (some .x1) (some .x2) (some .x3) (some .x4) (some .x5) (some .x6) (some .x7) (some .x8) (some .x9) (some .xa) (some .xb) (some .xc) (some .xd) (some .xe) (some .xf) none
/-- A number of a block, or of a function. -/
structure Bid where
  a : D16
  b : D16
  c : D16
  deriving Repr, DecidableEq, Inhabited
def Bid.num (i : Bid) : Nat := i.a.val * 256 + i.b.val * 16 + i.c.val
def Bid.of (n : Nat) : Option Bid := match D16.of (n / 256), D16.of (n / 16 % 16), D16.of (n % 16) with
  | some a, some b, some c => some ⟨a, b, c⟩
  | _, _, _ => none
def inc3 (a b : D16) : Option Bid := Option.casesOn (motive := fun _ => Option Bid) b.inc (Option.casesOn (motive := fun _ => Option Bid) a.inc none fun a => some ⟨a, .x0, .x0⟩) fun b => some ⟨a, b, .x0⟩
def Bid.inc (i : Bid) : Option Bid := Option.casesOn (motive := fun _ => Option Bid) i.c.inc (inc3 i.a i.b) fun c => some ⟨i.a, i.b, c⟩

/-- What one cell holds. -/
inductive AC where
  | b (x : Bool)
  | i (k : IntKind) (n : Int)
  | s (l : List Nat)
  | pn
  | p (id : Bid) (off : Nat)
  | sn
  | sl (id : Bid) (off len cap : Nat)
  | su (id : Bid) (off len lb es : Nat)
  | se (id : Bid) (es : Nat)
  | mn
  | mp (id : Bid)
  | fn (f : Bid) (first caps : List (Bid × Nat))
  | fz
  | ni
  | si (k : IntKind) (y : Nat)
  | ss (y : Nat)
  | top
  deriving Repr, DecidableEq, Inhabited
/-- a part of a tuple -/
inductive TV where
  | c (x : AC)
  | a (l : List AC)
  deriving Repr, Inhabited
inductive AV where
  | c (x : AC)
  | a (l : List AC)
  | t (l : List TV)
  deriving Repr, Inhabited
def TV.av (v : TV) : AV := TV.casesOn (motive := fun _ => AV) v AV.c AV.a
def AV.tv (v : AV) : Option TV := AV.casesOn (motive := fun _ => Option TV) v (fun x => some (.c x)) (fun l => some (.a l)) (fun _ => none)
def AV.cells (v : AV) : Option (List AC) := AV.casesOn (motive := fun _ => Option (List AC)) v (fun x => some [x]) some (fun _ => none)
def AC.beq (x y : AC) : Bool := decide (x = y)
def AV.beq : AV → AV → Bool
  | .c x, .c y => AC.beq x y
  | .a l, .a m => decide (l = m)
  | _, _ => false

inductive AX where
  | t (i j : D16)
  | k (v : AV)
  deriving Repr, Inhabited

/-- kinds of cells that are compared -/
inductive CK where
  | b | i | s
  deriving Repr, DecidableEq, Inhabited
inductive AO where
  | mv (x : AX)
  | pick (c x y : AX)
  | gen (o : Op)
  | bin (op : BinOp) (x y : AX)
  | not (x : AX)
  | ci (k : IntKind) (x : AX)
  | eqs (neg : Bool) (x y : AX)
  | eqa (neg : Bool) (ks : List CK) (x y : AX)
  | al (z : List AC)
  | bx (x : AX)
  | bd (z : List AC) (ps : List (Nat × Nat × AX))
  | bs (z : List AC) (len : Nat) (ps : List (Nat × Nat × AX))
  | ld (x : AX)
  | ldn (n : Nat) (x : AX)
  | st (n : Nat) (x v : AX)
  | nc (x : AX)
  | mf (f : Bid) (first caps : List AX)
  | ixa (n size : Nat) (agg : Bool) (x i : AX)
  | mm
  | ms (z : List AC) (bytes : Nat) (l c : AX)
  | sll (size : Nat) (x : AX) (lo hi mx : Option AX)
  | sla (n size : Nat) (x : AX) (lo hi mx : Option AX)
  | fa (off : Nat) (x : AX)
  | fd (off : Nat) (x : AX)
  | fdn (off n : Nat) (x : AX)
  | iaa (n size : Nat) (x i : AX)
  | ias (size : Nat) (x i : AX)
  | eqn (neg : Bool) (x y : AX)
  | len (x : AX)
  | lens (x : AX)
  | cap (x : AX)
  | lk (z : AV) (ok : Bool) (ag : Bool) (ks : List CK) (x i : AX)
  | mu (ag : Bool) (ks : List CK) (m k v : AX)
  | ex (x : AX) (i : Nat)
  | bts (x : AX)
  | call (f : Bid) (args : List AX)
  | cv (x : AX) (args : List AX)
  | ap (size bytes : Nat) (x y : AX)
  | apz (size bytes : Nat) (z : List AC) (x y : AX)
  | cp (size : Nat) (x y : AX)
  | clr (z : List AC) (x : AX)
  | no
  deriving Inhabited
/-- kinds of an operation in a region that draws its order -/
inductive AK where
  | pure | read (lo : Nat) | make | effect
  deriving Repr, Inhabited
/-- One operation: where its value goes, what it does, its guard. -/
structure AOp where
  dst : Option (D16 × D16)
  op : AO
  guard : Option (D16 × D16 × Bool)
  deriving Inhabited
inductive ACd where
  | skip
  | reg (l : List AOp)
  | dreg (l : List (AOp × AK))
  | seq (a b : ACd)
  | cond (c : AX) (x y : ACd)
  | block (id : Nat) (b : ACd)
  | loop (b : ACd)
  | exit (id : Nat)
  | ret
  | bad
  deriving Inhabited
inductive AR where
  | tmp (i j : D16)
  | cell (i j : D16)
  | cells (i j : D16) (n : Nat)
  deriving Repr, Inhabited
inductive AFn where
  | code (body : ACd) (results : List AR)
  | nat (g : List AV → Option AV)
  deriving Inhabited
/-- Memory. -/
inductive AB where
  | cells (c : List AC)
  | map (l : List (AV × AV))
structure Hp where
  next : Bid
  bl : N16 (N16 (N16 (Option AB)))
abbrev Fr := N16 (N16 (Option AV))
abbrev Tab := N16 (N16 (N16 (Option AFn)))
def Fr.nil : Fr := N16.rep (N16.rep none)
def bl0 : N16 (N16 (N16 (Option AB))) := N16.rep (N16.rep (N16.rep none))
def get3 {α : Type} (t : N16 (N16 (N16 α))) (i : Bid) : α := Bid.casesOn (motive := fun _ => α) i fun a b c => N16.get c (N16.get b (N16.get a t))
def put3 {α : Type} (t : N16 (N16 (N16 α))) (i : Bid) (v : α) : N16 (N16 (N16 α)) := Bid.casesOn (motive := fun _ => N16 (N16 (N16 α))) i fun a b c => N16.put a (N16.put b (N16.put c v (N16.get b (N16.get a t))) (N16.get a t)) t
def getF (i j : D16) (fr : Fr) : Option AV := N16.get j (N16.get i fr)
def putF (i j : D16) (v : AV) (fr : Fr) : Fr := N16.put i (N16.put j (some v) (N16.get i fr)) fr
def evK (v : AV) (_ : Fr) : Option AV := some v
def ev (x : AX) : Fr → Option AV := AX.casesOn (motive := fun _ => Fr → Option AV) x getF evK
def Hp.get (h : Hp) (id : Bid) : Option AB := Hp.casesOn (motive := fun _ => Option AB) h fun _ bl => get3 bl id
/-- results of operations, of regions, of code -/
inductive RO where
  | no
  | ok (v : AV) (h : Hp)
inductive RF where
  | no
  | ok (fr : Fr) (h : Hp)
inductive RC where
  | no
  | nrm (fr : Fr) (h : Hp)
  | ex (id : Nat) (fr : Fr) (h : Hp)
  | ret (fr : Fr) (h : Hp)
def ob {α β : Type} (o : Option α) (f : α → Option β) : Option β := Option.casesOn (motive := fun _ => Option β) o none f
def ro {α : Type} (o : Option α) (f : α → RO) : RO := Option.casesOn (motive := fun _ => RO) o .no f
noncomputable def evs (fr : Fr) (l : List AX) : Option (List AV) :=
  @List.rec AX (fun _ => Option (List AV)) (some []) (fun x _ ih => ob (ev x fr) fun v => ob ih fun vs => some (v :: vs)) l
def bo {α : Type} (b : Bool) (o : Option α) : Option α := Bool.casesOn (motive := fun _ => Option α) b none o
def br (b : Bool) (o : RO) : RO := Bool.casesOn (motive := fun _ => RO) b .no o
def Hp.putB (h : Hp) (id : Bid) (b : Option AB) : Hp := Hp.casesOn (motive := fun _ => Hp) h fun n bl => ⟨n, put3 bl id b⟩
def new (h : Hp) (b : AB) (k : Bid → AV) : RO := Hp.casesOn (motive := fun _ => RO) h fun i bl => ro i.inc fun n => .ok (k i) ⟨n, put3 bl i (some b)⟩
/-- list by number -/
noncomputable def lget {α : Type} (n : Nat) : List α → Option α :=
  @Nat.rec (fun _ => List α → Option α) (fun l => List.casesOn (motive := fun _ => Option α) l none fun x _ => some x) (fun _ ih l => List.casesOn (motive := fun _ => Option α) l none fun _ t => ih t) n
noncomputable def lput {α : Type} (v : α) (n : Nat) : List α → Option (List α) :=
  @Nat.rec (fun _ => List α → Option (List α)) (fun l => List.casesOn (motive := fun _ => Option (List α)) l none fun _ t => some (v :: t)) (fun _ ih l => List.casesOn (motive := fun _ => Option (List α)) l none fun x t => ob (ih t) fun t => some (x :: t)) n
noncomputable def ltake {α : Type} (n : Nat) : List α → Option (List α) :=
  @Nat.rec (fun _ => List α → Option (List α)) (fun _ => some []) (fun _ ih l => List.casesOn (motive := fun _ => Option (List α)) l none fun x t => ob (ih t) fun t => some (x :: t)) n
noncomputable def lsub {α : Type} (k : Nat) (n : Nat) : List α → Option (List α) :=
  @Nat.rec (fun _ => List α → Option (List α)) (ltake k) (fun _ ih l => List.casesOn (motive := fun _ => Option (List α)) l none fun _ t => ih t) n
/-- the cells new in place of as many, at the head -/
noncomputable def lover {α : Type} (new : List α) : List α → Option (List α) :=
  @List.rec α (fun _ => List α → Option (List α)) some (fun x _ ih l => List.casesOn (motive := fun _ => Option (List α)) l none fun _ t => ob (ih t) fun t => some (x :: t)) new
noncomputable def lovers {α : Type} (new : List α) (n : Nat) : List α → Option (List α) :=
  @Nat.rec (fun _ => List α → Option (List α)) (lover new) (fun _ ih l => List.casesOn (motive := fun _ => Option (List α)) l none fun x t => ob (ih t) fun t => some (x :: t)) n
def cellsOf (o : Option AB) : Option (List AC) := ob o fun b => AB.casesOn (motive := fun _ => Option (List AC)) b some (fun _ => none)
noncomputable def Hp.ld (h : Hp) (id : Bid) (off : Nat) : Option AC := ob (cellsOf (h.get id)) (lget off)
noncomputable def Hp.lds (h : Hp) (id : Bid) (off k : Nat) : Option (List AC) := ob (cellsOf (h.get id)) (lsub k off)
noncomputable def Hp.sts (h : Hp) (id : Bid) (off : Nat) (l : List AC) : Option Hp := ob (cellsOf (h.get id)) fun c => ob (lovers l off c) fun c => some (h.putB id (some (.cells c)))
def Hp.drop (h : Hp) (id : Bid) : Hp := h.putB id none
/-- taking values apart -/
def asC (v : AV) : Option AC := AV.casesOn (motive := fun _ => Option AC) v some (fun _ => none) (fun _ => none)
def asA (v : AV) : Option (List AC) := AV.casesOn (motive := fun _ => Option (List AC)) v (fun _ => none) some (fun _ => none)
def asT (v : AV) : Option (List TV) := AV.casesOn (motive := fun _ => Option (List TV)) v (fun _ => none) (fun _ => none) some
def onP (x : AC) (f : Bid → Nat → RO) : RO := AC.casesOn (motive := fun _ => RO) x (fun _ => .no) (fun _ _ => .no) (fun _ => .no) .no f .no (fun _ _ _ _ => .no) (fun _ _ _ _ _ => .no) (fun _ _ => .no) .no (fun _ => .no) (fun _ _ _ => .no) .no .no (fun _ _ => .no) (fun _ => .no) .no
def onB (x : AC) (f : Bool → RO) : RO := AC.casesOn (motive := fun _ => RO) x f (fun _ _ => .no) (fun _ => .no) .no (fun _ _ => .no) .no (fun _ _ _ _ => .no) (fun _ _ _ _ _ => .no) (fun _ _ => .no) .no (fun _ => .no) (fun _ _ _ => .no) .no .no (fun _ _ => .no) (fun _ => .no) .no
def asI (x : AC) (e : RO) (f : IntKind → Int → RO) : RO := AC.casesOn (motive := fun _ => RO) x (fun _ => e) f (fun _ => e) e (fun _ _ => e) e (fun _ _ _ _ => e) (fun _ _ _ _ _ => e) (fun _ _ => e) e (fun _ => e) (fun _ _ _ => e) e e (fun _ _ => e) (fun _ => e) e
def evC (x : AX) (fr : Fr) (f : AC → RO) : RO := ro (ev x fr) fun v => ro (asC v) f
def evP (x : AX) (fr : Fr) (f : Bid → Nat → RO) : RO := evC x fr fun v => onP v f
def natOf (x : AC) : Option Nat :=
  match x with
  | .i _ (.ofNat n) => some n
  | _ => none
def evN (x : AX) (fr : Fr) : Option Nat := ob (ev x fr) fun v => ob (asC v) natOf
/-- The cells of a slice, and how many elements. -/
noncomputable def Hp.row (h : Hp) (size : Nat) (x : AC) : Option (Nat × List AC) :=
  match x with
  | .sn => some (0, [])
  | .sl id off len _ => ob (h.lds id off (len * size)) fun l => some (len, l)
  | .su id off len _ es => bo (Nat.beq es size) (ob (h.lds id off (len * size)) fun l => some (len, l))
  | .se _ _ => some (0, [])
  | .s l => bo (Nat.beq size 1) (some (l.length, l.map fun (n : Nat) => AC.i .u8 (Int.ofNat n)))
  | _ => none
noncomputable def fill1 (fr : Fr) (p : Nat × Nat × AX) (ih : List AC → Option (List AC)) (z : List AC) : Option (List AC) := ob (ev p.2.2 fr) fun v => ob v.cells fun l => bo (Nat.beq l.length p.2.1) (ob (lovers l p.1 z) ih)
noncomputable def fills (fr : Fr) (ps : List (Nat × Nat × AX)) : List AC → Option (List AC) :=
  @List.rec (Nat × Nat × AX) (fun _ => List AC → Option (List AC)) some (fun p _ ih => fill1 fr p ih) ps
/-- bounds: none given means the fallback -/
def bound (fr : Fr) (d : Nat) : Option AX → Option Nat
  | none => some d
  | some x => evN x fr
def zrep (z : List AC) : Nat → List AC
  | 0 => []
  | n + 1 => z ++ zrep z n
/-- a value without addresses, as the model's value -/
def AC.val : AC → Option Value
  | .b x => some (.bool x)
  | .i k n => some (.int k n)
  | .s l => some (.string ⟨(l.map UInt8.ofNat).toArray⟩)
  | .pn => some (.pointer none)
  | .sn => some (.slice none 0 0)
  | .mn => some (.map none)
  | .fz => some .nilFunc
  | .ni => some .nilIface
  | _ => none
def vals : List AC → Option (List Value)
  | [] => some []
  | x :: l => match x.val with
    | none => none
    | some v => match vals l with
      | none => none
      | some vs => some (v :: vs)
def AV.val : AV → Option Value
  | .c x => x.val
  | .a l => match vals l with | some vs => some (.agg vs.toArray) | none => none
  | .t [] => some (.tuple #[])
  | .t _ => none
def AC.of : Value → Option AC
  | .bool x => some (.b x)
  | .int k n => some (.i k n)
  | .string y => some (.s (y.data.toList.map UInt8.toNat))
  | .pointer none => some .pn
  | .slice none 0 0 => some .sn
  | .map none => some .mn
  | .nilFunc => some .fz
  | .nilIface => some .ni
  | .func (.func f) x y => bif Nat.beq x.size 0 && Nat.beq y.size 0 then (match Bid.of f with | some f => some (.fn f [] []) | none => none) else none
  | _ => none
def acsOf : List Value → Option (List AC)
  | [] => some []
  | x :: l => match AC.of x with
    | none => none
    | some v => match acsOf l with
      | none => none
      | some vs => some (v :: vs)
def AV.of : Value → Option AV
  | .agg cs => match acsOf cs.toList with | some l => some (.a l) | none => none
  | .tuple vs => bif Nat.beq vs.size 0 then some (.t []) else none
  | v => match AC.of v with | some x => some (.c x) | none => none
/-- a program of the model that touches no memory -/
def pureRun {α : Type} (P : Program) : Sem α → Option α
  | .pure a => some a
  | .program k => pureRun P (k P)
  | _ => none
/-- the place of a temporary -/
def tmpOf (n : Nat) : Option (D16 × D16) := match D16.of (n / 16), D16.of (n % 16) with
  | some i, some j => some (i, j)
  | _, _ => none
/-- the value of an operand without addresses -/
def opdVal (fr : Fr) : Operand → Value
  | .tmp t => match tmpOf t with
    | some (i, j) => match getF i j fr with
      | some v => match v.val with | some u => u | none => undef
      | none => undef
    | none => undef
  | .const v => v
  | .global g => .pointer (some ⟨g, 0, none⟩)
  | .func f => .func (.func f) #[] #[]
def opdOk (fr : Fr) : Operand → Bool
  | .tmp t => match tmpOf t with
    | some (i, j) => match getF i j fr with
      | some v => v.val.isSome
      | none => false
    | none => false
  | _ => true
/-- the value of an operand -/
def opdAV (fr : Fr) : Operand → Option AV
  | .tmp t => match tmpOf t with
    | some (i, j) => getF i j fr
    | none => none
  | .const v => AV.of v
  | _ => none
def genRun (P : Program) (o : Op) (fr : Fr) : Option AV :=
  bif o.operands.toList.all (opdOk fr) then
    match pureRun P (execOp (opdVal fr) ⟨none, o, 0, "", #[], none⟩) with
    | some (.value v) => AV.of v
    | _ => none
  else none
/-- arithmetic -/
def slow (op : BinOp) (k : IntKind) (a b : Int) : Option AC :=
  match op with
  | .add => some (.i k (k.wrap (a + b)))
  | .sub => some (.i k (k.wrap (a - b)))
  | .mul => some (.i k (k.wrap (a * b)))
  | .eql => some (.b (decide (a = b)))
  | .neq => some (.b (!decide (a = b)))
  | .lss => some (.b (decide (a < b)))
  | .leq => some (.b (decide (a ≤ b)))
  | .gtr => some (.b (decide (b < a)))
  | .geq => some (.b (decide (b ≤ a)))
  | _ => none
def top63 : Nat := 9223372036854775808
def isI64 (k : IntKind) : Bool := IntKind.casesOn (motive := fun _ => Bool) k false false false true false false false false
/-- both numbers are not negative: f; else e -/
def both (a b : Int) (e : Option AC) (f : Nat → Nat → Option AC) : Option AC := Int.casesOn (motive := fun _ => Option AC) a (fun m => Int.casesOn (motive := fun _ => Option AC) b (fun n => f m n) (fun _ => e)) (fun _ => e)
def oi (n : Nat) : Option AC := some (.i .i64 (Int.ofNat n))
def obool (b : Bool) : Option AC := some (.b b)
def bAdd (k : IntKind) (a b : Int) : Option AC := both a b (slow .add k a b) fun m n => Bool.casesOn (motive := fun _ => Option AC) (Bool.casesOn (motive := fun _ => Bool) (isI64 k) false (Nat.blt (Nat.add m n) 9223372036854775808)) (slow .add k a b) (oi (Nat.add m n))
def bSub (k : IntKind) (a b : Int) : Option AC := both a b (slow .sub k a b) fun m n => Bool.casesOn (motive := fun _ => Option AC) (Bool.casesOn (motive := fun _ => Bool) (isI64 k) false (Bool.casesOn (motive := fun _ => Bool) (Nat.ble n m) false (Nat.blt m 9223372036854775808))) (slow .sub k a b) (oi (Nat.sub m n))
def bMul (k : IntKind) (a b : Int) : Option AC := both a b (slow .mul k a b) fun m n => Bool.casesOn (motive := fun _ => Option AC) (Bool.casesOn (motive := fun _ => Bool) (isI64 k) false (Nat.blt (Nat.mul m n) 9223372036854775808)) (slow .mul k a b) (oi (Nat.mul m n))
def bEql (k : IntKind) (a b : Int) : Option AC := both a b (slow .eql k a b) fun m n => obool (Nat.beq m n)
def bNeq (k : IntKind) (a b : Int) : Option AC := both a b (slow .neq k a b) fun m n => obool (Bool.not (Nat.beq m n))
def bLss (k : IntKind) (a b : Int) : Option AC := both a b (slow .lss k a b) fun m n => obool (Nat.blt m n)
def bLeq (k : IntKind) (a b : Int) : Option AC := both a b (slow .leq k a b) fun m n => obool (Nat.ble m n)
def bGtr (k : IntKind) (a b : Int) : Option AC := both a b (slow .gtr k a b) fun m n => obool (Nat.blt n m)
def bGeq (k : IntKind) (a b : Int) : Option AC := both a b (slow .geq k a b) fun m n => obool (Nat.ble n m)
def bNone (_ : IntKind) (_ _ : Int) : Option AC := none
def intBin (op : BinOp) : IntKind → Int → Int → Option AC :=
  BinOp.casesOn (motive := fun _ => IntKind → Int → Int → Option AC) op bAdd bSub bMul bNone bNone bNone bNone bNone bNone bNone bNone bEql bNeq bLss bLeq bGtr bGeq
def eqK (k k' : IntKind) : Bool := decide (k = k')
def mapOf (o : Option AB) : Option (List (AV × AV)) := ob o fun b => AB.casesOn (motive := fun _ => Option (List (AV × AV))) b (fun _ => none) some
def ptrs : List AV → Option (List (Bid × Nat))
  | [] => some []
  | .c (.p id off) :: l => match ptrs l with | some m => some ((id, off) :: m) | none => none
  | _ :: _ => none
def bytesOf : List AC → Option (List Nat)
  | [] => some []
  | .i .u8 (.ofNat n) :: l => match bytesOf l with | some m => some (n :: m) | none => none
  | _ :: _ => none
/-- What is known of numbers and strings that are only named. -/
structure Env where
  cmp : BinOp → AC → AC → Option Bool
  len : Nat → Option AC
  cv : IntKind → IntKind → Nat → Option AC
  gen : Op → List (Option AV) → Option AV
noncomputable section
/-- the operations that make no call: one function each -/
def opMv (x : AX) (fr : Fr) (h : Hp) : RO := ro (ev x fr) fun v => .ok v h
def opPick (c x y : AX) (fr : Fr) (h : Hp) : RO := evC c fr fun v => onB v fun b => Bool.casesOn (motive := fun _ => RO) b (opMv y fr h) (opMv x fr h)
def genAny (P : Program) (E : Env) (o : Op) (fr : Fr) : Option AV := Option.casesOn (motive := fun _ => Option AV) (genRun P o fr) (E.gen o (o.operands.toList.map (opdAV fr))) some
def opGen (P : Program) (E : Env) (o : Op) (fr : Fr) (h : Hp) : RO := ro (genAny P E o fr) fun v => .ok v h
def opCmp (E : Env) (op : BinOp) (u v : AC) (h : Hp) : RO := ro (E.cmp op u v) fun b => .ok (.c (.b b)) h
def opBin (E : Env) (op : BinOp) (x y : AX) (fr : Fr) (h : Hp) : RO :=
  evC x fr fun u => evC y fr fun v => asI u (opCmp E op u v h) fun k a => asI v (opCmp E op u v h) fun k' b => br (eqK k k') (ro (intBin op k a b) fun r => .ok (.c r) h)
def opNot (x : AX) (fr : Fr) (h : Hp) : RO := evC x fr fun v => onB v fun b => .ok (.c (.b (Bool.not b))) h
def conv (k : IntKind) (n : Int) : Int := Int.casesOn (motive := fun _ => Int) n (fun m => Bool.casesOn (motive := fun _ => Int) (Nat.blt m 128) (k.wrap n) (Int.ofNat m)) (fun _ => k.wrap n)
def symCi (E : Env) (k : IntKind) (v : AC) (h : Hp) : RO := match v with
  | .si q y => ro (E.cv k q y) fun c => .ok (.c c) h
  | _ => .no
def opCi (E : Env) (k : IntKind) (x : AX) (fr : Fr) (h : Hp) : RO := evC x fr fun v => asI v (symCi E k v h) fun _ n => .ok (.c (.i k (conv k n))) h
def strOp (E : Env) (neg : Bool) (u v : AC) : Option Bool :=
  match u, v with
  | .s l, .s m => some (xor neg (decide (l = m)))
  | _, _ => E.cmp (bif neg then .neq else .eql) u v
def opEqs (E : Env) (neg : Bool) (x y : AX) (fr : Fr) (h : Hp) : RO := evC x fr fun u => evC y fr fun v => ro (strOp E neg u v) fun b => .ok (.c (.b b)) h
def isStr : AC → Bool
  | .s _ => true
  | .ss _ => true
  | _ => false
def eqCell (E : Env) : CK → AC → AC → Option Bool
  | .i, .i k n, .i k' n' => bif eqK k k' then some (decide (n = n')) else none
  | .b, .b x, .b y => some (decide (x = y))
  | .s, x, y => bo (isStr x && isStr y) (strOp E false x y)
  | _, _, _ => none
def eqKs (E : Env) : List CK → List AC → List AC → Option Bool
  | [], [], [] => some true
  | k :: ks, x :: l, y :: m => match eqCell E k x y, eqKs E ks l m with
    | some a, some b => some (a && b)
    | _, _ => none
  | _, _, _ => none
def opEqa (E : Env) (neg : Bool) (ks : List CK) (x y : AX) (fr : Fr) (h : Hp) : RO := ro (ev x fr) fun u => ro (ev y fr) fun v => ro (asA u) fun l => ro (asA v) fun m => ro (eqKs E ks l m) fun b => .ok (.c (.b (xor neg b))) h
def opAl (z : List AC) (_ : Fr) (h : Hp) : RO := new h (.cells z) fun id => .c (.p id 0)
def opBx (x : AX) (fr : Fr) (h : Hp) : RO := ro (ev x fr) fun v => ro v.cells fun l => new h (.cells l) fun id => .c (.p id 0)
def opBd (z : List AC) (ps : List (Nat × Nat × AX)) (fr : Fr) (h : Hp) : RO := ro (fills fr ps z) fun l => .ok (.a l) h
def opBs (z : List AC) (len : Nat) (ps : List (Nat × Nat × AX)) (fr : Fr) (h : Hp) : RO := ro (fills fr ps z) fun l => new h (.cells l) fun id => .c (.sl id 0 len len)
def opLd (x : AX) (fr : Fr) (h : Hp) : RO := evP x fr fun id off => ro (h.ld id off) fun v => .ok (.c v) h
def opLdn (n : Nat) (x : AX) (fr : Fr) (h : Hp) : RO := evP x fr fun id off => ro (h.lds id off n) fun v => .ok (.a v) h
def opSt (n : Nat) (x v : AX) (fr : Fr) (h : Hp) : RO := evP x fr fun id off => ro (ev v fr) fun v => ro v.cells fun l => br (Nat.beq l.length n) (ro (h.sts id off l) fun h => .ok (.t []) h)
def opNc (x : AX) (fr : Fr) (h : Hp) : RO := evC x fr fun v => match v with
  | .p id off => .ok (.c (.p id off)) h
  | .fn f l m => .ok (.c (.fn f l m)) h
  | _ => .no
def opMf (f : Bid) (first caps : List AX) (fr : Fr) (h : Hp) : RO := ro (evs fr first) fun us => ro (evs fr caps) fun vs => ro (ptrs us) fun l => ro (ptrs vs) fun m => .ok (.c (.fn f l m)) h
def opIxa (n size : Nat) (agg : Bool) (x i : AX) (fr : Fr) (h : Hp) : RO := ro (ev x fr) fun v => ro (asA v) fun l => ro (evN i fr) fun i => br (Nat.blt i n) (Bool.casesOn (motive := fun _ => RO) agg (ro (lget (i * size) l) fun x => .ok (.c x) h) (ro (lsub size (i * size) l) fun l => .ok (.a l) h))
def opMm (_ : Fr) (h : Hp) : RO := new h (.map []) fun id => .c (.mp id)
def opMs (z : List AC) (bytes : Nat) (l c : AX) (fr : Fr) (h : Hp) : RO := ro (evN l fr) fun l => ro (evN c fr) fun c => br (Nat.ble l c && Nat.ble c 1048576 && Nat.ble (c * bytes) 1048576) (new h (.cells (zrep z c)) fun id => .c (.sl id 0 l c))
def sliceE (id : Bid) (off size l e m : Nat) : AC := .sl id (bif Nat.beq m l then off else off + l * size) (e - l) (m - l)
def sliceU (id : Bid) (off len lb es l e : Nat) : AC := bif Nat.beq l 0 then .su id off e lb es else bif Nat.blt l lb then .su id (off + l * es) (e - l) (lb - l) es else .se id es
def opSll (size : Nat) (x : AX) (lo hi mx : Option AX) (fr : Fr) (h : Hp) : RO := evC x fr fun v => match v with
  | .sn => ro (bound fr 0 lo) fun l => ro (bound fr 0 hi) fun e => ro (bound fr 0 mx) fun m => br (Nat.beq l 0 && Nat.beq e 0 && Nat.beq m 0) (.ok (.c .sn) h)
  | .sl id off len cap => ro (bound fr 0 lo) fun l => ro (bound fr len hi) fun e => ro (bound fr cap mx) fun m => br (Nat.ble l e && Nat.ble e m && Nat.ble m cap) (.ok (.c (sliceE id off size l e m)) h)
  | .su id off len lb es => br (Nat.beq es size) (match mx with
    | some m => ro (bound fr 0 lo) fun l => ro (bound fr len hi) fun e => ro (evN m fr) fun m => br (Nat.ble l e && Nat.ble e m && Nat.ble m lb) (.ok (.c (sliceE id off size l e m)) h)
    | none => ro (bound fr 0 lo) fun l => ro (bound fr len hi) fun e => br (Nat.ble l e && Nat.ble e lb) (.ok (.c (sliceU id off len lb es l e)) h))
  | .se id es => br (Nat.beq es size && mx.isNone) (ro (bound fr 0 lo) fun l => ro (bound fr 0 hi) fun e => br (Nat.beq l 0 && Nat.beq e 0) (.ok (.c (.se id es)) h))
  | _ => .no
def opSla (n size : Nat) (x : AX) (lo hi mx : Option AX) (fr : Fr) (h : Hp) : RO := evP x fr fun id off => ro (bound fr 0 lo) fun l => ro (bound fr n hi) fun e => ro (bound fr n mx) fun m => br (Nat.ble l e && Nat.ble e m && Nat.ble m n) (.ok (.c (sliceE id off size l e m)) h)
def opFa (o : Nat) (x : AX) (fr : Fr) (h : Hp) : RO := evP x fr fun id off => .ok (.c (.p id (Nat.add off o))) h
def opFd (o : Nat) (x : AX) (fr : Fr) (h : Hp) : RO := ro (ev x fr) fun v => ro (asA v) fun l => ro (lget o l) fun x => .ok (.c x) h
def opFdn (o n : Nat) (x : AX) (fr : Fr) (h : Hp) : RO := ro (ev x fr) fun v => ro (asA v) fun l => ro (lsub n o l) fun l => .ok (.a l) h
def opIaa (n size : Nat) (x i : AX) (fr : Fr) (h : Hp) : RO := evP x fr fun id off => ro (evN i fr) fun i => br (Nat.blt i n) (.ok (.c (.p id (Nat.add off (Nat.mul i size)))) h)
def opIas (size : Nat) (x i : AX) (fr : Fr) (h : Hp) : RO := evC x fr fun v => ro (evN i fr) fun i => match v with
  | .sl id off len _ => br (Nat.blt i len) (.ok (.c (.p id (Nat.add off (Nat.mul i size)))) h)
  | .su id off len _ _ => br (Nat.blt i len) (.ok (.c (.p id (Nat.add off (Nat.mul i size)))) h)
  | _ => .no
def isNil : AC → Option Bool
  | .sn => some true
  | .sl .. => some false
  | .su .. => some false
  | .se .. => some false
  | _ => none
def opEqn (neg : Bool) (x y : AX) (fr : Fr) (h : Hp) : RO := evC x fr fun u => evC y fr fun v => ro (isNil u) fun a => ro (isNil v) fun b => br (a || b) (.ok (.c (.b (xor neg (a && b)))) h)
def lenOf : AC → Option Nat
  | .sn => some 0
  | .sl _ _ len _ => some len
  | .su _ _ len _ _ => some len
  | .se _ _ => some 0
  | _ => none
def opLen (x : AX) (fr : Fr) (h : Hp) : RO := evC x fr fun v => ro (lenOf v) fun n => .ok (.c (.i .i64 (Int.ofNat n))) h
def lensOf (E : Env) : AC → Option AC
  | .s l => some (.i .i64 (Int.ofNat l.length))
  | .ss y => E.len y
  | _ => none
def opLens (E : Env) (x : AX) (fr : Fr) (h : Hp) : RO := evC x fr fun v => ro (lensOf E v) fun r => .ok (.c r) h
def opCap (x : AX) (fr : Fr) (h : Hp) : RO := evC x fr fun v => match v with
  | .sn => .ok (.c (.i .i64 (Int.ofNat 0))) h
  | .sl _ _ _ cap => .ok (.c (.i .i64 (Int.ofNat cap))) h
  | _ => .no
def keyEq (E : Env) (ag : Bool) (ks : List CK) (x y : AV) : Option Bool := bif ag then (ob (asA x) fun l => ob (asA y) fun m => eqKs E ks l m) else (ob (asC x) fun c => ob (asC y) fun d => eqKs E ks [c] [d])
def keyOk (ag : Bool) (ks : List CK) (k : AV) : Bool := bif ag then (match asA k with | some l => Nat.beq l.length ks.length | none => false) else (asC k).isSome
/-- the first entry with a key: its place and its value -/
def mapGet (E : Env) (ag : Bool) (ks : List CK) (k : AV) : List (AV × AV) → Nat → Option (Option (Nat × AV))
  | [], _ => some none
  | (x, v) :: l, i => match keyEq E ag ks k x with
    | some true => some (some (i, v))
    | some false => mapGet E ag ks k l (i + 1)
    | none => none
def mapPut (k : AV) (v : AV) (l : List (AV × AV)) : Option (Nat × AV) → List (AV × AV)
  | some p => l.modify p.1 fun _ => (k, v)
  | none => l ++ [(k, v)]
def pairB (ok : Bool) (v : AV) (b : Bool) (h : Hp) : RO := Bool.casesOn (motive := fun _ => RO) ok (.ok v h) (ro v.tv fun v => .ok (.t [v, .c (.b b)]) h)
def opLk (E : Env) (z : AV) (ok ag : Bool) (ks : List CK) (x i : AX) (fr : Fr) (h : Hp) : RO := evC x fr fun v => ro (ev i fr) fun k => match v with
  | .mp id => ro (mapOf (h.get id)) fun l => br (keyOk ag ks k) (ro (mapGet E ag ks k l 0) fun r => match r with
    | some p => pairB ok p.2 true h
    | none => pairB ok z false h)
  | _ => .no
def opMu (E : Env) (ag : Bool) (ks : List CK) (m k v : AX) (fr : Fr) (h : Hp) : RO := evC m fr fun m => ro (ev k fr) fun k => ro (ev v fr) fun v => match m with
  | .mp id => ro (mapOf (h.get id)) fun l => br (keyOk ag ks k) (ro (mapGet E ag ks k l 0) fun r => .ok (.t []) (h.putB id (some (.map (mapPut k v l r)))))
  | _ => .no
def opEx (x : AX) (i : Nat) (fr : Fr) (h : Hp) : RO := ro (ev x fr) fun v => ro (asT v) fun l => ro (lget i l) fun v => .ok v.av h
def opBts (x : AX) (fr : Fr) (h : Hp) : RO := evC x fr fun v => ro (h.row 1 v) fun r => ro (bytesOf r.2) fun l => .ok (.c (.s l)) h
def appendTo (size bytes : Nat) (x : AC) (n : Nat) (new' : List AC) (h : Hp) : RO :=
  match x with
  | .sn => bif Nat.beq n 0 then .ok (.c .sn) h else br (Nat.ble n 1048576 && Nat.ble (n * bytes) 1048576) (new h (.cells new') fun id => .c (.su id 0 n n size))
  | .sl id off len cap =>
    bif Nat.ble (len + n) cap then (ro (h.sts id (off + len * size) new') fun h => .ok (.c (.sl id off (len + n) cap)) h)
    else br (Nat.ble (len + n) 1048576 && Nat.ble ((len + n) * bytes) 1048576) (ro (h.lds id off (len * size)) fun old => new h (.cells (old ++ new')) fun id => .c (.su id 0 (len + n) (len + n) size))
  | .su id off len lb es => br (Nat.beq es size) (bif Nat.ble (len + n) lb then (ro (h.sts id (off + len * size) new') fun h => .ok (.c (.su id off (len + n) lb es)) h)
    else br (Nat.ble (len + n) 1048576 && Nat.ble ((len + n) * bytes) 1048576) (ro (h.lds id off (len * size)) fun old => new (h.drop id) (.cells (old ++ new')) fun id => .c (.su id 0 (len + n) (len + n) size)))
  | .se id es => br (Nat.beq es size) (bif Nat.beq n 0 then .ok (.c (.se id es)) h
    else br (Nat.ble n 1048576 && Nat.ble (n * bytes) 1048576) (ro (cellsOf (h.get id)) fun _ => new (h.drop id) (.cells new') fun id => .c (.su id 0 n n size)))
  | _ => .no
def opAp (size bytes : Nat) (x y : AX) (fr : Fr) (h : Hp) : RO := evC x fr fun x => evC y fr fun y => ro (h.row size y) fun r => appendTo size bytes x r.1 r.2 h
def opApz (size bytes : Nat) (z : List AC) (x y : AX) (fr : Fr) (h : Hp) : RO := evC x fr fun x => ro (evN y fr) fun n => br (Nat.ble n 1048576 && Nat.ble (n * bytes) 1048576) (appendTo size bytes x n (zrep z n) h)
def copyTo (id : Bid) (off len n size : Nat) (src : List AC) (h : Hp) : RO := ro (ltake (Nat.min n len * size) src) fun l => ro (h.sts id off l) fun h => .ok (.c (.i .i64 (Int.ofNat (Nat.min n len)))) h
def opCp (size : Nat) (x y : AX) (fr : Fr) (h : Hp) : RO := evC x fr fun x => evC y fr fun y => ro (h.row size y) fun r => match x with
  | .sn => .ok (.c (.i .i64 (Int.ofNat 0))) h
  | .sl id off len _ => copyTo id off len r.1 size r.2 h
  | .su id off len _ _ => copyTo id off len r.1 size r.2 h
  | .se _ _ => .ok (.c (.i .i64 (Int.ofNat 0))) h
  | _ => .no
def opClr (z : List AC) (x : AX) (fr : Fr) (h : Hp) : RO := evC x fr fun x => match x with
  | .sn => .ok (.t []) h
  | .sl id off len _ => ro (h.sts id off (zrep z len)) fun h => .ok (.t []) h
  | .su id off len _ _ => ro (h.sts id off (zrep z len)) fun h => .ok (.t []) h
  | .se _ _ => .ok (.t []) h
  | _ => .no
def opNo (_ : Fr) (_ : Hp) : RO := .no
abbrev CallF := Bid → List AV → Hp → RO
def opCall (call : CallF) (f : Bid) (args : List AX) (fr : Fr) (h : Hp) : RO := ro (evs fr args) fun vs => call f vs h
def addrs (l : List (Bid × Nat)) : List AV := l.map fun c => AV.c (.p c.1 c.2)
def opCv (call : CallF) (x : AX) (args : List AX) (fr : Fr) (h : Hp) : RO := evC x fr fun x => ro (evs fr args) fun vs => match x with
  | .fn f first caps => call f (addrs first ++ vs ++ addrs caps) h
  | _ => .no
/-- an operation -/
def aop (P : Program) (E : Env) (call : CallF) (o : AO) : Fr → Hp → RO :=
  AO.casesOn (motive := fun _ => Fr → Hp → RO) o opMv opPick (opGen P E) (opBin E) opNot (opCi E) (opEqs E) (opEqa E) opAl opBx opBd opBs opLd opLdn opSt opNc opMf opIxa opMm opMs opSll opSla opFa opFd opFdn opIaa opIas opEqn opLen (opLens E) opCap (opLk E) (opMu E) opEx opBts (opCall call) (opCv call) opAp opApz opCp opClr opNo
def setDst (d : Option (D16 × D16)) (v : AV) (fr : Fr) : Fr := Option.casesOn (motive := fun _ => Fr) d fr fun p => putF p.1 p.2 v fr
/-- is the operation wanted? -/
def wantedB (x : AV) (want : Bool) : Option Bool :=
  match x with
  | .c (.b b) => some (b == want)
  | .t [] => some false
  | _ => none
def wantedA (fr : Fr) (g : Option (D16 × D16 × Bool)) : Option Bool := Option.casesOn (motive := fun _ => Option Bool) g (some true) fun p => ob (getF p.1 p.2.1 fr) fun x => wantedB x p.2.2
def rf (r : RO) (f : AV → Hp → RF) : RF := RO.casesOn (motive := fun _ => RF) r .no f
def rof (o : Option Bool) (f : Bool → RF) : RF := Option.casesOn (motive := fun _ => RF) o .no f
def regStep (P : Program) (E : Env) (call : CallF) (o : AOp) (ih : Fr → Hp → RF) (fr : Fr) (h : Hp) : RF :=
  rof (wantedA fr o.guard) fun b => Bool.casesOn (motive := fun _ => RF) b (ih (setDst o.dst (.t []) fr) h) (rf (aop P E call o.op fr h) fun v h => ih (setDst o.dst v fr) h)
def aregion (P : Program) (E : Env) (call : CallF) (l : List AOp) : Fr → Hp → RF :=
  @List.rec AOp (fun _ => Fr → Hp → RF) RF.ok (fun o _ ih => regStep P E call o ih) l
def noCall : CallF := fun _ _ _ => .no
/-- a read gives the same in the newest n of the earlier memories -/
def sameIn (P : Program) (E : Env) (o : AO) (fr : Fr) (v : AV) : Nat → List Hp → Bool
  | 0, _ => true
  | n + 1, h :: l => (match aop P E noCall o fr h with | .ok u _ => AV.beq u v | .no => false) && sameIn P E o fr v n l
  | _ + 1, [] => false
def putAll (id : Bid) (b : AB) (l : List Hp) : List Hp := l.map fun h => h.putB id (some b)
abbrev DrawF := Fr → Hp → List Hp → Bid → RF
def drawPure (d : Option (D16 × D16)) (ih : DrawF) (r : RO) (fr : Fr) (h : Hp) (past : List Hp) (rid : Bid) : RF := rf r fun v _ => ih (setDst d v fr) h past rid
def drawRead (P : Program) (E : Env) (o : AOp) (lo : Nat) (ih : DrawF) (fr : Fr) (h : Hp) (past : List Hp) (rid : Bid) : RF :=
  rf (aop P E noCall o.op fr h) fun v _ => Bool.casesOn (motive := fun _ => RF) (sameIn P E o.op fr v (past.length - lo) past) .no (ih (setDst o.dst v fr) h past rid)
/-- a number that none of these memories has -/
def freshIn (id : Bid) (l : List Hp) : Bool := l.all fun h => (h.get id).isNone
def drawMake (P : Program) (E : Env) (o : AOp) (ih : DrawF) (fr : Fr) (h : Hp) (past : List Hp) (rid : Bid) : RF :=
  rf (aop P E noCall o.op fr ⟨rid, h.bl⟩) fun v h' => Option.casesOn (motive := fun _ => RF) (h'.get rid) .no fun b => Option.casesOn (motive := fun _ => RF) rid.inc .no fun r =>
    Bool.casesOn (motive := fun _ => RF) (freshIn rid (h :: past)) .no (ih (setDst o.dst v fr) (h.putB rid (some b)) (putAll rid b past) r)
def drawEffect (P : Program) (E : Env) (call : CallF) (o : AOp) (ih : DrawF) (fr : Fr) (h : Hp) (past : List Hp) (rid : Bid) : RF :=
  rf (aop P E call o.op fr h) fun v h' => ih (setDst o.dst v fr) h' (h :: past) rid
def pastOf (k : AK) (h : Hp) (past : List Hp) : List Hp := AK.casesOn (motive := fun _ => List Hp) k past (fun _ => past) past (h :: past)
def drawStep (P : Program) (E : Env) (call : CallF) (o : AOp) (k : AK) (ih : DrawF) (fr : Fr) (h : Hp) (past : List Hp) (rid : Bid) : RF :=
  rof (wantedA fr o.guard) fun b => Bool.casesOn (motive := fun _ => RF) b (ih (setDst o.dst (.t []) fr) h (pastOf k h past) rid)
    (AK.casesOn (motive := fun _ => RF) k (drawPure o.dst ih (aop P E noCall o.op fr h) fr h past rid) (fun lo => drawRead P E o lo ih fr h past rid) (drawMake P E o ih fr h past rid) (drawEffect P E call o ih fr h past rid))
/-- a region that draws its order -/
def adraw (P : Program) (E : Env) (call : CallF) (l : List (AOp × AK)) : DrawF :=
  @List.rec (AOp × AK) (fun _ => DrawF) (fun fr h _ _ => .ok fr h) (fun o _ ih => drawStep P E call o.1 o.2 ih) l
/-- numbers for the blocks that the region itself makes are set apart first -/
def reserve (l : List (AOp × AK)) (n : Bid) : Option Bid :=
  @List.rec (AOp × AK) (fun _ => Bid → Option Bid) some (fun o _ ih n => AK.casesOn (motive := fun _ => Option Bid) o.2 (ih n) (fun _ => ih n) (ob n.inc ih) (ih n)) l n
def draws (P : Program) (E : Env) (call : CallF) (l : List (AOp × AK)) (fr : Fr) (h : Hp) : RF :=
  Hp.casesOn (motive := fun _ => RF) h fun n bl => Option.casesOn (motive := fun _ => RF) (reserve l n) .no fun m => adraw P E call l fr ⟨m, bl⟩ [] n
def places : List (D16 × D16) := [(.x0, .x0), (.x0, .x1), (.x0, .x2), (.x0, .x3), (.x0, .x4), (.x0, .x5), (.x0, .x6), (.x0, .x7), (.x0, .x8), (.x0, .x9), (.x0, .xa), (.x0, .xb), (.x0, .xc), (.x0, .xd), (.x0, .xe), (.x0, .xf), (.x1, .x0), (.x1, .x1), (.x1, .x2), (.x1, .x3), (.x1, .x4), (.x1, .x5), (.x1, .x6), (.x1, .x7)]
def frame1 (v : AV) (ih : List (D16 × D16) → Fr → Option Fr) (ps : List (D16 × D16)) (fr : Fr) : Option Fr := List.casesOn (motive := fun _ => Option Fr) ps none fun p ps => ih ps (putF p.1 p.2 v fr)
def frameOf (l : List AV) : List (D16 × D16) → Fr → Option Fr :=
  @List.rec AV (fun _ => List (D16 × D16) → Fr → Option Fr) (fun _ fr => some fr) (fun v _ ih => frame1 v ih) l
def ares1 (fr : Fr) (h : Hp) : AR → Option AV
  | .tmp i j => getF i j fr
  | .cell i j => ob (getF i j fr) fun v => match v with
    | .c (.p id off) => ob (h.ld id off) fun x => some (.c x)
    | _ => none
  | .cells i j n => ob (getF i j fr) fun v => match v with
    | .c (.p id off) => ob (h.lds id off n) fun x => some (.a x)
    | _ => none
def ares (fr : Fr) (h : Hp) (l : List AR) : Option (List AV) :=
  @List.rec AR (fun _ => Option (List AV)) (some []) (fun r _ ih => ob (ares1 fr h r) fun v => ob ih fun vs => some (v :: vs)) l
def tvs (l : List AV) : Option (List TV) := @List.rec AV (fun _ => Option (List TV)) (some []) (fun v _ ih => ob v.tv fun v => ob ih fun l => some (v :: l)) l
def oneT (l : List AV) : Option AV := ob (tvs l) fun l => some (.t l)
def one (l : List AV) : Option AV := List.casesOn (motive := fun _ => Option AV) l (oneT l) fun v t => List.casesOn (motive := fun _ => Option AV) t (some v) fun _ _ => oneT l
def retOf (res : List AR) (fr : Fr) (h : Hp) : RO := ro (ares fr h res) fun vs => ro (one vs) fun v => .ok v h
def callBy (T : Tab) (ih : ACd → Fr → Hp → RC) : CallF := fun f args h => ro (get3 T f) fun fn =>
  AFn.casesOn (motive := fun _ => RO) fn (fun body res => ro (frameOf args places Fr.nil) fun fr => RC.casesOn (motive := fun _ => RO) (ih body fr h) .no (retOf res) (fun _ _ _ => .no) (retOf res)) (fun g => ro (g args) fun v => .ok v h)
def cSkip (fr : Fr) (h : Hp) : RC := .nrm fr h
def rc (r : RF) : RC := RF.casesOn (motive := fun _ => RC) r .no RC.nrm
def cReg (P : Program) (E : Env) (T : Tab) (ih : ACd → Fr → Hp → RC) (l : List AOp) (fr : Fr) (h : Hp) : RC := rc (aregion P E (callBy T ih) l fr h)
def cDreg (P : Program) (E : Env) (T : Tab) (ih : ACd → Fr → Hp → RC) (l : List (AOp × AK)) (fr : Fr) (h : Hp) : RC := rc (draws P E (callBy T ih) l fr h)
def cSeq (ih : ACd → Fr → Hp → RC) (a b : ACd) (fr : Fr) (h : Hp) : RC := RC.casesOn (motive := fun _ => RC) (ih a fr h) .no (ih b) RC.ex RC.ret
def cCond (ih : ACd → Fr → Hp → RC) (c : AX) (x y : ACd) (fr : Fr) (h : Hp) : RC :=
  Option.casesOn (motive := fun _ => RC) (ob (ev c fr) asC) .no fun v => match v with
    | .b b => Bool.casesOn (motive := fun _ => RC) b (ih y fr h) (ih x fr h)
    | _ => .no
def exitB (id i : Nat) (fr : Fr) (h : Hp) : RC := bif Nat.beq i id then .nrm fr h else .ex i fr h
def cBlock (ih : ACd → Fr → Hp → RC) (id : Nat) (b : ACd) (fr : Fr) (h : Hp) : RC := RC.casesOn (motive := fun _ => RC) (ih b fr h) .no RC.nrm (exitB id) RC.ret
def cLoop (ih : ACd → Fr → Hp → RC) (b : ACd) (fr : Fr) (h : Hp) : RC := RC.casesOn (motive := fun _ => RC) (ih b fr h) .no (ih (.loop b)) RC.ex RC.ret
def cBad (_ : Fr) (_ : Hp) : RC := .no
def aevS (P : Program) (E : Env) (T : Tab) (ih : ACd → Fr → Hp → RC) (c : ACd) : Fr → Hp → RC :=
  ACd.casesOn (motive := fun _ => Fr → Hp → RC) c cSkip (cReg P E T ih) (cDreg P E T ih) (cSeq ih) (cCond ih) (cBlock ih) (cLoop ih) RC.ex RC.ret cBad
/-- code, with fuel -/
def aev (P : Program) (E : Env) (T : Tab) (n : Nat) : ACd → Fr → Hp → RC :=
  @Nat.rec (fun _ => ACd → Fr → Hp → RC) (fun _ => cBad) (fun _ ih => aevS P E T ih) n
end
end Go.Proofs.YtmbbciidknchiaaGreat
