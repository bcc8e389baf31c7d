/-
  Deep values: the model's code read as a function of plain data. Definitions: values, memory of the call's own, and the condition 'dwp' under which code ends as asked. No function of the program is named here.
-/
import Derived.Calls
import Derived.LoopN
import Derived.Scope
import Derived.Orders
set_option linter.unusedVariables false
set_option linter.unusedSimpArgs false
namespace Go.Proofs.YtgjindhjgmplgaaGreat
inductive Kd where
  | b
  | i (k : IntKind)
  | s
  | sl (e : List Kd)
  deriving Inhabited
abbrev Sh := List Kd
inductive DV where
  | b (x : Bool)
  | i (n : Int)
  | s (y : ByteArray)
  | sl (l : List (List DV))
  deriving Inhabited
abbrev Row := List DV
def DV.gb : DV → Bool | .b x => x | _ => false
def DV.gi : DV → Int | .i n => n | _ => 0
def DV.gs : DV → ByteArray | .s y => y | _ => ⟨#[]⟩
def DV.gl : DV → List Row | .sl l => l | _ => []
def rat (r : Row) (j : Nat) : DV := r.getD j (.b false)
def rb (r : Row) (j : Nat) : Bool := (rat r j).gb
def ri (r : Row) (j : Nat) : Int := (rat r j).gi
def rs (r : Row) (j : Nat) : ByteArray := (rat r j).gs
def rl (r : Row) (j : Nat) : List Row := (rat r j).gl
def rw' (l : List Row) (i : Nat) : Row := l.getD i []
def wr (k : IntKind) (n : Int) : Int := k.wrap n
def xadd (a b : Int) : Int := a + b
def xsub (a b : Int) : Int := a - b
def xmul (a b : Int) : Int := a * b
def xquo (a b : Int) : Int := a.tdiv b
def xrem (a b : Int) : Int := a.tmod b
def xmin (a b : Int) : Int := min a b
def xmax (a b : Int) : Int := max a b
def ieq (a b : Int) : Bool := decide (a = b)
def ilt (a b : Int) : Bool := decide (a < b)
def ile (a b : Int) : Bool := decide (a ≤ b)
def seqB (a b : ByteArray) : Bool := decide (a = b)
def beqB (a b : Bool) : Bool := decide (a = b)
def nt (a : Bool) : Bool := !a
def an (a b : Bool) : Bool := a && b
def ln (l : List Row) : Int := l.length
def ssz (y : ByteArray) : Int := y.size
def scat (a b : ByteArray) : ByteArray := a ++ b
def catOk (a b : ByteArray) : Bool := decide (a.size + b.size ≤ 9223372036854775807)
def inR (j n : Int) : Bool := decide (0 ≤ j) && decide (j < n)
def nlt (i : Nat) (l : List Row) : Bool := decide (i < l.length)
def tn (j : Int) : Nat := j.toNat
def lap (a b : List Row) : List Row := a ++ b
def lst (l : List Row) (i : Nat) (r : Row) : List Row := l.set i r
def lsub (l : List Row) (a b : Int) : List Row := (l.take b.toNat).drop a.toNat
def lrep (n : Int) (r : Row) : List Row := List.replicate n.toNat r
def mkOk (l c : Int) : Bool := decide (0 ≤ l) && (decide (l ≤ c) && decide (c ≤ 65536))
def jof (l : List Row) (c : Int) : List (Option Row) := l.map some ++ List.replicate (c.toNat - l.length) none
def jcap (l : List (Option Row)) : Int := l.length
def jok (l : List (Option Row)) (a b : Int) : Bool := decide (0 ≤ a) && (decide (a ≤ b) && (decide (b ≤ l.length) && ((l.take b.toNat).drop a.toNat).all Option.isSome))
def jsub (l : List (Option Row)) (a b : Int) : List Row := ((l.take b.toNat).drop a.toNat).filterMap id
def jput (l : List (Option Row)) (a : Int) (r : List Row) : List (Option Row) := l.take a.toNat ++ (r.map some ++ l.drop (a.toNat + r.length))
def ltk (l : List Row) (n : Int) : List Row := l.take n.toNat
def ldel (l : List Row) (i j : Int) : List Row := l.take i.toNat ++ l.drop j.toNat
def lins (l : List Row) (i : Int) (g : Row) : List Row := l.take i.toNat ++ g :: l.drop i.toNat
def xsh (o : BinOp) (k : IntKind) (a b : Int) : Int := match o with
  | .shl => k.wrap (a * 2 ^ (min b.toNat k.bits))
  | _ => a.fdiv (2 ^ (min b.toNat k.bits))
def xbit (o : BinOp) (k : IntKind) (a b : Int) : Int := match o with
  | .and => k.wrap (BitVec.ofInt k.bits a &&& BitVec.ofInt k.bits b).toNat
  | .or => k.wrap (BitVec.ofInt k.bits a ||| BitVec.ofInt k.bits b).toNat
  | .xor => k.wrap (BitVec.ofInt k.bits a ^^^ BitVec.ofInt k.bits b).toNat
  | _ => k.wrap (BitVec.ofInt k.bits a &&& ~~~(BitVec.ofInt k.bits b)).toNat
def byt (y : ByteArray) (j : Int) : Int := ((y.data[j.toNat]?).getD 0).toNat
def ssub (y : ByteArray) (a b : Int) : ByteArray := y.extract a.toNat b.toNat
def bstr (l : List Row) : ByteArray := (l.map fun r => ri r 0).foldl (fun r n => r.push (UInt8.ofNat n.toNat)) ByteArray.empty
def apOk (b : Nat) (l l2 : List Row) : Bool := decide (l.length + l2.length ≤ 1048576) && decide ((l.length + l2.length) * b ≤ 1048576)
def rap (a b : Row) : Row := a ++ b
def rtk (a : Row) (n : Nat) : Row := a.take n
def rdp (a : Row) (n : Nat) : Row := a.drop n
mutual
def Kd.beq : Kd → Kd → Bool
  | .b, .b => true
  | .i k, .i k' => decide (k = k')
  | .s, .s => true
  | .sl e, .sl e' => shEq e e'
  | _, _ => false
def shEq : List Kd → List Kd → Bool
  | [], [] => true
  | x :: l, y :: m => Kd.beq x y && shEq l m
  | _, _ => false
end
inductive DC where
  | b (x : Bool)
  | i (k : IntKind) (n : Int)
  | s (y : ByteArray)
  | sn
  | sl (e : Sh) (l : List Row)
  | cl (e : Sh) (l : List Row)
  | pv (x off : Nat)
  | pf (e : Sh) (r : Row) (off : Nat)
  | pw (x : Nat) (e : Sh) (i off : Nat)
  | ow (x : Nat)
  | fn (f : Nat) (caps : List Nat)
  | pn
  | fz
  | bp (x : Nat) (e : Sh) (lo hi : Int)
  | mp (x : Nat)
  | oe (x n : Nat)
  | fb (f x : Nat)
  | un
  deriving Inhabited
inductive V where
  | c (x : DC)
  | r (sh : Sh) (row : Row)
  | a (l : List DC)
  | t (l : List V)
  deriving Inhabited
inductive Blk where
  | R (sh : Sh) (row : Row)
  | E (l : List DC)
  | W (e : Sh) (rows : List Row)
  | Z (e : Sh) (rows : List Row)
  | J (e : Sh) (n : Int) (l : List (Option Row))
  | P (ka va : Bool) (ks vs : Sh) (l : List (Row × Row))
  deriving Inhabited
def Blk.live : Blk → Bool
  | .Z _ _ => false
  | _ => true
abbrev Frs := List (Nat × V)
abbrev Mem := List (Nat × Blk)
noncomputable def look {α : Type} (n : Nat) (l : List (Nat × α)) : Option α := @List.rec (Nat × α) (fun _ => Option α) none (fun p _ ih => cond (Nat.beq p.1 n) (some p.2) ih) l
noncomputable def drp {α : Type} (n : Nat) (l : List (Nat × α)) : List (Nat × α) := @List.rec (Nat × α) (fun _ => List (Nat × α)) [] (fun p _ ih => cond (Nat.beq p.1 n) ih (p :: ih)) l
noncomputable def putM (x : Nat) (b : Blk) (m : Mem) : Mem := (x, b) :: drp x m
structure St where
  fr : Frs
  m : Mem
  nx : Nat
inductive Ex where
  | nrm
  | ex (id : Nat)
  | ret
abbrev KVk := V → Mem → Nat → Prop
def fk (c : Bool) (a b : Prop) : Prop := cond c a b
def dcOf : Value → Option DC
  | .bool x => some (.b x)
  | .int k n => some (.i k n)
  | .string y => some (.s y)
  | .slice none 0 0 => some .sn
  | .pointer none => some .pn
  | .nilFunc => some .fz
  | .map none => some .un
  | _ => none
def dcsOf : List Value → Option (List DC)
  | [] => some []
  | x :: l => match dcOf x, dcsOf l with
    | some c, some cs => some (c :: cs)
    | _, _ => none
def vOf : Value → Option V
  | .agg cs => (dcsOf cs.toList).map .a
  | .tuple vs => bif Nat.beq vs.size 0 then some (.t []) else none
  | v => (dcOf v).map .c
noncomputable def ev (fr : Frs) : Operand → Option V
  | .tmp t => look t fr
  | .const v => vOf v
  | .global _ => none
  | .func f => some (.c (.fn f []))
noncomputable def evs (fr : Frs) : List Operand → Option (List V)
  | [] => some []
  | x :: l => match ev fr x, evs fr l with
    | some v, some vs => some (v :: vs)
    | _, _ => none
def oP {α : Type} (o : Option α) (k : α → Prop) : Prop := match o with | some x => k x | none => False
noncomputable def onC (fr : Frs) (x : Operand) (k : DC → Prop) : Prop := match ev fr x with | some (.c c) => k c | _ => False
noncomputable def onB (fr : Frs) (x : Operand) (k : Bool → Prop) : Prop := match ev fr x with | some (.c (.b b)) => k b | _ => False
noncomputable def onI (fr : Frs) (x : Operand) (k : IntKind → Int → Prop) : Prop := match ev fr x with | some (.c (.i q n)) => k q n | _ => False
def shRep (s : Sh) : Nat → Sh
  | 0 => []
  | n + 1 => s ++ shRep s n
def shT (P : Program) : Nat → TypeId → Option Sh
  | 0, _ => none
  | d + 1, t => match P.underlying t with
    | some .bool => some [.b]
    | some (.int k) => some [.i k]
    | some .string => some [.s]
    | some (.slice e) => (shT P d e).map fun s => [.sl s]
    | some (.struct fs) => fs.toList.foldr (fun f o => match shT P d f.type, o with | some s, some r => some (s ++ r) | _, _ => none) (some [])
    | some (.array n e) => (shT P d e).map fun s => shRep s n
    | _ => none
def aggT (P : Program) (t : TypeId) : Option (Bool × Nat) :=
  match P.underlying t, P.info? t with
  | some (.struct _), some i => some (true, i.size)
  | some (.array _ _), some i => some (true, i.size)
  | some _, some i => some (false, i.size)
  | _, _ => none
def zKd : Kd → DV
  | .b => .b false
  | .i _ => .i 0
  | .s => .s ⟨#[]⟩
  | .sl _ => .sl []
def zRow (s : Sh) : Row := s.map zKd
def zOkK : Kd → Value → Bool
  | .b, .bool false => true
  | .i k, .int k' n => decide (k = k') && decide (n = 0)
  | .s, .string y => decide (y.size = 0)
  | .sl _, .slice none 0 0 => true
  | _, _ => false
def zOk : Sh → List Value → Bool
  | [], [] => true
  | k :: s, v :: vs => zOkK k v && zOk s vs
  | _, _ => false
def cellK (k : Kd) (r : Row) (j : Nat) : DC := match k with
  | .b => .b (rb r j)
  | .i q => .i q (ri r j)
  | .s => .s (rs r j)
  | .sl e => .sl e (rl r j)
def cellsK : Sh → Row → Nat → List DC
  | [], _, _ => []
  | k :: s, r, j => cellK k r j :: cellsK s r (j + 1)
def dvK (k : Kd) (r : Row) (j : Nat) : DV := match k with
  | .b => .b (rb r j)
  | .i _ => .i (ri r j)
  | .s => .s (rs r j)
  | .sl _ => .sl (rl r j)
def rowK : Sh → Row → Nat → Row
  | [], _, _ => []
  | k :: s, r, j => dvK k r j :: rowK s r (j + 1)
def expl (s : Sh) (r : Row) : Row := bif Nat.ble s.length 16 then rowK s r 0 else r
def subRow (s : Sh) (r : Row) (off n : Nat) : Row := bif Nat.beq off 0 && Nat.beq n s.length then r else bif Nat.ble n 16 then rowK ((s.drop off).take n) r off else rtk (rdp r off) n
def valAt (agg : Bool) (s : Sh) (e : Sh) (r : Row) (off : Nat) : Option V :=
  bif agg then some (.r s (subRow e r off s.length)) else match s with | [k] => some (.c (cellK k r off)) | _ => none
def fits (e : Sh) (off : Nat) (s : Sh) : Bool := shEq ((e.drop off).take s.length) s
def dvOf : Kd → DC → Option DV
  | .b, .b x => some (.b x)
  | .i k, .i k' n => bif decide (k = k') then some (.i n) else none
  | .s, .s y => some (.s y)
  | .sl _, .sn => some (.sl [])
  | .sl e, .sl e' l => bif shEq e e' then some (.sl l) else none
  | .sl e, .cl e' l => bif shEq e e' then some (.sl l) else none
  | _, _ => none
def dvsOf : Sh → List DC → Option Row
  | [], [] => some []
  | k :: s, c :: l => match dvOf k c, dvsOf s l with
    | some d, some r => some (d :: r)
    | _, _ => none
  | _, _ => none
def rowFor (s : Sh) : V → Option Row
  | .c x => match s with
    | [k] => (dvOf k x).map fun d => [d]
    | _ => none
  | .r s' r => bif shEq s s' then some r else none
  | .a l => dvsOf s l
  | .t _ => none
def cellsV : V → Option (List DC)
  | .c x => some [x]
  | .r s r => some (cellsK s r 0)
  | .a l => some l
  | .t _ => none
def setsR (r : Row) (off : Nat) : Row → Row
  | [] => r
  | d :: l => setsR (r.set off d) (off + 1) l
def putRow (s : Sh) (r : Row) (off : Nat) (n : Nat) (vals : Row) : Row := bif Nat.beq off 0 && Nat.beq n s.length then vals else bif Nat.ble n 16 then setsR (expl s r) off (expl ((s.drop off).take n) vals) else rap (rtk r off) (rap vals (rdp r (off + n)))
def setsE (l : List DC) (off : Nat) : List DC → List DC
  | [] => l
  | c :: cs => setsE (l.set off c) (off + 1) cs
def blkOf (o : Option Sh) (v : V) : Option Blk := match o with
  | some s => match rowFor s v with
    | some r => some (.R s r)
    | none => (cellsV v).map .E
  | none => (cellsV v).map .E
def binI (op : BinOp) (k : IntKind) (a b : Int) (f : DC → Prop) : Prop := match op with
  | .add => f (.i k (wr k (xadd a b)))
  | .sub => f (.i k (wr k (xsub a b)))
  | .mul => f (.i k (wr k (xmul a b)))
  | .quo => fk (ieq b 0) False (f (.i k (wr k (xquo a b))))
  | .rem => fk (ieq b 0) False (f (.i k (xrem a b)))
  | .eql => f (.b (ieq a b))
  | .neq => f (.b (nt (ieq a b)))
  | .lss => f (.b (ilt a b))
  | .leq => f (.b (ile a b))
  | .gtr => f (.b (ilt b a))
  | .geq => f (.b (ile b a))
  | .and => f (.i k (xbit .and k a b))
  | .or => f (.i k (xbit .or k a b))
  | .xor => f (.i k (xbit .xor k a b))
  | .andNot => f (.i k (xbit .andNot k a b))
  | _ => False
def shI (op : BinOp) (k : IntKind) (a b : Int) (f : DC → Prop) : Prop := match op with
  | .shl => fk (ilt b 0) False (f (.i k (xsh .shl k a b)))
  | .shr => fk (ilt b 0) False (f (.i k (xsh .shr k a b)))
  | _ => False
def isSh : BinOp → Bool
  | .shl => true
  | .shr => true
  | _ => false
def eqDV : Kd → DV → DV → Option Bool
  | .b, x, y => some (beqB x.gb y.gb)
  | .i _, x, y => some (ieq x.gi y.gi)
  | .s, x, y => some (seqB x.gs y.gs)
  | .sl _, _, _ => none
def eqRow : Sh → Row → Row → Nat → Option Bool
  | [], _, _, _ => some true
  | k :: s, r, q, j => match eqDV k (rat r j) (rat q j), eqRow s r q (j + 1) with
    | some x, some y => some (an x y)
    | _, _ => none
def szT (P : Program) (t : TypeId) : Option Nat := match P.info? t with | some i => some i.size | none => none
def eqFs (P : Program) (g : TypeId → Option Sh) : List Field → Nat → Option Sh
  | [], _ => some []
  | f :: fs, n => if f.name = "_" ∨ f.offset ≠ n then none else
    match g f.type, szT P f.type with
    | some k, some s => if k.length = s then (match eqFs P g fs (n + s) with | some l => some (k ++ l) | none => none) else none
    | _, _ => none
def eqSh (P : Program) : Nat → TypeId → Option Sh
  | 0, _ => none
  | d + 1, t => match P.underlying t with
    | some .bool => some [.b]
    | some (.int k) => some [.i k]
    | some .string => some [.s]
    | some (.struct fs) => if P.stoodInHeld t = true then none else eqFs P (eqSh P d) fs.toList 0
    | some (.array n e) => match eqSh P d e, szT P e with
      | some ks, some s => if ks.length = s then some (shRep ks n) else none
      | _, _ => none
    | _ => none
def eqT (P : Program) (t : TypeId) : Option Sh := if P.eqGuardType P.depth t = true then none else match eqSh P 8 t, aggT P t with
  | some s, some (true, n) => if n = s.length then some s else none
  | _, _ => none
def binV (P : Program) (t : TypeId) (op : BinOp) (x y : V) (f : DC → Prop) : Prop := match x, y with
  | .c (.i k a), .c (.i k' b) => bif isSh op then shI op k a b f else fk (decide (k = k')) (binI op k a b f) False
  | .c (.b a), .c (.b b) => match P.underlying t, op with
    | some .bool, .eql => f (.b (beqB a b))
    | some .bool, .neq => f (.b (nt (beqB a b)))
    | _, _ => False
  | .c (.s a), .c (.s b) => match op with
    | .eql => f (.b (seqB a b))
    | .neq => f (.b (nt (seqB a b)))
    | .add => fk (catOk a b) (f (.s (scat a b))) False
    | _ => False
  | .r s r, .r s' q => fk (match eqT P t with | some s0 => shEq s s0 && shEq s' s0 | none => false) (match eqRow s r q 0 with
    | some b => match op with
      | .eql => f (.b b)
      | .neq => f (.b (nt b))
      | _ => False
    | none => False) False
  | _, _ => False
def isNilC : Operand → Bool
  | .const (.slice none 0 0) => true
  | _ => false
def nilB (op : BinOp) (p : Bool → Prop) (f : DC → Prop) : Prop := match op with
  | .eql => ∀ b, p b → f (.b b)
  | .neq => ∀ b, p b → f (.b (nt b))
  | _ => False
def nilV (P : Program) (t : TypeId) (op : BinOp) (x : DC) (f : DC → Prop) : Prop := match P.underlying t with
  | some (.slice _) => match x with
    | .sn => nilB op (fun b => b = true) f
    | .sl _ l => nilB op (fun b => b = true → l = []) f
    | .cl _ l => nilB op (fun b => b = true → l = []) f
    | .ow _ => nilB op (fun _ => True) f
    | _ => False
  | _ => False
mutual
def dvB : DV → DV → Bool
  | .b x, .b y => x == y
  | .i x, .i y => decide (x = y)
  | .s x, .s y => decide (x = y)
  | .sl x, .sl y => rwsB x y
  | _, _ => false
 termination_by structural x => x
def rowB : List DV → List DV → Bool
  | [], [] => true
  | a :: l, b :: m => dvB a b && rowB l m
  | _, _ => false
 termination_by structural x => x
def rwsB : List (List DV) → List (List DV) → Bool
  | [], [] => true
  | a :: l, b :: m => rowB a b && rwsB l m
  | _, _ => false
 termination_by structural x => x
end
noncomputable def keq (a b : Row) : Bool := rowB a b
noncomputable def mhas (l : List (Row × Row)) (k : Row) : Bool := l.any fun p => keq p.1 k
noncomputable def mget (l : List (Row × Row)) (k z : Row) : Row := match l.find? fun p => keq p.1 k with
  | some p => p.2
  | none => z
noncomputable def mputG : List (Row × Row) → Row → Row → List (Row × Row)
  | [], k, v => [(k, v)]
  | p :: l, k, v => bif keq p.1 k then (p.1, v) :: l else p :: mputG l k v
noncomputable def mput (l : List (Row × Row)) (k v : Row) : List (Row × Row) := mputG l k v
def fieldV (agg : Bool) (off n : Nat) : V → Option V
  | .r s r => valAt agg ((s.drop off).take n) s r off
  | .a l => bif agg then some (.a ((l.drop off).take n)) else (l[off]?).map .c
  | _ => none
def idsC : DC → List Nat
  | .pv x _ => [x]
  | .pw x _ _ _ => [x]
  | .ow x => [x]
  | .fn _ caps => caps
  | .bp x _ _ _ => [x]
  | .mp x => [x]
  | .oe x _ => [x]
  | .fb _ x => [x]
  | _ => []
def idsP : V → List Nat
  | .c x => idsC x
  | .a l => l.flatMap idsC
  | _ => []
def idsV : V → List Nat
  | .t l => l.flatMap idsP
  | v => idsP v
def idsB : Blk → List Nat
  | .E l => l.flatMap idsC
  | _ => []
noncomputable def reach (m : Mem) : Nat → List Nat → Mem
  | 0, _ => []
  | n + 1, ids => match ids with
    | [] => []
    | x :: l => match look x m with
      | some b => (x, b) :: reach (drp x m) n (l ++ idsB b)
      | none => reach m n l
noncomputable def without (m : Mem) (t : Mem) : Mem := t.foldl (fun m p => drp p.1 m) m
noncomputable def bnd (fr : Frs) (d : Int) (o : Option Operand) (k : Int → Prop) : Prop := match o with
  | none => k d
  | some x => onI fr x fun _ n => k n
def tupV : V → Option (List V) | .t l => some l | _ => none
abbrev CallF := Nat → List V → Mem → Nat → KVk → Prop
section
variable (P : Program) (call : CallF)
def entB (f : Nat) : Bool := match P.funcs[f]? with
  | some fn => fn.body.isSome && !(fn.name == "runtime.NumGoroutine")
  | none => false
def idsM : Mem → List Nat
  | [] => []
  | p :: l => p.1 :: idsB p.2 ++ idsM l
def below (nx : Nat) (l : List Nat) : Bool := l.all fun x => Nat.blt x nx
noncomputable def doCall (f : Nat) (vs : List V) (m : Mem) (nx : Nat) (k : KVk) : Prop := cond (entB P f && below nx (vs.flatMap idsV ++ idsM (reach m 40 (vs.flatMap idsV)))) (doCall' f vs m nx k) False where
 doCall' (f : Nat) (vs : List V) (m : Mem) (nx : Nat) (k : KVk) : Prop :=
  call f vs (reach m 40 (vs.flatMap idsV)) nx fun v m' nx' => k v (m' ++ without m (reach m 40 (vs.flatMap idsV))) nx'
noncomputable def loadAt (agg : Bool) (n : Nat) (o : Option Sh) (m : Mem) (p : DC) (k : V → Prop) : Prop := match p with
  | .pv x off => match look x m with
    | some (.R e r) => match o with
      | some s => fk (fits e off s && Nat.beq s.length n) (oP (valAt agg s e r off) k) False
      | none => False
    | some (.E l) => fk (Nat.ble (off + n) l.length) (bif agg then k (.a ((l.drop off).take n)) else match l[off]? with | some c => k (.c c) | none => False) False
    | _ => False
  | .pf e r off => match o with
    | some s => fk (fits e off s && Nat.beq s.length n) (oP (valAt agg s e r off) k) False
    | none => False
  | .pw x e i off => match look x m, o with
    | some (.W e' rows), some s => fk (shEq e e' && (fits e off s && Nat.beq s.length n)) (fk (nlt i rows) (oP (valAt agg s e (rw' rows i) off) k) False) False
    | _, _ => False
  | _ => False
noncomputable def storeAt (n : Nat) (o : Option Sh) (m : Mem) (p : DC) (v : V) (k : Mem → Prop) : Prop := match p with
  | .pv x off => match look x m with
    | some (.R e r) => match o.bind fun s => rowFor s v with
      | some q => match o with
        | some s => fk (fits e off s && (Nat.beq s.length n && Nat.ble 1 n)) (k (putM x (.R e (putRow e r off n q)) m)) False
        | none => False
      | none => match cellsV v with
        | some cs => fk (Nat.ble (off + n) e.length && Nat.beq cs.length n) (k (putM x (.E (setsE (cellsK e r 0) off cs)) m)) False
        | none => False
    | some (.E l) => match cellsV v with
      | some cs => fk (Nat.ble (off + n) l.length && Nat.beq cs.length n) (k (putM x (.E (setsE l off cs)) m)) False
      | none => False
    | _ => False
  | .pw x e i off => match look x m, o with
    | some (.W e' rows), some s => match rowFor s v with
      | some q => fk (shEq e e' && (fits e off s && (Nat.beq s.length n && Nat.ble 1 n))) (fk (nlt i rows) (k (putM x (.W e' (lst rows i (putRow e (rw' rows i) off n q))) m)) False) False
      | none => False
    | _, _ => False
  | _ => False
noncomputable def rowsOf (m : Mem) : DC → Option (Sh × List Row)
  | .sl e l => some (e, l)
  | .cl e l => some (e, l)
  | .ow x => match look x m with | some (.W e l) => some (e, l) | _ => none
  | _ => none
noncomputable def partOf (m : Mem) : DC → Option (Nat × Sh × Int × Int × Int × List (Option Row))
  | .bp x e lo hi => match look x m with
    | some (.J e' n l) => bif shEq e e' then some (x, e, lo, hi, n, l) else none
    | _ => none
  | .ow x => match look x m with
    | some (.J e n l) => some (x, e, 0, n, n, l)
    | _ => none
  | _ => none
noncomputable def srcOf (m : Mem) (c : DC) (k : Sh → List Row → Prop) : Prop := match rowsOf m c with
  | some (s, l) => k s l
  | none => match partOf m c with
    | some (_, s, a, b, _, l) => fk (jok l a b) (k s (jsub l a b)) False
    | none => False
def bscT (P : Program) (t : TypeId) : Bool := match P.underlying t with
  | some .bool => true
  | some (.int _) => true
  | some .string => true
  | _ => false
def fldB (P : Program) : List Field → Nat → Bool
  | [], _ => true
  | f :: fs, n => Nat.beq f.offset n && (bscT P f.type && ((match aggT P f.type with | some (false, 1) => true | _ => false) && fldB P fs (n + 1)))
def bK : Kd → Bool
  | .sl _ => false
  | _ => true
def keyT (P : Program) (t : TypeId) : Option (Bool × Sh) := match P.underlying t with
  | some .bool => some (false, [.b])
  | some (.int k) => some (false, [.i k])
  | some .string => some (false, [.s])
  | some (.struct fs) => match eqT P t with
    | some s => bif fldB P fs.toList 0 && (Nat.ble fs.toList.length s.length && s.all bK) then some (true, s) else none
    | none => none
  | _ => none
def mapT (P : Program) (t : TypeId) : Option (Bool × Sh × Bool × Sh) := match P.underlying t with
  | some (.map kt et) => match keyT P kt, aggT P et, shT P 12 et with
    | some (a, s), some (b, n), some e => bif Nat.beq n e.length then some (a, s, b, e) else none
    | _, _, _ => none
  | _ => none
def elemT (P : Program) (t : TypeId) : TypeId := match P.underlying t with
  | some (.map _ et) => et
  | _ => t
def zAgg (P : Program) (t : TypeId) (b : Bool) : Bool := match P.info? t with
  | some i => match i.zero with
    | some (.agg _) => b
    | some z => !b && z.oneCell'
    | none => false
  | none => false
def isAggV : V → Bool
  | .c _ => false
  | _ => true
def bEq (a b : Bool) : Bool := match a, b with
  | true, true => true
  | false, false => true
  | _, _ => false
noncomputable def mapAt (m : Mem) (t : Option (Bool × Sh × Bool × Sh)) (c : DC) : Option (Nat × List (Row × Row)) := match t, c with
  | some (a, s, b, e), .mp y => match look y m with
    | some (.P a' b' s' e' l) => bif bEq a a' && (bEq b b' && (shEq s s' && shEq e e')) then some (y, l) else none
    | _ => none
  | _, _ => none
def offOf (t : TypeId) (f : Nat) : Option (Nat × Bool × Nat) := match P.underlying t with
  | some (.struct fs) => match fs[f]? with
    | some fd => match aggT P fd.type with | some (b, n) => some (fd.offset, b, n) | none => none
    | none => none
  | _ => none
noncomputable def partsV (fr : Frs) (place : Nat → Option (Nat × Nat)) (r : Row) (s : Sh) : List (Nat × Operand) → Option Row
  | [] => some r
  | (i, x) :: l => match place i, ev fr x with
    | some (o, n), some v => match rowFor ((s.drop o).take n) v with
      | some q => bif Nat.ble (o + n) s.length then partsV fr place (putRow s r o n q) s l else none
      | none => none
    | _, _ => none
noncomputable def partsE (fr : Frs) (place : Nat → Option (Nat × Nat)) (c : List DC) : List (Nat × Operand) → Option (List DC)
  | [] => some c
  | (i, x) :: l => match place i, ev fr x with
    | some (o, n), some v => match cellsV v with
      | some q => bif Nat.ble (o + n) c.length && Nat.beq q.length n then partsE fr place (setsE c o q) l else none
      | none => none
    | _, _ => none
def zeroC (t : TypeId) : Option (List DC) := match P.info? t with
  | some i => match i.zero with
    | some z => dcsOf z.cells.toList
    | none => none
  | none => none
def zeroR (t : TypeId) : Option (Sh × Row) := match shT P 12 t, P.info? t with
  | some s, some i => match i.zero with
    | some z => bif zOk s z.cells.toList then some (s, zRow s) else none
    | none => none
  | _, _ => none
def placesOf : List Field → Option (List (Nat × Nat))
  | [] => some []
  | f :: fs => match szT P f.type, placesOf fs with
    | some s, some l => some ((f.offset, s) :: l)
    | _, _ => none
noncomputable def partsW (fr : Frs) (s : Sh) (rows : List Row) : List (Nat × Operand) → Option (List Row)
  | [] => some rows
  | (i, x) :: l => match ev fr x with
    | some v => match rowFor s v with
      | some r => bif Nat.blt i rows.length then partsW fr s (rows.set i (expl s r)) l else none
      | none => none
    | none => none
noncomputable def buildV (fr : Frs) (t : TypeId) (place : Nat → Option (Nat × Nat)) (ps : List (Nat × Operand)) : Option V := match zeroR P t with
  | some (s, z) => match partsV fr place z s ps with
    | some r => some (.r s r)
    | none => match zeroC P t with
      | some c => (partsE fr place c ps).map .a
      | none => none
  | none => match zeroC P t with
    | some c => (partsE fr place c ps).map .a
    | none => none
def splitI (f : Nat → Prop) (j : Int) : Nat → Nat → Prop
  | 0, _ => False
  | n + 1, i => fk (ieq j (Int.ofNat i)) (f i) (splitI f j n (i + 1))
noncomputable def insM (t : TypeId) (m : Mem) (c : DC) (iv v : V) (k : Mem → Prop) : Prop := match mapT P t, mapAt m (mapT P t) c with
  | some (a, s, b, e), some (y, l) => match rowFor s iv, rowFor e v with
    | some ir, some r => fk (bEq (isAggV iv) a && bEq (isAggV v) b) (k (putM y (.P a b s e (mput l ir r)) m)) False
    | _, _ => False
  | _, _ => False
noncomputable def lookM (t : TypeId) (m : Mem) (c : DC) (iv : V) (ok : Bool) (k : V → Prop) : Prop := match mapT P t, mapAt m (mapT P t) c with
  | some (a, s, b, e), some (_, l) => match rowFor s iv, zeroR P (elemT P t) with
    | some ir, some (e', z) => fk (bEq (isAggV iv) a && (zAgg P (elemT P t) b && shEq e e')) (oP (valAt b e e (mget l ir z) 0) fun v => k (bif ok then .t [v, .c (.b (mhas l ir))] else v)) False
    | _, _ => False
  | _, _ => False
noncomputable def apJ (s : Sh) (n : Int) (l : List (Option Row)) (x : Nat) (lo hi : Int) (b : Nat) (l2 : List Row) (m : Mem) (nx : Nat) (k : KVk) : Prop :=
  fk (ieq lo 0) (fk (ile (xadd hi (ln l2)) (jcap l)) (k (.c (.bp x s lo (xadd hi (ln l2)))) (putM x (.J s n (jput l hi l2)) m) nx)
    (fk (jok l 0 hi && apOk b (jsub l 0 hi) l2) (k (.c (.ow nx)) ((nx, .W s (lap (jsub l 0 hi) l2)) :: m) (nx + 1)) False)) False
def isOv (fn : Func) : Bool := fn.body.isNone && ((fn.name == "runtime.NumGoroutine") == false && ((Extern.findNext fn).isNone && ((Extern.allGenericRows.lookup fn.name).isNone && ((Extern.allTypedRows.lookup fn.name).isNone && ((Extern.allRows.lookup fn.name).isNone && (fn.origin == "slices.overlaps" && (match fn.params.toList, fn.resultTypes.toList with
  | [t, t'], [r] => Nat.beq t t' && (match P.underlying t with | some (.slice e) => (szT P e).isSome | _ => false)
  | _, _ => false)))))))
def ovB (f : Nat) : Bool := match P.funcs[f]? with
  | some fn => isOv P fn
  | none => false
noncomputable def convB (e : TypeId) (fr : Frs) (m : Mem) (x : Operand) (k : DC → Prop) : Prop := match P.underlying e with
  | some (.int .u8) => onC fr x fun c => match rowsOf m c with
    | some (s, l) => fk (shEq s [.i .u8]) (k (.s (bstr l))) False
    | none => False
  | _ => False
noncomputable def apart (m : Mem) (k : Prop) : List V → Prop
  | [.c (.ow x), .c c] => match look x m, partOf m c with
    | some (.W e (_ :: _)), some (y, e', lo, hi, _, _) => fk (!(Nat.beq x y) && (Nat.ble 1 e.length && Nat.ble 1 e'.length)) (fk (ilt lo hi) k False) False
    | _, _ => False
  | _ => False
noncomputable def dop (fr : Frs) (m : Mem) (nx : Nat) (op : Op) (k : KVk) : Prop := match op with
  | .move x => oP (ev fr x) fun v => k v m nx
  | .assign x => oP (ev fr x) fun v => k v m nx
  | .pick c a b => onB fr c fun t => oP (ev fr a) fun x => oP (ev fr b) fun y => fk t (k x m nx) (k y m nx)
  | .alloc t => match zeroR P t with
    | some (s, z) => k (.c (.pv nx 0)) ((nx, .R s z) :: m) (nx + 1)
    | none => oP (zeroC P t) fun c => k (.c (.pv nx 0)) ((nx, .E c) :: m) (nx + 1)
  | .box t x => oP (ev fr x) fun v => oP (blkOf (shT P 12 t) v) fun b => k (.c (.pv nx 0)) ((nx, b) :: m) (nx + 1)
  | .build t ps => match P.underlying t with
    | some (.struct fs) => oP (placesOf P fs.toList) fun pl => oP (buildV P fr t (fun i => pl[i]?) ps.toList) fun v => k v m nx
    | some (.array _ e) => match aggT P e with
      | some (_, n) => oP (buildV P fr t (fun i => some (i * n, n)) ps.toList) fun v => k v m nx
      | none => False
    | _ => False
  | .load t p => match aggT P t with
    | some (agg, n) => onC fr p fun c => loadAt agg n (shT P 12 t) m c fun v => k v m nx
    | none => False
  | .store t p x => match aggT P t with
    | some (_, n) => onC fr p fun c => oP (ev fr x) fun v => storeAt n (shT P 12 t) m c v fun m' => k (.t []) m' nx
    | none => False
  | .nilCheck x => onC fr x fun c => match c with
    | .pv _ _ => k (.c c) m nx
    | .pf _ _ _ => k (.c c) m nx
    | .pw _ _ _ _ => k (.c c) m nx
    | .fn _ _ => k (.c c) m nx
    | _ => False
  | .binOp op t x y _ => bif isNilC y then onC fr x fun c => nilV P t op c fun c => k (.c c) m nx else oP (ev fr x) fun a => oP (ev fr y) fun b => binV P t op a b fun c => k (.c c) m nx
  | .unOp .not _ x => onB fr x fun b => k (.c (.b (nt b))) m nx
  | .unOp .neg _ x => onI fr x fun q n => k (.c (.i q (wr q (xsub 0 n)))) m nx
  | .unOp .xor _ x => onI fr x fun q n => k (.c (.i q (xbit .xor q (bif q.signed then -1 else q.max) n))) m nx
  | .convert s d x => match P.underlying s, P.underlying d with
    | some (.int _), some (.int q) => onI fr x fun _ n => k (.c (.i q (wr q n))) m nx
    | some .string, some .string => onC fr x fun c => match c with | .s y => k (.c (.s y)) m nx | _ => False
    | some (.slice e), some .string => convB P e fr m x fun c => k (.c c) m nx
    | _, _ => False
  | .fieldAddr t x f => match offOf P t f with
    | some (o, _, n) => fk (Nat.ble 1 n) (onC fr x fun c => match c with
      | .pv y off => k (.c (.pv y (off + o))) m nx
      | .pf e r off => k (.c (.pf e r (off + o))) m nx
      | .pw y e i off => k (.c (.pw y e i (off + o))) m nx
      | _ => False) False
    | none => False
  | .field t x f => match offOf P t f with
    | some (o, agg, n) => oP (ev fr x) fun v => oP (fieldV agg o n v) fun u => k u m nx
    | none => False
  | .indexAddr t x i => match P.underlying t with
    | some (.slice e) => match aggT P e with
      | some (_, n) => onC fr x fun c => onI fr i fun _ j => match c with
       | .oe y cnt => fk (Nat.beq n 1) (fk (inR j (Int.ofNat cnt)) (splitI (fun t => k (.c (.pv y t)) m nx) j cnt 0) False) False
       | _ => match rowsOf m c with
        | some (s, l) => fk (Nat.beq s.length n) (fk (inR j (ln l)) (match c with
          | .ow y => k (.c (.pw y s (tn j) 0)) m nx
          | _ => k (.c (.pf s (rw' l (tn j)) 0)) m nx) False) False
        | none => False
      | none => False
    | some (.array q e) => match aggT P e with
      | some (_, n) => onC fr x fun c => onI fr i fun _ j => fk (inR j q) (splitI (fun t => match c with
        | .pv y off => k (.c (.pv y (off + t * n))) m nx
        | .pf s r off => k (.c (.pf s r (off + t * n))) m nx
        | .pw y s a off => k (.c (.pw y s a (off + t * n))) m nx
        | _ => False) j q 0) False
      | none => False
    | _ => False
  | .index t x i => match P.underlying t with
    | some .string => onC fr x fun c => onI fr i fun _ j => match c with
      | .s y => fk (inR j (ssz y)) (k (.c (.i .u8 (byt y j))) m nx) False
      | _ => False
    | some (.array q e) => match aggT P e with
      | some (agg, n) => oP (ev fr x) fun v => onI fr i fun _ j => fk (inR j q) (splitI (fun t => oP (fieldV agg (t * n) n v) fun u => k u m nx) j q 0) False
      | none => False
    | _ => False
  | .extract x i => oP (ev fr x) fun v => oP (tupV v) fun l => oP l[i]? fun u => k u m nx
  | .makeFunc (.func f) first caps => match first.toList with
    | [] => oP (evs fr caps.toList) fun vs => oP (vs.foldr (fun v o => match v, o with | .c (.pv x 0), some l => some (x :: l) | _, _ => none) (some [])) fun l => k (.c (.fn f l)) m nx
    | [y] => match caps.toList with
      | [] => onC fr y fun c => match c with
        | .pv x 0 => k (.c (.fb f x)) m nx
        | _ => False
      | _ => False
    | _ => False
  | .makeMap t none => match mapT P t with
    | some (a, s, b, e) => k (.c (.mp nx)) ((nx, .P a b s e []) :: m) (nx + 1)
    | none => False
  | .insert t y i x => onC fr y fun c => oP (ev fr i) fun iv => oP (ev fr x) fun v => insM P t m c iv v fun m' => k (.t []) m' nx
  | .mapUpdate t y i x => onC fr y fun c => oP (ev fr i) fun iv => oP (ev fr x) fun v => insM P t m c iv v fun m' => k (.t []) m' nx
  | .lookup t y i ok => onC fr y fun c => oP (ev fr i) fun iv => lookM P t m c iv ok fun v => k v m nx
  | .slice t x lo hi mx => match P.underlying t, mx with
    | some (.slice el), none => match aggT P el with
      | some (_, n) => onC fr x fun c => match c with
        | .sl e l => fk (Nat.beq e.length n) (bnd fr 0 lo fun a => bnd fr (ln l) hi fun b => fk (an (ile 0 a) (an (ile a b) (ile b (ln l)))) (k (.c (.sl e (lsub l a b))) m nx) False) False
        | .cl e l => fk (Nat.beq e.length n) (bnd fr 0 lo fun a => bnd fr (ln l) hi fun b => fk (an (ile 0 a) (an (ile a b) (ile b (ln l)))) (k (.c (.sl e (lsub l a b))) m nx) False) False
        | c => match partOf m c with
          | some (y, e, o, u, _, l) => fk (Nat.beq e.length n) (bnd fr 0 lo fun a => bnd fr (xsub u o) hi fun b => fk (an (ile 0 a) (an (ile a b) (ile b (xsub (jcap l) o)))) (k (.c (.bp y e (xadd o a) (xadd o b))) m nx) False) False
          | none => False
      | none => False
    | some .string, none => onC fr x fun c => match c with
      | .s y => bnd fr 0 lo fun a => bnd fr (ssz y) hi fun b => fk (an (ile 0 a) (an (ile a b) (ile b (ssz y)))) (k (.c (.s (ssub y a b))) m nx) False
      | _ => False
    | some (.slice el), some mo => match aggT P el with
      | some (_, n) => onC fr x fun c => onI fr mo fun _ q => match c with
        | .sl e l => fk (Nat.beq e.length n && hi.isSome) (bnd fr 0 lo fun a => bnd fr (ln l) hi fun b => fk (an (ile 0 a) (an (ile a b) (an (ile b (ln l)) (ieq b q)))) (k (.c (.cl e (lsub l a b))) m nx) False) False
        | .cl e l => fk (Nat.beq e.length n && hi.isSome) (bnd fr 0 lo fun a => bnd fr (ln l) hi fun b => fk (an (ile 0 a) (an (ile a b) (an (ile b (ln l)) (ieq b q)))) (k (.c (.cl e (lsub l a b))) m nx) False) False
        | c => match partOf m c with
          | some (y, e, o, u, _, l) => fk (hi.isSome) (bnd fr 0 lo fun a => bnd fr 0 hi fun b => fk (an (ile 0 a) (an (ile a b) (an (ile b q) (ile q (xsub (jcap l) o))))) (k (.c .un) m nx) False) False
          | none => False
      | none => False
    | _, _ => False
  | .buildSlice t len ps => match P.underlying t with
    | some (.slice e) => match zeroR P e, szT P e with
      | some (s, z), some n => fk (Nat.beq n s.length && (Nat.ble 1 n && Nat.ble (len * n) 65536)) (oP (partsW fr s (List.replicate len z) ps.toList) fun rows => k (.c (.ow nx)) ((nx, .W s rows) :: m) (nx + 1)) False
      | none, some 1 => match zeroC P e with
        | some [c] => fk (Nat.ble len 65536) (oP (partsE fr (fun i => some (i * 1, 1)) (List.replicate len c) ps.toList) fun cs => k (.c (.oe nx len)) ((nx, .E cs) :: m) (nx + 1)) False
        | _ => False
      | _, _ => False
    | _ => False
  | .makeSlice t len cap => match P.underlying t with
    | some (.slice e) => match zeroR P e, P.info? e with
      | some (s, z), some i => onI fr len fun _ l => onI fr cap fun _ c => fk (Nat.beq i.size s.length && (Nat.ble 1 i.size && Nat.ble i.bytes 1048576)) (fk (mkOk l c) (k (.c (.ow nx)) ((nx, .W s (lrep l z)) :: m) (nx + 1)) False) False
      | _, _ => False
    | _ => False
  | .call c => match c.callee, c.args.toList, c.argTypes.toList with
    | .value (.func f), args, _ => oP (evs fr args) fun vs => bif ovB P f then apart m (k (.c (.b false)) m nx) vs else doCall P call f vs m nx k
    | .value x, args, _ => onC fr x fun c => match c with
      | .fn f caps => oP (evs fr args) fun vs => doCall P call f (vs ++ caps.map fun x => .c (.pv x 0)) m nx k
      | .fb f y => oP (evs fr args) fun vs => doCall P call f (.c (.pv y 0) :: vs) m nx k
      | _ => False
    | .builtin .len, [x], [t] => match P.underlying t with
      | some (.slice _) => onC fr x fun c => match c with
        | .sn => k (.c (.i .i64 0)) m nx
        | .oe _ n => k (.c (.i .i64 (Int.ofNat n))) m nx
        | c => match rowsOf m c with
          | some (_, l) => k (.c (.i .i64 (ln l))) m nx
          | none => match partOf m c with
            | some (_, _, lo, hi, _, _) => k (.c (.i .i64 (xsub hi lo))) m nx
            | none => False
      | some .string => onC fr x fun c => match c with
        | .s y => k (.c (.i .i64 (ssz y))) m nx
        | _ => False
      | some (.array n _) => k (.c (.i .i64 (n : Int))) m nx
      | _ => False
    | .builtin .cap, [x], [t] => match P.underlying t with
      | some (.slice _) => onC fr x fun c => match partOf m c with
        | some (_, _, lo, _, _, l) => k (.c (.i .i64 (xsub (jcap l) lo))) m nx
        | none => False
      | _ => False
    | .builtin .copy, [x, y], [t, u] => match P.underlying t, P.underlying u with
      | some (.slice e), some (.slice _) => match szT P e with
        | some sz => onC fr x fun c => onC fr y fun d => match partOf m c with
          | some (q, s, lo, hi, n, l) => fk (Nat.beq sz s.length && Nat.ble 1 sz) (match rowsOf m d with
            | some (s2, l2) => fk (shEq s s2) (k (.c (.i .i64 (xmin (xsub hi lo) (ln l2)))) (putM q (.J s n (jput l lo (ltk l2 (xmin (xsub hi lo) (ln l2))))) m) nx) False
            | none => match partOf m d with
              | some (_, s2, a, b, _, l2) => fk (shEq s s2 && jok l2 a (xadd a (xmin (xsub hi lo) (xsub b a)))) (k (.c (.i .i64 (xmin (xsub hi lo) (xsub b a)))) (putM q (.J s n (jput l lo (jsub l2 a (xadd a (xmin (xsub hi lo) (xsub b a)))))) m) nx) False
              | none => False) False
          | none => False
        | none => False
      | _, _ => False
    | .builtin .clear, [x], [t] => match P.underlying t with
      | some (.slice e) => match zeroR P e with
        | some (s, z) => onC fr x fun c => match partOf m c with
          | some (q, s', lo, hi, n, l) => fk (shEq s s' && Nat.ble 1 s.length) (k (.t []) (putM q (.J s n (jput l lo (lrep (xsub hi lo) z))) m) nx) False
          | none => False
        | none => False
      | _ => False
    | .builtin .append, [x, y], [t, u] => match P.underlying t, P.underlying u with
      | some (.slice e), some (.int _) => match P.info? e, zeroR P e with
        | some i, some (s, z) => onC fr x fun c => onI fr y fun q cnt => match partOf m c with
          | some (_, s', lo, hi, _, l) => fk (decide (q = .i64) && (shEq s s' && (Nat.beq s.length i.size && (Nat.ble 1 i.size && Nat.ble i.bytes 1048576)))) (fk (an (ieq lo 0) (ile 0 cnt)) (fk (ile (xadd hi cnt) (jcap l)) False
            (fk (jok l 0 hi && apOk i.bytes (jsub l 0 hi) (lrep cnt z)) (k (.c (.ow nx)) ((nx, .W s (lap (jsub l 0 hi) (lrep cnt z))) :: m) (nx + 1)) False)) False) False
          | none => False
        | _, _ => False
      | some (.slice e), some (.slice _) => match P.info? e with
        | some i => onC fr x fun c => onC fr y fun d => match partOf m c with
         | some (q, s', lo, hi, n, l) => fk (Nat.beq s'.length i.size && (Nat.ble 1 i.size && (Nat.ble i.bytes 1048576 && (match i.zero with | some zv => Nat.beq zv.cells.size i.size | none => false)))) (srcOf m d fun s l2 => fk (shEq s' s) (apJ s' n l q lo hi i.bytes l2 m nx k) False) False
         | none => match rowsOf m d with
          | some (s, l2) => fk (Nat.beq s.length i.size && (Nat.ble 1 i.size && (Nat.ble i.bytes 1048576 && (match i.zero with | some zv => Nat.beq zv.cells.size i.size | none => false)))) (match c with
            | .sn => fk (apOk i.bytes [] l2) (k (.c (.ow nx)) ((nx, .W s l2) :: m) (nx + 1)) False
            | .cl s' l => fk (shEq s s' && (nlt 0 l2 && apOk i.bytes l l2)) (k (.c (.ow nx)) ((nx, .W s (lap l l2)) :: m) (nx + 1)) False
            | .ow z => match look z m with
              | some (.W s' l) => fk (shEq s s' && apOk i.bytes l l2) (k (.c (.ow nx)) ((nx, .W s (lap l l2)) :: drp z m) (nx + 1)) False
              | _ => False
            | _ => False) False
          | none => False
        | none => False
      | _, _ => False
    | .builtin .min, [x, y], _ => onI fr x fun q a => onI fr y fun q' b => fk (decide (q = q')) (k (.c (.i q (xmin a b))) m nx) False
    | .builtin .max, [x, y], _ => onI fr x fun q a => onI fr y fun q' b => fk (decide (q = q')) (k (.c (.i q (xmax a b))) m nx) False
    | _, _, _ => False
  | _ => False
def putK (N : Nat) (d : Option Tmp) (v : V) (fr : Frs) (k : Frs → Prop) : Prop := match d with
  | some t => cond (Nat.blt t N) (k ((t, v) :: fr)) False
  | none => k fr
def known (fr : Frs) (x : Operand) (b : Bool) : Frs := match x with
  | .tmp t => (t, .c (.b b)) :: fr
  | _ => fr
noncomputable def thawC (m : Mem) (c : DC) : DC := match c with
  | .ow x => match look x m with
    | some (.Z e rows) => .sl e rows
    | _ => .ow x
  | c => c
noncomputable def thawV (m : Mem) (v : V) : V := match v with
  | .c c => .c (thawC m c)
  | .a l => .a (l.map (thawC m))
  | v => v
noncomputable def thawFr (m : Mem) (fr : Frs) : Frs := fr.map fun p => (p.1, thawV m p.2)
noncomputable def gate (ops : Array Oper) (fr : Frs) (o : Oper) (yes no : Frs → Prop) : Prop := match o.guard with
  | none => yes fr
  | some (j, want) => match (ops[j]?).bind (·.dst) with
    | some t => match look t fr with
      | some (.c (.b b)) => fk b ((cond want yes no) ((t, .c (.b true)) :: fr)) ((cond want no yes) ((t, .c (.b false)) :: fr))
      | some (.t []) => no fr
      | _ => False
    | none => False
def selfAsg (ops : Array Oper) (o : Oper) (x : Nat) : Bool := match o.dst with
  | some d => ops.toList.any fun p => match p.op, p.dst with
    | .assign (.tmp d'), some v => Nat.beq d d' && ops.toList.any fun q => match q.op, q.dst with
      | .move (.tmp v'), some x' => Nat.beq v v' && Nat.beq x x'
      | _, _ => false
    | _, _ => false
  | none => false
noncomputable def openM (fr : Frs) (m : Mem) (x : Operand) (k : Mem → Prop) : Prop := match ev fr x with
  | some (.c (.ow y)) => match look y m with
    | some (.W e rows) => ∀ c, ile (ln rows) c = true → k (putM y (.J e (ln rows) (jof rows c)) m)
    | _ => k m
  | _ => k m
noncomputable def pickM (m : Mem) : List Nat → Mem
  | [] => []
  | x :: l => match look x m with
    | some b => (x, b) :: pickM m l
    | none => pickM m l
noncomputable def idsOf (fr : Frs) (x : Operand) : List Nat := match ev fr x with
  | some v => idsV v
  | none => []
def frzB : Blk → Blk
  | .W e rows => .Z e rows
  | b => b
def frzM (m : Mem) : Mem := m.map fun p => (p.1, frzB p.2)
noncomputable def dpre (fr : Frs) (m : Mem) (op : Op) (k : Mem → Prop) : Prop := match op with
  | .slice _ x _ _ _ => openM fr m x k
  | .call c => match c.callee, c.args.toList with
    | .builtin .cap, [x] => openM fr m x k
    | _, _ => k m
  | .buildSlice _ _ ps => k (frzM (pickM m (ps.toList.flatMap fun p => idsOf fr p.2)) ++ without m (frzM (pickM m (ps.toList.flatMap fun p => idsOf fr p.2))))
  | _ => k m
noncomputable def eatOf (ops : Array Oper) (o : Oper) (fr : Frs) (m : Mem) : Option (Nat × Sh × List Row × Operand) := match o.op with
  | .slice t (.tmp x) (some lo) none none => match look x fr, P.underlying t with
    | some (.c (.ow y)), some (.slice el) => match look y m, aggT P el with
      | some (.W e rows), some (_, n) => bif selfAsg ops o x && Nat.beq e.length n then some (y, e, rows, lo) else none
      | _, _ => none
    | _, _ => none
  | _ => none
noncomputable def dopS (ops : Array Oper) (o : Oper) (fr : Frs) (m : Mem) (nx : Nat) (k : KVk) : Prop := match eatOf P ops o fr m with
  | some (y, e, rows, lo) => onI fr lo fun _ a => fk (an (ile 0 a) (ile a (ln rows))) (k (.c (.ow nx)) ((nx, .W e (lsub rows a (ln rows))) :: drp y m) (nx + 1)) False
  | none => dpre fr m o.op fun m => dop P call (thawFr m fr) m nx o.op k
noncomputable def dregS (N : Nat) (ops : Array Oper) : List Oper → Frs → Mem → Nat → (Frs → Mem → Nat → Prop) → Prop
  | [], fr, m, nx, K => K fr m nx
  | o :: l, fr, m, nx, K => gate ops fr o (fun fr => dopS P call ops o fr m nx fun v m' nx' => putK N o.dst v fr fun fr => dregS N ops l fr m' nx' K) (fun fr => putK N o.dst (.t []) fr fun fr => dregS N ops l fr m nx K)
def detB : Op → Bool
  | .call c => match c.callee with
    | .builtin .append => false
    | .builtin .copy => false
    | .builtin .clear => false
    | .builtin _ => true
    | _ => false
  | .store _ _ _ => false
  | .insert _ _ _ _ => false
  | .mapUpdate _ _ _ _ => false
  | .binOp _ _ _ y _ => !(isNilC y)
  | _ => true
def inB (i : Nat) (l : List Nat) : Bool := l.any fun j => Nat.beq j i
def edgeB (o : Oper) (i : Nat) : Bool := o.after.toList.any fun e => Region.binds .any e && Nat.beq e.on i
def rdyO (E : List Nat) (o : Oper) : Bool := o.after.toList.all fun e => !(Region.binds .any e) || inB e.on E
def rdyE (ops : Array Oper) (E : List Nat) (i : Nat) : Bool := match ops[i]? with
  | some o => rdyO E o
  | none => false
def planGo (ops : Array Oper) : Nat → List Nat → List Nat
  | 0, E => E.reverse
  | n + 1, E =>
    let rs := (List.range ops.size).filter fun i => !(inB i E) && rdyE ops E i
    match rs.find? (fun i => match ops[i]? with | some o => detB o.op | none => false) with
    | some i => planGo ops n (i :: E)
    | none => match rs with
      | i :: _ => planGo ops n (i :: E)
      | [] => E.reverse
def planOf (ops : Array Oper) : List Nat := planGo ops ops.size []
def dstIn (o : Oper) (l : List Nat) : Bool := match o.dst with
  | some d => inB d l
  | none => false
def dstSame (x y : Oper) : Bool := match x.dst, y.dst with
  | some d, some e => Nat.beq d e
  | _, _ => false
def aheadOf (ops : Array Oper) : Nat → Nat → List Nat
  | 0, _ => []
  | n + 1, i => match ops[i]? with
    | some o => o.after.toList.flatMap fun e => bif Region.binds .any e then e.on :: aheadOf ops n e.on else []
    | none => []
def pastB (ops : Array Oper) (E : List Nat) (j : Nat) : Bool := E.any fun i => match ops[i]? with
  | some o => !(detB o.op) && inB j (aheadOf ops 6 i)
  | none => false
def stepOk (ops : Array Oper) (E : List Nat) (i : Nat) (o : Oper) : Bool :=
  !(inB i E) && (rdyO E o && ((detB o.op || (List.range ops.size).all fun j => inB j E || (Nat.beq j i || !(rdyE ops E j))) && (!(dstIn o (o.looksAt ops)) &&
    E.all fun j => match ops[j]? with
      | some x => (!(dstIn o (x.looksAt ops)) || pastB ops E j) && (!(dstSame x o) && (!(dstIn x (o.looksAt ops)) || edgeB o j))
      | none => false)))
def planOk (ops : Array Oper) : List Nat → List Nat → Bool
  | E, [] => (List.range ops.size).all fun i => inB i E
  | E, i :: l => match ops[i]? with
    | some o => stepOk ops E i o && planOk ops (i :: E) l
    | none => false
noncomputable def frSel (fr : Frs) : List Nat → Frs
  | [] => []
  | t :: l => match look t fr with
    | some v => (t, v) :: frSel fr l
    | none => frSel fr l
noncomputable def cutM (fr : Frs) (m : Mem) (op : Op) : Mem := match op with
  | .load _ p => pickM m (idsOf fr p)
  | .store _ p _ => pickM m (idsOf fr p)
  | .indexAddr _ x _ => pickM m (idsOf fr x)
  | .slice _ x _ _ _ => pickM m (idsOf fr x)
  | .lookup _ x _ _ => pickM m (idsOf fr x)
  | .insert _ x _ _ => pickM m (idsOf fr x)
  | .mapUpdate _ x _ _ => pickM m (idsOf fr x)
  | .call c => bif detB (.call c) then pickM m (c.operands.toList.flatMap (idsOf fr)) else reach m 40 (c.operands.toList.flatMap (idsOf fr))
  | _ => []
def keysM (m : Mem) : List Nat := m.map (·.1)
def predO (o : Oper) : List Nat := o.after.toList.flatMap fun e => bif Region.binds .any e then [e.on] else []
def predI (ops : Array Oper) (i : Nat) : List Nat := match ops[i]? with
  | some o => predO o
  | none => []
def pnGo (ops : Array Oper) : List (Nat × List Nat) → List Nat → List Nat
  | [], _ => []
  | p :: l, anc => bif inB p.1 anc then pnGo ops l (predI ops p.1 ++ anc) else p.2 ++ pnGo ops l anc
def pnOf (ops : Array Oper) (ev : List (Nat × List Nat)) (o : Oper) : List Nat := pnGo ops ev (predO o)
def bSame : Blk → Blk → Prop
  | .R s r, .R s' r' => fk (shEq s s') (r = r') False
  | .W e l, .W e' l' => fk (shEq e e') (l = l') False
  | _, _ => False
noncomputable def stillE (l : List Nat) (m' : Mem) (X : Prop) : Mem → Prop
  | [] => X
  | p :: E => cond (inB p.1 l) (match look p.1 m' with | some c => bSame p.2 c ∧ stillE l m' X E | none => False) (stillE l m' X E)
noncomputable def stillM (l : List Nat) (E m' : Mem) (X : Prop) : Prop := cond (m'.all fun p => !(inB p.1 l) || inB p.1 (keysM E)) (stillE l m' X E) False
noncomputable def dregC (N : Nat) (ops : Array Oper) : List Nat → List (Nat × List Nat) → Frs → Mem → Nat → (Frs → Mem → Nat → Prop) → Prop
  | [], _, fr, m, nx, K => K fr m nx
  | i :: l, ev, fr, m, nx, K => oP ops[i]? fun o => gate ops fr o
      (fun fr => dop P call (frSel fr (o.looksAt ops)) (cutM (frSel fr (o.looksAt ops)) m o.op) nx o.op fun v m' nx' => cond (detB o.op)
        (putK N o.dst v fr fun fr' => dregC N ops l ((i, keysM m') :: ev) fr' (m' ++ without m (cutM (frSel fr (o.looksAt ops)) m o.op)) nx' K)
        (stillM (pnOf ops ev o) (cutM (frSel fr (o.looksAt ops)) m o.op) m' (putK N o.dst v fr fun fr' => dregC N ops l ((i, keysM m') :: ev) fr' (m' ++ without m (cutM (frSel fr (o.looksAt ops)) m o.op)) nx' K)))
      (fun fr => putK N o.dst (.t []) fr fun fr => dregC N ops l ((i, []) :: ev) fr m nx K)
abbrev Rnm := List (Nat × Option Nat)
noncomputable def rnX (r : Rnm) (x : Nat) : Option Nat := match look x r with | some o => o | none => some x
noncomputable def rnL (r : Rnm) : List Nat → Option (List Nat)
  | [] => some []
  | x :: l => match rnX r x, rnL r l with
    | some y, some m => some (y :: m)
    | _, _ => none
noncomputable def rnC (r : Rnm) (c : DC) : Option DC := match c with
  | .pv x off => match rnX r x with | some y => some (.pv y off) | none => none
  | .pw x e i off => match rnX r x with | some y => some (.pw y e i off) | none => none
  | .ow x => match rnX r x with | some y => some (.ow y) | none => some .sn
  | .fn f l => match rnL r l with | some m => some (.fn f m) | none => none
  | .bp x e lo hi => match rnX r x with | some y => some (.bp y e lo hi) | none => none
  | .mp x => match rnX r x with | some y => some (.mp y) | none => none
  | .oe x n => match rnX r x with | some y => some (.oe y n) | none => none
  | .fb f x => match rnX r x with | some y => some (.fb f y) | none => none
  | c => some c
noncomputable def rnCs (r : Rnm) : List DC → Option (List DC)
  | [] => some []
  | x :: l => match rnC r x, rnCs r l with
    | some y, some m => some (y :: m)
    | _, _ => none
noncomputable def rnP (r : Rnm) (v : V) : Option V := match v with
  | .c x => match rnC r x with | some y => some (.c y) | none => none
  | .a l => match rnCs r l with | some m => some (.a m) | none => none
  | .r s q => some (.r s q)
  | .t _ => none
noncomputable def rnPs (r : Rnm) : List V → Option (List V)
  | [] => some []
  | x :: l => match rnP r x, rnPs r l with
    | some y, some m => some (y :: m)
    | _, _ => none
noncomputable def rnV (r : Rnm) (v : V) : Option V := match v with
  | .t l => match rnPs r l with | some m => some (.t m) | none => none
  | v => rnP r v
noncomputable def rnB (r : Rnm) (b : Blk) : Option Blk := match b with
  | .E l => match rnCs r l with | some m => some (.E m) | none => none
  | b => some b
def natsB : List Nat → List Nat → Bool
  | [], [] => true
  | x :: l, y :: m => Nat.beq x y && natsB l m
  | _, _ => false
def oneIf (c : Bool) (p : Prop) : Prop := cond c p False
def dcEq : DC → DC → Prop
  | .b x, .b y => x = y
  | .i k n, .i k' m => oneIf (decide (k = k')) (n = m)
  | .s x, .s y => x = y
  | .sn, .sn => True
  | .sl e l, .sl e' l' => oneIf (shEq e e') (l = l')
  | .cl e l, .cl e' l' => oneIf (shEq e e') (l = l')
  | .pv x o, .pv y o' => oneIf (Nat.beq x y && Nat.beq o o') True
  | .pf e r o, .pf e' r' o' => oneIf (shEq e e' && Nat.beq o o') (r = r')
  | .pw x e i o, .pw y e' i' o' => oneIf (Nat.beq x y && (shEq e e' && Nat.beq o o')) (i = i')
  | .ow x, .ow y => oneIf (Nat.beq x y) True
  | .fn f l, .fn g m => oneIf (Nat.beq f g && natsB l m) True
  | .pn, .pn => True
  | .fz, .fz => True
  | .bp x e lo hi, .bp x' e' lo' hi' => oneIf (Nat.beq x x' && shEq e e') (lo = lo' ∧ hi = hi')
  | .mp x, .mp y => oneIf (Nat.beq x y) True
  | .oe x n, .oe y n' => oneIf (Nat.beq x y && Nat.beq n n') True
  | .fb f x, .fb g y => oneIf (Nat.beq f g && Nat.beq x y) True
  | _, _ => False
def dcsEq : List DC → List DC → Prop
  | [], [] => True
  | x :: l, y :: m => dcEq x y ∧ dcsEq l m
  | _, _ => False
def vpEq : V → V → Prop
  | .c x, .c y => dcEq x y
  | .r s r, .r s' r' => oneIf (shEq s s') (r = r')
  | .a l, .a m => dcsEq l m
  | _, _ => False
def vpsEq : List V → List V → Prop
  | [], [] => True
  | x :: l, y :: m => vpEq x y ∧ vpsEq l m
  | _, _ => False
def vEq : V → V → Prop
  | .t l, .t m => vpsEq l m
  | x, y => vpEq x y
def blEq : Blk → Blk → Prop
  | .R s r, .R s' r' => oneIf (shEq s s') (r = r')
  | .E l, .E m => dcsEq l m
  | .W e l, .W e' l' => oneIf (shEq e e') (l = l')
  | .Z e l, .Z e' l' => oneIf (shEq e e') (l = l')
  | .P a b s e l, .P a' b' s' e' l' => oneIf (bEq a a' && (bEq b b' && (shEq s s' && shEq e e'))) (l = l')
  | _, _ => False
def lessN (a b : Nat) : Prop := a < b
noncomputable def subFr (r : Rnm) (fr : Frs) : Frs → Prop
  | [] => True
  | p :: l => (match rnV r p.2 with | some v => oP (look p.1 fr) fun u => vEq u v | none => False) ∧ subFr r fr l
noncomputable def subM (r : Rnm) (m : Mem) : Mem → Prop
  | [] => True
  | p :: l => (match rnX r p.1 with | some y => (match rnB r p.2 with | some b => oP (look y m) fun c => blEq c b | none => False) | none => ∃ e, p.2 = .W e []) ∧ subM r m l
def nodupB : List Nat → Bool
  | [] => true
  | x :: l => !(l.any fun y => Nat.beq x y) && nodupB l
noncomputable def subOk (nx0 : Nat) (r : Rnm) (s : St) : Bool := ((s.fr.flatMap fun p => idsV p.2) ++ idsM s.m).all (fun x => Nat.blt x s.nx && ((look x r).isSome || Nat.blt x nx0)) && (Nat.ble nx0 s.nx && (nodupB (s.m.filterMap fun p => rnX r p.1) && r.all fun p => Nat.ble nx0 p.1))
def rnmL (nx0 : Nat) : List Nat → List Nat → Rnm
  | x :: l, y :: m => bif Nat.ble nx0 x then (x, some y) :: rnmL nx0 l m else rnmL nx0 l m
  | _, _ => []
def rnmC (nx0 : Nat) : DC → DC → Rnm
  | .ow x, .ow y => rnmL nx0 [x] [y]
  | .ow x, .sn => bif Nat.ble nx0 x then [(x, none)] else []
  | .pv x _, .pv y _ => rnmL nx0 [x] [y]
  | .fn _ l, .fn _ m => rnmL nx0 l m
  | .mp x, .mp y => rnmL nx0 [x] [y]
  | .oe x _, .oe y _ => rnmL nx0 [x] [y]
  | .fb _ x, .fb _ y => rnmL nx0 [x] [y]
  | _, _ => []
def rnmCs (nx0 : Nat) : List DC → List DC → Rnm
  | x :: l, y :: m => rnmC nx0 x y ++ rnmCs nx0 l m
  | _, _ => []
def rnmV (nx0 : Nat) : V → V → Rnm
  | .c x, .c y => rnmC nx0 x y
  | .a l, .a m => rnmCs nx0 l m
  | _, _ => []
noncomputable def rnmFr (nx0 : Nat) (fr : Frs) : Frs → Rnm
  | [] => []
  | p :: l => (match look p.1 fr with | some u => rnmV nx0 p.2 u | none => []) ++ rnmFr nx0 fr l
noncomputable def rnmM (nx0 : Nat) (r : Rnm) (m : Mem) : Mem → Rnm
  | [] => []
  | p :: l => (match rnX r p.1 with
    | some y => match p.2, look y m with
      | .E c, some (.E d) => rnmCs nx0 c d
      | _, _ => []
    | none => []) ++ rnmM nx0 r m l
noncomputable def mkR (nx0 : Nat) (st s : St) : Rnm := rnmFr nx0 st.fr s.fr ++ rnmM nx0 (rnmFr nx0 st.fr s.fr) st.m s.m
noncomputable def Sub (nx0 : Nat) (st s : St) : Prop := subFr (mkR nx0 st s) st.fr s.fr ∧ subM (mkR nx0 st s) st.m s.m ∧ oneIf (subOk nx0 (mkR nx0 st s) s) True
def LoopP (body : St → (Ex → St → Prop) → Prop) (st : St) (K : Ex → St → Prop) : Prop :=
  ∃ (J : Type) (s : J → St) (μ : J → Nat), (∃ j, Sub st.nx st (s j)) ∧ ∀ j, body (s j) fun e st' => match e with
    | .nrm => ∃ j', μ j' < μ j ∧ Sub st.nx st' (s j')
    | e => K e st'
def loopN (n : Nat) (body : St → (Ex → St → Prop) → Prop) (st : St) (K : Ex → St → Prop) : Prop := LoopP body st K
structure LSpec where
  J : Type
  fr : J → Frs
  m : J → Mem
  n : Nat
  μ : J → Nat
inductive LK where
  | s (S : LSpec)
  | u (n : Nat)
  | e (J : Type) (fr : J → Frs) (m : J → Mem) (n : Nat) (d : List Nat)
  | o (t : Nat) (e : Sh) (J : Type) (fr : J → Frs) (m : J → Mem) (n : Nat) (d : List Nat)
abbrev Lp := List (Nat × LK)
def lspec (n : Nat) : Lp → Option LK
  | [] => none
  | p :: l => bif Nat.beq p.1 n then some p.2 else lspec n l
def fstR : Code → Nat
  | .region id _ _ => id + 1
  | .seq a b => bif Nat.beq (fstR a) 0 then fstR b else fstR a
  | .cond _ a b => bif Nat.beq (fstR a) 0 then fstR b else fstR a
  | .block _ b => fstR b
  | .loop b => fstR b
  | .scope b => fstR b
  | _ => 0
def wrT : Code → List Nat
  | .region _ ops _ => ops.toList.filterMap (·.dst)
  | .seq a b => wrT a ++ wrT b
  | .cond _ a b => wrT a ++ wrT b
  | .block _ b => wrT b
  | .loop b => wrT b
  | .scope b => wrT b
  | _ => []
def keepF (l : List Nat) (fr : Frs) : Frs := fr.filter fun p => !(inB p.1 l)
def dropL (d : List Nat) (m : Mem) : Mem := m.filter fun p => !(inB p.1 d)
noncomputable def headS (S : LSpec) (d : List Nat) (st : St) (j : S.J) : St := ⟨S.fr j, S.m j ++ without (dropL d st.m) (S.m j), st.nx + S.n⟩
noncomputable def LoopS (S : LSpec) (d : List Nat) (W : List Nat) (body : St → (Ex → St → Prop) → Prop) (st : St) (K : Ex → St → Prop) : Prop :=
  (∃ j, Sub st.nx st (headS S d st j)) ∧ ∀ j, body ⟨S.fr j ++ keepF W st.fr, (headS S d st j).m, st.nx + S.n⟩ fun e st' => match e with
    | .nrm => ∃ j', lessN (S.μ j') (S.μ j) ∧ Sub st.nx st' (headS S d st j')
    | e => K e st'
noncomputable def LoopE (J : Type) (f : J → Frs) (m : J → Mem) (n : Nat) (d : List Nat) (W : List Nat) (body : St → (Ex → St → Prop) → Prop) (st : St) (K : Ex → St → Prop) : Prop :=
  ∃ (I : J → Prop) (μ : J → Nat), (∃ j, I j ∧ Sub st.nx st (headS ⟨J, f, m, n, μ⟩ d st j)) ∧ ∀ j, I j → body ⟨f j ++ keepF W st.fr, (headS ⟨J, f, m, n, μ⟩ d st j).m, st.nx + n⟩ fun e st' => match e with
    | .nrm => ∃ j', I j' ∧ lessN (μ j') (μ j) ∧ Sub st.nx st' (headS ⟨J, f, m, n, μ⟩ d st j')
    | e => K e st'
noncomputable def CutE (J : Type) (f : J → Frs) (m : J → Mem) (n : Nat) (d : List Nat) (W : List Nat) (bx : (Ex → St → Prop) → Prop) (by' : St → (Ex → St → Prop) → Prop) (st : St) (K : Ex → St → Prop) : Prop :=
  ∃ (I : J → Prop), bx (fun e st' => match e with
    | .nrm => ∃ j', I j' ∧ Sub st.nx st' (headS ⟨J, f, m, n, fun _ => 0⟩ d st j')
    | e => K e st') ∧ ∀ j, I j → by' ⟨f j ++ keepF W st.fr, (headS ⟨J, f, m, n, fun _ => 0⟩ d st j).m, st.nx + n⟩ K
def loopU (body : St → (Ex → St → Prop) → Prop) (K : Ex → St → Prop) : Nat → St → Prop
  | 0, _ => False
  | n + 1, st => body st fun e st' => match e with
    | .nrm => loopU body K n st'
    | e => K e st'
noncomputable def ownN (t : Nat) (e : Sh) (st : St) (K : St → Prop) : Prop := match look t st.fr with
  | some (.c .sn) => K ⟨(t, .c (.ow st.nx)) :: st.fr, (st.nx, .W e []) :: st.m, st.nx + 1⟩
  | some (.c (.bp x e1 lo hi)) => match look x st.m with
    | some (.J e2 _ l) => fk (shEq e1 e2 && jok l lo hi) (K ⟨(t, .c (.ow st.nx)) :: st.fr, (st.nx, .W e1 (jsub l lo hi)) :: drp x st.m, st.nx + 1⟩) False
    | _ => False
  | _ => K st
noncomputable def dwp (lp : Lp) (N : Nat) : Code → St → (Ex → St → Prop) → Prop
  | .skip, st, K => K .nrm st
  | .region _ ops false, st, K => dregS P call N ops ops.toList st.fr st.m st.nx fun fr m nx => K .nrm ⟨fr, m, nx⟩
  | .region _ ops true, st, K => cond (P.follows .mixedOrders && planOk ops [] (planOf ops)) (dregC P call N ops (planOf ops) [] (thawFr st.m st.fr) st.m st.nx fun fr m nx => K .nrm ⟨fr, m, nx⟩) False
  | .seq a b, st, K => match lspec (fstR b + 1000) lp with
    | some (.e J f m n d) => CutE J f m n d (wrT a) (dwp lp N a st) (dwp lp N b) st K
    | _ => dwp lp N a st fun e st' => match e with
      | .nrm => dwp lp N b st' K
      | e => K e st'
  | .cond c x y, st, K => onB st.fr c fun b => fk b (dwp lp N x ⟨known st.fr c true, st.m, st.nx⟩ K) (dwp lp N y ⟨known st.fr c false, st.m, st.nx⟩ K)
  | .block id b, st, K => dwp lp N b st fun e st' => match e with
    | .ex i => fk (Nat.beq i id) (K .nrm st') (K e st')
    | e => K e st'
  | .loop b, st, K => match lspec (fstR b) lp with
    | some (.s S) => LoopS S [] (wrT b) (dwp lp N b) st K
    | some (.u n) => loopU (dwp lp N b) K n st
    | some (.e J f m n d) => LoopE J f m n d (wrT b) (dwp lp N b) st K
    | some (.o t e J f m n d) => ownN t e st fun st => LoopE J f m n d (wrT b) (dwp lp N b) st K
    | none => loopN (fstR b) (dwp lp N b) st K
  | .exit id, st, K => K (.ex id) st
  | .scope b, st, K => dwp lp N b st K
  | .label _, st, K => K .nrm st
  | .ret, st, K => K .ret st
  | _, _, _ => False
noncomputable def resK (m : Mem) (fr : Frs) : List ResultVar → (List V → Prop) → Prop
  | [], k => k []
  | .tmp t :: l, k => oP (look t fr) fun v => match v with
    | .t _ => False
    | v => resK m fr l fun vs => k (v :: vs)
  | .cell t ty :: l, k => match aggT P ty, look t fr with
    | some (agg, n), some (.c c) => loadAt agg n (shT P 12 ty) m c fun v => match v with
      | .t _ => False
      | v => resK m fr l fun vs => k (v :: vs)
    | _, _ => False
def oneV : List V → V
  | [v] => v
  | l => .t l
def frOf : List V → Nat → Frs
  | [], _ => []
  | v :: l, i => (i, v) :: frOf l (i + 1)
noncomputable def keepM (nx : Nat) (m : Mem) (ids : List Nat) : Mem := m.filter fun p => Nat.blt p.1 nx || (reach m 40 ids).any fun q => Nat.beq q.1 p.1
def nrmV (t : TypeId) (v : V) : V := match aggT P t, shT P 12 t with
  | some (true, _), some s => match v with
    | .a l => match dvsOf s l with
      | some r => .r s r
      | none => v
    | _ => v
  | some (false, _), some [k] => match v with
    | .c c => match dvOf k c with
      | some d => .c (cellK k [d] 0)
      | none => v
    | _ => v
  | _, _ => v
def nrmL : List TypeId → List V → List V
  | t :: ts, v :: vs => nrmV P t v :: nrmL ts vs
  | _, vs => vs
noncomputable def endK (fz : Bool) (tys : List TypeId) (m : Mem) (l : List V) (k : List V → Mem → Prop) : Prop := bif fz then
    k (nrmL P tys (l.map (thawV (frzM (reach m 40 (l.flatMap idsV)))))) (frzM (reach m 40 (l.flatMap idsV)) ++ without m (frzM (reach m 40 (l.flatMap idsV))))
  else k l m
def endN (nx n : Nat) (l : List Nat) : Nat := bif below nx l then nx else n
noncomputable def unJv (m : Mem) (nx : Nat) (v : V) (k : V → Mem → Nat → Prop) : Prop := match v with
  | .c (.ow x) => match look x m with
    | some (.J e n l) => fk (jok l 0 n) (k (.c (.ow x)) (putM x (.W e (jsub l 0 n)) m) nx) False
    | _ => k v m nx
  | .c (.bp x e lo hi) => match look x m with
    | some (.J e' _ l) => fk (shEq e e' && jok l 0 hi) (fk (ieq lo 0) (fk (ilt 0 (jcap l)) (k (.c (.ow nx)) ((nx, .W e (jsub l 0 hi)) :: drp x m) (nx + 1)) False) False) False
    | _ => False
  | v => k v m nx
noncomputable def unJ (m : Mem) (nx : Nat) : List V → (List V → Mem → Nat → Prop) → Prop
  | [], k => k [] m nx
  | v :: l, k => unJv m nx v fun v m nx => unJ m nx l fun l m nx => k (v :: l) m nx
noncomputable def dbody (lp : Lp) (fz : Bool) (f : Nat) (vs : List V) (m : Mem) (nx : Nat) (k : KVk) : Prop := match P.funcs[f]? with
  | some fn => match fn.body with
    | some c => dwp P call lp fn.ntmps c ⟨frOf vs 0, m, nx⟩ fun e st => match e with
      | .ex _ => False
      | _ => resK P st.m st.fr fn.results.toList fun l => unJ st.m st.nx l fun l m nx' => endK P fz fn.resultTypes.toList m l fun l m => k (oneV l) (keepM nx m (l.flatMap idsV)) (endN nx nx' (l.flatMap idsV ++ idsM (keepM nx m (l.flatMap idsV))))
    | none => False
  | none => False
def mpC (f : Nat → Nat) (c : DC) : DC := match c with
  | .pv x off => .pv (f x) off
  | .pw x e i off => .pw (f x) e i off
  | .ow x => .ow (f x)
  | .fn g l => .fn g (l.map f)
  | .bp x e lo hi => .bp (f x) e lo hi
  | .mp x => .mp (f x)
  | .oe x n => .oe (f x) n
  | .fb g x => .fb g (f x)
  | c => c
def mpP (f : Nat → Nat) (v : V) : V := match v with
  | .c c => .c (mpC f c)
  | .a l => .a (l.map (mpC f))
  | v => v
def mpV (f : Nat → Nat) (v : V) : V := match v with
  | .t l => .t (l.map (mpP f))
  | v => mpP f v
def mpB (f : Nat → Nat) (b : Blk) : Blk := match b with
  | .E l => .E (l.map (mpC f))
  | b => b
def mpM (f : Nat → Nat) (m : Mem) : Mem := m.map fun p => (f p.1, mpB f p.2)
def fwI : List Nat → Nat → Nat
  | [], _ => 0
  | y :: l, x => bif Nat.beq y x then 0 else fwI l x + 1
def bkI (keys : List Nat) (nx i : Nat) : Nat := match keys[i]? with
  | some x => x
  | none => nx + (i - keys.length)
noncomputable def thawB (m : Mem) (b : Blk) : Blk := match b with
  | .E l => .E (l.map (thawC m))
  | b => b
noncomputable def liveG (m : Mem) : List Nat → Mem
  | [] => []
  | x :: l => match look x m with
    | some b => bif b.live then (x, b) :: liveG m l else liveG m l
    | none => liveG m l
noncomputable def liveM (m : Mem) : Mem := liveG m (keysM m)
def idsOk (keys : List Nat) (nx : Nat) (ids : List Nat) : Bool := ids.all (fun x => inB x keys) && (nodupB keys && keys.all fun x => Nat.blt x nx)
def parOf (f : Nat) : List TypeId := match P.funcs[f]? with
  | some fn => fn.params.toList
  | none => []
def lvB (f : Nat) : Bool := match P.funcs[f]? with
  | some fn => fn.origin == "slices.Insert" || fn.origin == "slices.Delete"
  | none => false
def plK : Kd → Bool
  | .sl _ => false
  | _ => true
def plC : DC → Bool
  | .b _ => true
  | .i _ _ => true
  | .s _ => true
  | _ => false
def plP : V → Bool
  | .c c => plC c
  | .r s _ => s.all plK
  | _ => false
def plV : V → Bool
  | .t l => l.all plP
  | v => plP v
def lendB (f : Nat) (vs : List V) : Bool := (match P.funcs[f]? with
  | some fn => fn.resultTypes.toList.all fun t => match shT P 12 t with | some s => s.all plK | none => false
  | none => false) && (vs.flatMap idsV).isEmpty
noncomputable def tbl (g : List V → Mem → Nat → KVk → Prop) (lv : Bool) (f : Nat) (vs : List V) (E : Mem) (nx : Nat) (k : KVk) : Prop := bif lv || lvB P f then tblE g vs E (liveM E) nx k else bif lendB P f (nrmL P (parOf P f) (vs.map (thawV (frzM E)))) then g (nrmL P (parOf P f) (vs.map (thawV (frzM E)))) [] 0 fun v _ _ => cond (plV v) (k v E nx) False else tblE g (nrmL P (parOf P f) (vs.map (thawV (frzM E)))) (frzM E) (liveM (frzM E)) nx k where
 tblE (g : List V → Mem → Nat → KVk → Prop) (vs : List V) (E1 E2 : Mem) (nx : Nat) (k : KVk) : Prop :=
  cond (idsOk (keysM E2) nx (vs.flatMap idsV ++ idsM (E2.map fun p => (p.1, thawB E1 p.2)))) (g (vs.map (mpV (fwI (keysM E2)))) (mpM (fwI (keysM E2)) (E2.map fun p => (p.1, thawB E1 p.2))) (keysM E2).length fun v m n => k (mpV (bkI (keysM E2) nx) v) (mpM (bkI (keysM E2) nx) m ++ without E1 E2) (nx + (n - (keysM E2).length))) False
end
abbrev Ct := List (Nat × (List V → Mem → Nat → KVk → Prop))
noncomputable def dcall (P : Program) (T : Ct) (LT : Nat → Lp) : Nat → CallF
  | 0, _, _, _, _, _ => False
  | n + 1, f, vs, m, nx, k => match look f T with
    | some g => tbl P g (match lspec 0 (LT f) with | some _ => true | none => false) f vs m nx k
    | none => dbody P (dcall P T LT n) (LT f) false f vs m nx k
end Go.Proofs.YtgjindhjgmplgaaGreat
