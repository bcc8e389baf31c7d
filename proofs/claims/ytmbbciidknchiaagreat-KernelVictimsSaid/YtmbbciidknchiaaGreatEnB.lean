/-
  A verified evaluator: from the model's code to compiled code. No function of the program is named here.
-/
import Derived.Test.YtmbbciidknchiaaGreatEnA
namespace Go.Proofs.YtmbbciidknchiaaGreat
def cX : Operand → Option AX
  | .tmp t => match tmpOf t with | some (i, j) => some (.t i j) | none => none
  | .const v => match AV.of v with | some a => some (.k a) | none => none
  | .global _ => none
  | .func f => match Bid.of f with | some f => some (.k (.c (.fn f [] []))) | none => none
def cXs : List Operand → Option (List AX)
  | [] => some []
  | x :: l => match cX x with
    | none => none
    | some a => match cXs l with
      | none => none
      | some as_ => some (a :: as_)
def cO : Option Operand → Option (Option AX)
  | none => some none
  | some x => match cX x with | some a => some (some a) | none => none
def zeroOf (P : Program) (t : TypeId) : Option (List AC) :=
  match P.info? t with
  | some i => match i.zero with
    | some v => match AV.of v with | some a => a.cells | none => none
    | none => none
  | none => none
def zeroV (P : Program) (t : TypeId) : Option AV :=
  match P.info? t with
  | some i => match i.zero with
    | some v => AV.of v
    | none => none
  | none => none
def sizeT (P : Program) (t : TypeId) : Option Nat := match P.info? t with | some i => some i.size | none => none
def bytesT (P : Program) (t : TypeId) : Option Nat := match P.info? t with | some i => some i.bytes | none => none
def cParts (place : Nat → Option (Nat × Nat)) : List (Nat × Operand) → Option (List (Nat × Nat × AX))
  | [] => some []
  | (i, x) :: l => match place i, cX x, cParts place l with
    | some (o, s), some a, some ps => some ((o, s, a) :: ps)
    | _, _, _ => none
/-- a type whose values are compared cell by cell: the kinds of its cells -/
def plainFs (P : Program) (g : TypeId → Option (List CK)) : List Field → Nat → Option (List CK)
  | [], _ => some []
  | f :: fs, n => if f.name = "_" ∨ f.offset ≠ n then none else
    match g f.type, sizeT P f.type with
    | some k, some s => if k.length = s then (match plainFs P g fs (n + s) with | some l => some (k ++ l) | none => none) else none
    | _, _ => none
def plainS (P : Program) : Nat → TypeId → Option (List CK)
  | 0, _ => none
  | d + 1, t => match P.underlying t with
    | some .bool => some [.b]
    | some (.int _) => some [.i]
    | some .string => some [.s]
    | some (.struct fs) => if P.stoodInHeld t = true then none else plainFs P (plainS P d) fs.toList 0
    | _ => none
def cEqa (P : Program) (neg : Bool) (t : TypeId) (x y : Operand) : Option AO :=
  if P.eqGuardType P.depth t = true then none else
  match plainS P 8 t, cX x, cX y with
  | some ks, some x, some y => if sizeT P t = some ks.length then some (.eqa neg ks x y) else none
  | _, _, _ => none
/-- where the fields lie -/
def placesOf (P : Program) : List Field → Option (List (Nat × Nat))
  | [] => some []
  | f :: fs => match sizeT P f.type, placesOf P fs with
    | some s, some l => some ((f.offset, s) :: l)
    | _, _ => none
/-- the kinds of cells of a key -/
def keyS (P : Program) (kt : TypeId) : Option (Bool × List CK) :=
  match P.underlying kt with
  | some (.int _) => some (false, [.i])
  | some (.struct _) => match plainS P 8 kt with
    | some ks => if sizeT P kt = some ks.length then some (true, ks) else none
    | none => none
  | _ => none
def cMu (P : Program) (t : TypeId) (m k v : Operand) : Option AO :=
  match P.underlying t, cX m, cX k, cX v with
  | some (.map kt _), some m, some k, some v => match keyS P kt with
    | some (ag, ks) => some (.mu ag ks m k v)
    | none => none
  | _, _, _, _ => none
def cAp (P : Program) (e : TypeId) (x y : AX) : Option AO := match sizeT P e, zeroOf P e, bytesT P e with
  | some s, some z, some b => if 0 < s ∧ z.length = s ∧ b ≤ 1048576 then some (.ap s b x y) else none
  | _, _, _ => none
def cOp (P : Program) (op : Op) : Option AO :=
  match op with
  | .move x => (cX x).map .mv
  | .assign x => (cX x).map .mv
  | .pick c a b => match cX c, cX a, cX b with | some c, some a, some b => some (.pick c a b) | _, _, _ => none
  | .alloc e => (zeroOf P e).map .al
  | .box _ x => (cX x).map .bx
  | .build t parts => match P.underlying t, zeroOf P t with
    | some (.struct fs), some z => match placesOf P fs.toList with
      | some pl => (cParts (fun i => pl[i]?) parts.toList).map (.bd z)
      | none => none
    | some (.array _ e), some z => match sizeT P e with
      | some s => (cParts (fun i => some (i * s, s)) parts.toList).map (.bd z)
      | none => none
    | _, _ => none
  | .buildSlice t len parts => match P.underlying t with
    | some (.slice e) => match sizeT P e, zeroOf P e with
      | some s, some z => if 0 < s ∧ z.length = s ∧ len * s ≤ 65536 then (cParts (fun i => some (i * s, s)) parts.toList).map (.bs (zrep z len) len) else none
      | _, _ => none
    | _ => none
  | .load t a => match P.underlying t, sizeT P t, cX a with
    | some (.struct _), some s, some a => some (.ldn s a)
    | some (.array _ _), some s, some a => some (.ldn s a)
    | some _, some _, some a => some (.ld a)
    | _, _, _ => none
  | .store t a v => match sizeT P t, cX a, cX v with | some s, some a, some v => some (.st s a v) | _, _, _ => none
  | .nilCheck x => (cX x).map .nc
  | .binOp op t x y _ => match P.underlying t, op with
    | some (.int _), .shl => some (.gen (.binOp op t x y 0))
    | some (.int _), .shr => some (.gen (.binOp op t x y 0))
    | some (.int _), .quo => some (.gen (.binOp op t x y 0))
    | some (.int _), .rem => some (.gen (.binOp op t x y 0))
    | some (.int _), .and => some (.gen (.binOp op t x y 0))
    | some (.int _), .or => some (.gen (.binOp op t x y 0))
    | some (.int _), .xor => some (.gen (.binOp op t x y 0))
    | some (.int _), .andNot => some (.gen (.binOp op t x y 0))
    | some (.int _), _ => match cX x, cX y with | some x, some y => some (.bin op x y) | _, _ => none
    | some .string, .eql => match cX x, cX y with | some x, some y => some (.eqs false x y) | _, _ => none
    | some .string, .neq => match cX x, cX y with | some x, some y => some (.eqs true x y) | _, _ => none
    | some (.struct _), .eql => cEqa P false t x y
    | some (.struct _), .neq => cEqa P true t x y
    | some (.slice _), .eql => match cX x, cX y with | some x, some y => some (.eqn false x y) | _, _ => none
    | some (.slice _), .neq => match cX x, cX y with | some x, some y => some (.eqn true x y) | _, _ => none
    | some _, _ => some (.gen (.binOp op t x y 0))
    | none, _ => none
  | .unOp .not _ x => (cX x).map .not
  | .unOp op t x => some (.gen (.unOp op t x))
  | .convert s d x => match P.underlying s, P.underlying d with
    | some (.slice e), some .string => match P.underlying e with
      | _ => none
    | some (.int _), some (.int k) => (cX x).map (.ci k)
    | some .string, some .string => some (.gen (.convert s d x))
    | _, _ => none
  | .makeFunc (.func f) first caps => match Bid.of f, cXs first.toList, cXs caps.toList with | some f, some l, some m => some (.mf f l m) | _, _, _ => none
  | .makeMap _ none => some .mm
  | .makeSlice t l c => match P.underlying t with
    | some (.slice e) => match sizeT P e, zeroOf P e, bytesT P e, cX l, cX c with
      | some s, some z, some b, some l, some c => if 0 < s ∧ z.length = s then some (.ms z b l c) else none
      | _, _, _, _, _ => none
    | _ => none
  | .slice t x lo hi mx => if mx.isSome = true ∧ hi.isSome = false then none else match P.underlying t, cX x, cO lo, cO hi, cO mx with
    | some (.array n e), some x, some lo, some hi, some mx => (sizeT P e).map fun s => .sla n s x lo hi mx
    | some (.slice e), some x, some lo, some hi, some mx => (sizeT P e).map fun s => .sll s x lo hi mx
    | some .string, _, _, _, _ => some (.gen (.slice t x lo hi mx))
    | _, _, _, _, _ => none
  | .fieldAddr s x f => match P.underlying s, cX x with
    | some (.struct fs), some x => match fs[f]? with
      | some f => match sizeT P f.type with | some n => if 0 < n then some (.fa f.offset x) else none | none => none
      | none => none
    | _, _ => none
  | .field t x f => match P.underlying t, cX x with
    | some (.struct fs), some x => match fs[f]? with
      | some f => match P.underlying f.type, sizeT P f.type with
        | some (.struct _), some n => some (.fdn f.offset n x)
        | some (.array _ _), some n => some (.fdn f.offset n x)
        | some _, some _ => some (.fd f.offset x)
        | _, _ => none
      | none => none
    | _, _ => none
  | .indexAddr t x i => match P.underlying t, cX x, cX i with
    | some (.array n e), some x, some i => (sizeT P e).map fun s => .iaa n s x i
    | some (.slice e), some x, some i => (sizeT P e).map fun s => .ias s x i
    | _, _, _ => none
  | .index t x i => match P.underlying t, cX x, cX i with
    | some (.array n e), some x, some i => match P.underlying e, sizeT P e with
      | some (.struct _), some s => some (.ixa n s true x i)
      | some (.array _ _), some s => some (.ixa n s true x i)
      | some _, some s => some (.ixa n s false x i)
      | _, _ => none
    | some .string, _, _ => some (.gen (.index t x i))
    | _, _, _ => none
  | .lookup t x i ok => match P.underlying t, cX x, cX i with
    | some (.map kt e), some x, some i => match keyS P kt, zeroV P e with
      | some (ag, ks), some z => some (.lk z ok ag ks x i)
      | _, _ => none
    | _, _, _ => none
  | .mapUpdate t m k v => cMu P t m k v
  | .insert t m k v => cMu P t m k v
  | .extract x i => (cX x).map fun x => .ex x i
  | .call c => match c.callee, c.args.toList, c.argTypes.toList with
    | .value (.func f), args, _ => match P.funcs[f]? with
      | some fn => if fn.body.isSome ∧ fn.name ≠ "runtime.NumGoroutine" then (match Bid.of f, cXs args with | some f, some args => some (.call f args) | _, _ => none) else none
      | none => none
    | .value x, args, _ => match cX x, cXs args with | some x, some l => some (.cv x l) | _, _ => none
    | .builtin .append, [x, y], [tx, ty] => match P.underlying tx, P.underlying ty, cX x, cX y with
      | some (.slice e), some (.int _), some x, some y => match sizeT P e, zeroOf P e, bytesT P e with
        | some s, some z, some b => if 0 < s ∧ z.length = s ∧ b ≤ 1048576 then some (.apz s b z x y) else none
        | _, _, _ => none
      | some (.slice e), some (.slice _), some x, some y => cAp P e x y
      | some (.slice e), some .string, some x, some y => cAp P e x y
      | _, _, _, _ => none
    | .builtin .len, [x], [t] => match P.underlying t, cX x with
      | some (.slice _), some x => some (.len x)
      | some .string, some x => some (.lens x)
      | some (.array n _), _ => some (.mv (.k (.c (.i .i64 n))))
      | _, _ => none
    | .builtin .cap, [x], [t] => match P.underlying t, cX x with
      | some (.slice _), some x => some (.cap x)
      | _, _ => none
    | .builtin .copy, [x, y], (tx :: _) => match P.underlying tx, cX x, cX y with
      | some (.slice e), some x, some y => (sizeT P e).map fun s => .cp s x y
      | _, _, _ => none
    | .builtin .clear, [x], [t] => match P.underlying t, cX x with
      | some (.slice e), some x => match zeroOf P e with
        | some z => if 0 < z.length then some (.clr z x) else none
        | none => none
      | _, _ => none
    | .builtin .min, _, _ => some (.gen op)
    | .builtin .max, _, _ => some (.gen op)
    | _, _, _ => none
  | _ => none
def kindOf : AO → Nat
  | .ld _ | .ldn .. | .lk .. | .bts _ => 1
  | .al .. | .bx .. | .bs .. | .mm | .ms .. => 2
  | .st .. | .mu .. | .call .. | .cv .. | .ap .. | .apz .. | .cp .. | .clr .. => 3
  | _ => 0
def cDst (N : Nat) : Option Nat → Option (Option (D16 × D16))
  | none => some none
  | some t => if t < N then (match tmpOf t with | some p => some (some p) | none => none) else none
def cOper (P : Program) (N : Nat) (ops : Array Oper) (o : Oper) : Option AOp :=
  match cDst N o.dst with
  | none => none
  | some dst => match o.guard with
    | none => some ⟨dst, (match cOp P o.op with | some a => a | none => AO.no), none⟩
    | some (j, want) => match ops[j]? with
      | some g => match g.dst with
        | some t => match tmpOf t with
          | some (gi, gj) => some ⟨dst, (match cOp P o.op with | some a => a | none => AO.no), some (gi, gj, want)⟩
          | none => none
        | none => none
      | none => none
def mapO {α β : Type} (f : α → Option β) : List α → Option (List β)
  | [] => some []
  | x :: l => match f x with
    | none => none
    | some y => match mapO f l with
      | none => none
      | some ys => some (y :: ys)
/-- the order in which a region that draws is evaluated: before each effect only what it waits for -/
def starGo (b : Array Nat) (effs : List Nat) (n : Nat) (done : Nat) (acc : List Nat) : List Nat :=
  match effs with
  | [] => acc ++ (List.range n).filter fun i => !done.testBit i
  | e :: es =>
    let pre := (List.range n).filter fun i => !done.testBit i && (b.getD e 0).testBit i
    starGo b es n (pre.foldl (fun d i => d ||| 2 ^ i) done ||| 2 ^ e) (acc ++ pre ++ [e])
/-- the temporaries that an operation looks at -/
def looks (ops : Array Oper) (o : Oper) : List Nat :=
  (o.op.operands.toList.filterMap fun | .tmp t => some t | _ => none) ++
  (match o.guard with
   | some (g, _) => ((ops[g]?).bind (·.dst)).toList
   | none => [])
/-- operation j has to come before operation i -/
def bAt (bm : List Nat) (i j : Nat) : Bool := (bm.getD i 0).testBit j
/-- what the proof asks of a region that draws its order; ks: the kinds of the operations, by their numbers; order: the order of the evaluation -/
def drawPerm (n : Nat) (order : List Nat) : Bool :=
  order.length == n && ((List.range n).all fun i => order.contains i) && (order.all fun i => decide (i < n)) &&
  (List.range n).all fun q => (List.range q).all fun p => !(order.getD p 0 == order.getD q 0)
/-- the order asked for is that of the edges -/
def drawEdges (ops : Array Oper) (bm : List Nat) (n : Nat) : Bool :=
  (List.range n).all fun i => match ops[i]? with
    | some o => (o.after.toList.all fun e => !Region.binds .any e || decide (e.on < i)) &&
      ((List.range n).all fun j => !bAt bm i j || (o.after.toList.any fun e => Region.binds .any e && (e.on == j || bAt bm e.on j)))
    | none => false
/-- the evaluation keeps to it, effects one behind the other, each with only what it waits for ahead of it -/
def drawKeeps (bm ks order : List Nat) (n : Nat) : Bool :=
  (List.range n).all fun q => (List.range q).all fun p =>
    !bAt bm (order.getD p 0) (order.getD q 0) &&
    (!(ks.getD (order.getD q 0) 0 == 3) || (bAt bm (order.getD q 0) (order.getD p 0) || ((List.range q).any fun r => decide (p < r) && ks.getD (order.getD r 0) 0 == 3 && bAt bm (order.getD r 0) (order.getD p 0))))
/-- destinations are distinct; who looks at what is written is ordered with the writer -/
def drawDsts (ops : Array Oper) (bm : List Nat) (n : Nat) : Bool :=
  (List.range n).all fun i => (List.range n).all fun j => i == j || (match ops[i]?, ops[j]? with
    | some x, some y => match y.dst with
      | some t => !(x.dst == some t) && (!(looks ops x).contains t || bAt bm i j || bAt bm j i)
      | none => true
    | _, _ => false)
def drawChk (ops : Array Oper) (bm : List Nat) (ks : List Nat) (order : List Nat) : Bool :=
  drawPerm ops.size order && drawEdges ops bm ops.size && drawKeeps bm ks order ops.size && drawDsts ops bm ops.size
/-- how many effects operation i waits for -/
def loOf (bm ks order : List Nat) (n i : Nat) : Nat := ((List.range n).filter fun q => ks.getD (order.getD q 0) 0 == 3 && bAt bm i (order.getD q 0)).length
def akOf (bm ks order : List Nat) (n i : Nat) (ao : AO) : AK := match kindOf ao with
  | 0 => AK.pure
  | 1 => AK.read (loOf bm ks order n i)
  | 2 => AK.make
  | _ => AK.effect
def cRegion (P : Program) (N : Nat) (ops : Array Oper) (draw : Bool) : Option ACd :=
  match mapO (cOper P N ops) ops.toList with
  | none => none
  | some l =>
    if !draw then some (.reg l) else
    let bm := (Region.before ops).toList
    let ks := l.map fun o => kindOf o.op
    let effs := (List.range ops.size).filter fun i => ks.getD i 0 == 3
    let order := starGo (Region.before ops) effs ops.size 0 []
    if drawChk ops bm ks order then
      some (.dreg (order.map fun i => (l.getD i default, akOf bm ks order ops.size i (l.getD i default).op)))
    else none
def cCode (P : Program) (N : Nat) : Code → Option ACd
  | .skip => some .skip
  | .region _ ops draw => cRegion P N ops draw
  | .seq a b => match cCode P N a, cCode P N b with | some a, some b => some (.seq a b) | _, _ => none
  | .cond c x y => match cX c, cCode P N x, cCode P N y with | some c, some x, some y => some (.cond c x y) | _, _, _ => none
  | .block id b => (cCode P N b).map (.block id)
  | .loop b => (cCode P N b).map .loop
  | .exit id => some (.exit id)
  | .scope b => cCode P N b
  | .label _ => some .skip
  | .ret => some .ret
  | _ => none
def cRes (P : Program) : List ResultVar → Option (List AR)
  | [] => some []
  | .tmp t :: l => match tmpOf t, cRes P l with | some (i, j), some l => some (.tmp i j :: l) | _, _ => none
  | .cell a t :: l => match tmpOf a, P.underlying t, sizeT P t, cRes P l with
    | some (i, j), some (.struct _), some s, some l => some (.cells i j s :: l)
    | some (i, j), some (.array _ _), some s, some l => some (.cells i j s :: l)
    | some (i, j), some _, some _, some l => some (.cell i j :: l)
    | _, _, _, _ => none
def cFn (P : Program) (fn : Func) : Option AFn :=
  match fn.body with
  | some c => match cCode P fn.ntmps c, cRes P fn.results.toList with
    | some b, some r => some (.code b r)
    | _, _ => none
  | none => none
end Go.Proofs.YtmbbciidknchiaaGreat
