/-
  A verified evaluator: numbers, strings, bools and frozen rows that are only named: terms are built, numbers in normal form (a name and a constant), rows appended, cut and joined; what has to be decided is looked up among facts. No function of the program is named here.
-/
import Derived.Test.YtjnfgapfhpihmaaGreatEvG
set_option linter.unusedVariables false
set_option linter.unusedSimpArgs false
section
namespace Go.Proofs.YtjnfgapfhpihmaaGreat
open Go.RowKit
def cellD (l : List (List DV)) (i : Int) (o : Nat) : Option DV := (l[i.toNat]?).bind fun r => r[o]?
def dvI : Option DV → Int
  | some (.i n) => n
  | _ => 0
def dvS : Option DV → ByteArray
  | some (.s y) => y
  | _ => ⟨#[]⟩
def dvB : Option DV → Bool
  | some (.b x) => x
  | _ => false
def dvD : Option DV → List (List DV)
  | some (.sl l) => l
  | _ => []
structure StdA (ρ : Vn) : Prop where
  num : ∀ n, ρ.i (.num n) = n
  lit : ∀ l, ρ.s (.lit l) = ⟨(l.map UInt8.ofNat).toArray⟩
  add : ∀ a b, ρ.i (.f2 0 a b) = IntKind.i64.wrap (ρ.i a + ρ.i b)
  sub : ∀ a b, ρ.i (.f2 1 a b) = IntKind.i64.wrap (ρ.i a - ρ.i b)
  mul : ∀ a b, ρ.i (.f2 2 a b) = IntKind.i64.wrap (ρ.i a * ρ.i b)
  rem : ∀ a b, ρ.i (.f2 3 a b) = (ρ.i a).tmod (ρ.i b)
  dlen : ∀ y, ρ.i (.f1 5 y) = ((ρ.d y).length : Int)
  slen : ∀ y, ρ.i (.f1 6 y) = ((ρ.s y).size : Int)
  ci : ∀ o y t, o < 900 → ρ.i (.f2 (100 + o) y t) = dvI (cellD (ρ.d y) (ρ.i t) o)
  cs : ∀ o y t, o < 900 → ρ.s (.f2 (100 + o) y t) = dvS (cellD (ρ.d y) (ρ.i t) o)
  cb : ∀ o y t, o < 900 → ρ.b (.f2 (100 + o) y t) = dvB (cellD (ρ.d y) (ρ.i t) o)
  cd : ∀ o y t, o < 900 → ρ.d (.f2 (100 + o) y t) = dvD (cellD (ρ.d y) (ρ.i t) o)
inductive Fact where
  | rng (t : Nm) (lo hi : Int)
  | cmp (op : BinOp) (t u : Nm) (b : Bool)
  | bv (t : Nm) (b : Bool)
  | seq (t u : Nm) (b : Bool)
def icmp (op : BinOp) (a b : Int) : Option Bool := match op with
  | .eql => some (decide (a = b))
  | .neq => some (!decide (a = b))
  | .lss => some (decide (a < b))
  | .leq => some (decide (a ≤ b))
  | .gtr => some (decide (b < a))
  | .geq => some (decide (b ≤ a))
  | _ => none
def Fact.holds (ρ : Vn) : Fact → Prop
  | .rng t lo hi => lo ≤ ρ.i t ∧ ρ.i t ≤ hi
  | .cmp op t u b => icmp op (ρ.i t) (ρ.i u) = some b
  | .bv t b => ρ.b t = b
  | .seq t u b => ((ρ.s t).toList == (ρ.s u).toList) = b
def cmpR (op : BinOp) (a b c d : Int) : Option Bool := match op with
  | .lss => bif decide (b < c) then some true else bif decide (d ≤ a) then some false else none
  | .leq => bif decide (b ≤ c) then some true else bif decide (d < a) then some false else none
  | .gtr => bif decide (d < a) then some true else bif decide (b ≤ c) then some false else none
  | .geq => bif decide (d ≤ a) then some true else bif decide (b < c) then some false else none
  | .eql => bif decide (b < c) || decide (d < a) then some false else bif decide (a = b) && decide (c = d) && decide (a = c) then some true else none
  | .neq => bif decide (b < c) || decide (d < a) then some true else bif decide (a = b) && decide (c = d) && decide (a = c) then some false else none
  | _ => none
def nmI : AC → Option (IntKind × Nm)
  | .i k n => some (k, .num n)
  | .si k t => some (k, t)
  | _ => none
def nmS : AC → Option Nm
  | .s l => some (.lit l)
  | .ss t => some t
  | _ => none
inductive Srt where
  | b | i (k : IntKind) | s | sl (e : Sh)
def Sh.at : Sh → Nat → Option Srt
  | .nil, _ => none
  | .b _, 0 => some .b
  | .b t, n + 1 => t.at n
  | .i k _, 0 => some (.i k)
  | .i _ t, n + 1 => t.at n
  | .s _, 0 => some .s
  | .s t, n + 1 => t.at n
  | .sl e _, 0 => some (.sl e)
  | .sl _ t, n + 1 => t.at n
section
variable {F : List Fact} {ρ : Vn} {φ : Emb}
theorem cmpR_ok {op : BinOp} {a b c d x y : Int} {r : Bool} (e : cmpR op a b c d = some r) (h1 : a ≤ x) (h2 : x ≤ b) (h3 : c ≤ y) (h4 : y ≤ d) : icmp op x y = some r := by
  cases op <;> first | (cases e; done) | skip
  all_goals
    simp only [cmpR, cond_eq_ite, decide_eq_true_eq, Bool.or_eq_true, Bool.and_eq_true] at e
    simp only [icmp, Option.some.injEq]
    repeat' split at e
    all_goals first | (cases e; done) | (cases e; simp; omega)
theorem icmp_slow {op : BinOp} {k : IntKind} {a b : Int} {r : Bool} (e : icmp op a b = some r) : slow op k a b = some (.b r) := by
  cases op <;> first | (cases e; done) | (cases e; rfl)
theorem nmI_ok (hs : StdA ρ) {c : AC} {x : IntKind × Nm} {v : Value} (e : nmI c = some x) (hv : VC ρ φ c v) : v = .int x.1 (ρ.i x.2) := by
  cases c <;> first | (cases e; done) | skip
  · cases e; rw [show v = _ from hv]; simp [hs.num]
  · cases e; exact hv
theorem nmS_ok (hs : StdA ρ) {c : AC} {x : Nm} {v : Value} (e : nmS c = some x) (hv : VC ρ φ c v) : v = .string (ρ.s x) := by
  cases c <;> first | (cases e; done) | skip
  · cases e
    obtain ⟨y, rfl, rfl⟩ := hv
    rw [hs.lit, ofNat_toNat8]
  · cases e; exact hv
theorem row_at {z : Nat → Option Obj} : ∀ {sh : Sh} {o : Nat} {q : Srt} {row : List DV} {vs : List Value}, sh.at o = some q → RowD z sh row vs → ∃ x v, row[o]? = some x ∧ vs[o]? = some v ∧ match q with
    | .b => ∃ c, x = .b c ∧ v = .bool c
    | .i k => ∃ n, x = .i n ∧ v = .int k n
    | .s => ∃ y, x = .s y ∧ v = .string y
    | .sl e => ∃ rows, x = .sl rows ∧ SlD z e rows v
  | .nil, o, q, row, vs, e, h => by cases e
  | .b t, 0, q, row, vs, e, h => by
    cases e; obtain ⟨x, l', vs', rfl, rfl, _⟩ := h; exact ⟨_, _, rfl, rfl, _, rfl, rfl⟩
  | .b t, n + 1, q, row, vs, e, h => by
    obtain ⟨x, l', vs', rfl, rfl, h'⟩ := h; exact row_at (sh := t) (o := n) e h'
  | .i k t, 0, q, row, vs, e, h => by
    cases e; obtain ⟨x, l', vs', rfl, rfl, _⟩ := h; exact ⟨_, _, rfl, rfl, _, rfl, rfl⟩
  | .i k t, n + 1, q, row, vs, e, h => by
    obtain ⟨x, l', vs', rfl, rfl, h'⟩ := h; exact row_at (sh := t) (o := n) e h'
  | .s t, 0, q, row, vs, e, h => by
    cases e; obtain ⟨x, l', vs', rfl, rfl, _⟩ := h; exact ⟨_, _, rfl, rfl, _, rfl, rfl⟩
  | .s t, n + 1, q, row, vs, e, h => by
    obtain ⟨x, l', vs', rfl, rfl, h'⟩ := h; exact row_at (sh := t) (o := n) e h'
  | .sl d t, 0, q, row, vs, e, h => by
    cases e; obtain ⟨x, v, l', vs', rfl, rfl, h1, _⟩ := h; exact ⟨_, _, rfl, rfl, _, rfl, h1⟩
  | .sl d t, n + 1, q, row, vs, e, h => by
    obtain ⟨x, v, l', vs', rfl, rfl, _, h'⟩ := h; exact row_at (sh := t) (o := n) e h'
end
structure MV where
  i : Int := 0
  s : ByteArray := ⟨#[]⟩
  b : Bool := false
  d : List (List DV) := []
def cellM (x : Option DV) : MV := ⟨dvI x, dvS x, dvB x, dvD x⟩
def mval (base : Nat → MV) (fx : Nat → MV → MV → MV) : Nm → MV
  | .v n => base n
  | .num n => { i := n }
  | .lit l => { s := ⟨(l.map UInt8.ofNat).toArray⟩ }
  | .f1 f a => if f = 5 then { i := ((mval base fx a).d.length : Int) } else if f = 6 then { i := ((mval base fx a).s.size : Int) } else fx f (mval base fx a) {}
  | .f2 f a b => if f = 0 then { i := IntKind.i64.wrap ((mval base fx a).i + (mval base fx b).i) } else if f = 1 then { i := IntKind.i64.wrap ((mval base fx a).i - (mval base fx b).i) } else if f = 2 then { i := IntKind.i64.wrap ((mval base fx a).i * (mval base fx b).i) } else if f = 3 then { i := (mval base fx a).i.tmod (mval base fx b).i } else
    if 100 ≤ f ∧ f < 1000 then cellM (cellD (mval base fx a).d (mval base fx b).i (f - 100)) else fx f (mval base fx a) (mval base fx b)
def vnA (base : Nat → MV) (fx : Nat → MV → MV → MV) (g : Nm → Value) (z : Nat → Option Obj) : Vn := ⟨fun t => (mval base fx t).i, fun t => (mval base fx t).s, fun t => (mval base fx t).b, fun t => (mval base fx t).d, g, z⟩
theorem vnA_std (base : Nat → MV) (fx : Nat → MV → MV → MV) (g : Nm → Value) (z : Nat → Option Obj) : StdA (vnA base fx g z) where
  num := fun n => rfl
  lit := fun l => rfl
  add := fun a b => rfl
  sub := fun a b => rfl
  mul := fun a b => rfl
  rem := fun a b => rfl
  dlen := fun y => rfl
  slen := fun y => rfl
  ci := fun o y t ho => by
    show (mval base fx (.f2 (100 + o) y t)).i = _
    have h1 : ¬(100 + o = 0) := by omega
    have h2 : ¬(100 + o = 1) := by omega
    have h3 : ¬(100 + o = 2) := by omega
    have h4 : ¬(100 + o = 3) := by omega
    have h5 : 100 ≤ 100 + o ∧ 100 + o < 1000 := by omega
    simp only [mval, h1, h2, h3, h4, h5, if_false, if_true, and_self, Nat.add_sub_cancel_left]
    rfl
  cs := fun o y t ho => by
    show (mval base fx (.f2 (100 + o) y t)).s = _
    have h1 : ¬(100 + o = 0) := by omega
    have h2 : ¬(100 + o = 1) := by omega
    have h3 : ¬(100 + o = 2) := by omega
    have h4 : ¬(100 + o = 3) := by omega
    have h5 : 100 ≤ 100 + o ∧ 100 + o < 1000 := by omega
    simp only [mval, h1, h2, h3, h4, h5, if_false, if_true, and_self, Nat.add_sub_cancel_left]
    rfl
  cb := fun o y t ho => by
    show (mval base fx (.f2 (100 + o) y t)).b = _
    have h1 : ¬(100 + o = 0) := by omega
    have h2 : ¬(100 + o = 1) := by omega
    have h3 : ¬(100 + o = 2) := by omega
    have h4 : ¬(100 + o = 3) := by omega
    have h5 : 100 ≤ 100 + o ∧ 100 + o < 1000 := by omega
    simp only [mval, h1, h2, h3, h4, h5, if_false, if_true, and_self, Nat.add_sub_cancel_left]
    rfl
  cd := fun o y t ho => by
    show (mval base fx (.f2 (100 + o) y t)).d = _
    have h1 : ¬(100 + o = 0) := by omega
    have h2 : ¬(100 + o = 1) := by omega
    have h3 : ¬(100 + o = 2) := by omega
    have h4 : ¬(100 + o = 3) := by omega
    have h5 : 100 ≤ 100 + o ∧ 100 + o < 1000 := by omega
    simp only [mval, h1, h2, h3, h4, h5, if_false, if_true, and_self, Nat.add_sub_cancel_left]
    rfl
end Go.Proofs.YtjnfgapfhpihmaaGreat
end
section
namespace Go.Proofs.YtjnfgapfhpihmaaGreat
open Go.RowKit
def mv (ρ : Vn) (t : Nm) : MV := ⟨ρ.i t, ρ.s t, ρ.b t, ρ.d t⟩
structure StdF (ρ : Vn) : Prop extends StdA ρ where
  ex : ∀ a b, ρ.i (.f2 1000 a b) = ρ.i a + ρ.i b
  take : ∀ y k, ρ.d (.f2 1401 y k) = (ρ.d y).take (ρ.i k).toNat
  drop : ∀ y k, ρ.d (.f2 1402 y k) = (ρ.d y).drop (ρ.i k).toNat
  cat : ∀ y z, ρ.d (.f2 1403 y z) = ρ.d y ++ ρ.d z
  del : ∀ y k, ρ.d (.f2 1404 y k) = (ρ.d y).eraseIdx (ρ.i k).toNat
  nil : ρ.d nmNil = []
  rnil : ρ.d (.f1 8 (.num 0)) = [[]]
  rci : ∀ c r, ρ.d (.f2 1410 c r) = [DV.i (ρ.i c) :: (ρ.d r).headD []]
  rcs : ∀ c r, ρ.d (.f2 1411 c r) = [DV.s (ρ.s c) :: (ρ.d r).headD []]
  rcb : ∀ c r, ρ.d (.f2 1412 c r) = [DV.b (ρ.b c) :: (ρ.d r).headD []]
  rcd : ∀ c r, ρ.d (.f2 1413 c r) = [DV.sl (ρ.d c) :: (ρ.d r).headD []]
  bt : ∀ n, ρ.b (.f1 9 (.num n)) = decide (n ≠ 0)
  byt : ∀ a, ρ.s (.f1 10 a) = strOfNums [ρ.i a]
  scat : ∀ a b, ρ.s (.f2 1430 a b) = ρ.s a ++ ρ.s b
inductive Fc where
  | rng (t : Nm) (lo hi : Int)
  | dif (t u : Nm) (lo hi : Int)
  | bv (t : Nm) (b : Bool)
  | seq (t u : Nm) (b : Bool)
  | pr (k : Nat) (ts : List Nm)
def Fc.holds (Q : Nat → List MV → Prop) (ρ : Vn) : Fc → Prop
  | .rng t lo hi => lo ≤ ρ.i t ∧ ρ.i t ≤ hi
  | .dif t u lo hi => lo ≤ ρ.i t - ρ.i u ∧ ρ.i t - ρ.i u ≤ hi
  | .bv t b => ρ.b t = b
  | .seq t u b => ((ρ.s t).toList == (ρ.s u).toList) = b
  | .pr k ts => Q k (ts.map (mv ρ))
def fdR (F : List Fc) (t : Nm) : Option (Int × Int) := match F with
  | [] => none
  | .rng u lo hi :: l => bif decide (u = t) then some (lo, hi) else fdR l t
  | _ :: l => fdR l t
def fdD (F : List Fc) (t u : Nm) : Option (Int × Int) := match F with
  | [] => none
  | .dif x y lo hi :: l => bif decide (x = t) && decide (y = u) then some (lo, hi) else fdD l t u
  | _ :: l => fdD l t u
def fdB (F : List Fc) (t : Nm) : Option Bool := match F with
  | [] => none
  | .bv u b :: l => bif decide (u = t) then some b else fdB l t
  | _ :: l => fdB l t
def fdS (F : List Fc) (t u : Nm) : Option Bool := match F with
  | [] => none
  | .seq x y b :: l => bif decide (x = t) && decide (y = u) then some b else fdS l t u
  | _ :: l => fdS l t u
def fdP (F : List Fc) (k : Nat) (ts : List Nm) : Bool := match F with
  | [] => false
  | .pr k' ts' :: l => bif Nat.beq k' k && decide (ts' = ts) then true else fdP l k ts
  | _ :: l => fdP l k ts
def linN : Nm → Option Nm × Int
  | .num c => (none, c)
  | .f2 f t (.num c) => bif Nat.beq f 1000 then (some t, c) else (some (.f2 f t (.num c)), 0)
  | t => (some t, 0)
def mkLin (o : Option Nm) (c : Int) : Nm := match o with
  | none => .num c
  | some t => bif decide (c = 0) then t else .f2 1000 t (.num c)
def rngB (F : List Fc) : Option Nm → Option (Int × Int)
  | none => some (0, 0)
  | some t => fdR F t
def rngF (F : List Fc) (t : Nm) : Option (Int × Int) := match fdR F t with
  | some x => some x
  | none => match rngB F (linN t).1 with
    | some x => some (x.1 + (linN t).2, x.2 + (linN t).2)
    | none => none
def difB (F : List Fc) (x y : Option Nm) : Option (Int × Int) := match x, y with
  | some t, some u => bif decide (t = u) then some (0, 0) else match fdD F t u with
    | some b => some b
    | none => match fdD F u t with
      | some b => some (-b.2, -b.1)
      | none => match fdR F t, fdR F u with
        | some a, some b => some (a.1 - b.2, a.2 - b.1)
        | _, _ => none
  | x, y => match rngB F x, rngB F y with
    | some a, some b => some (a.1 - b.2, a.2 - b.1)
    | _, _ => none
def cmpF (F : List Fc) (op : BinOp) (t u : Nm) : Option Bool := match difB F (linN t).1 (linN u).1 with
  | some b => cmpR op (b.1 + ((linN t).2 - (linN u).2)) (b.2 + ((linN t).2 - (linN u).2)) 0 0
  | none => none
def conF (F : List Fc) (k : IntKind) (t : Nm) : AC := match rngF F t with
  | some x => bif decide (x.1 = x.2) then .i k x.1 else .si k t
  | none => .si k t
def in64 (F : List Fc) (t : Nm) : Bool := match rngF F t with
  | some x => decide (-9223372036854775808 ≤ x.1) && decide (x.2 ≤ 9223372036854775807)
  | none => false
def addN (t u : Nm) : Nm := match (linN t).1, (linN u).1 with
  | o, none => mkLin o ((linN t).2 + (linN u).2)
  | none, o => mkLin o ((linN t).2 + (linN u).2)
  | _, _ => .f2 1000 t u
def subN (t u : Nm) : Option Nm := match (linN t).1, (linN u).1 with
  | o, none => some (mkLin o ((linN t).2 - (linN u).2))
  | some x, some y => bif decide (x = y) then some (.num ((linN t).2 - (linN u).2)) else none
  | _, _ => none
def in8 (F : List Fc) (t : Nm) : Bool := match rngF F t with
  | some x => decide (0 ≤ x.1) && decide (x.2 ≤ 255)
  | none => false
def ar8 (F : List Fc) (k : IntKind) (o : Option Nm) : Option AC := match k, o with
  | .u8, some z => bif in8 F z then some (conF F .u8 z) else none
  | _, _ => none
def arF (F : List Fc) (c : Nat) (k : IntKind) (t u : Nm) (o : Option Nm) : Option AC := bif isI64 k then (match o with
  | some z => bif in64 F z then some (conF F k z) else some (conF F k (.f2 c t u))
  | none => some (conF F k (.f2 c t u))) else ar8 F k o
def binF2 (F : List Fc) (op : BinOp) (k : IntKind) (t u : Nm) : Option AC := match op with
  | .add => arF F 0 k t u (some (addN t u))
  | .sub => arF F 1 k t u (subN t u)
  | .mul => arF F 2 k t u none
  | op => (cmpF F op t u).map AC.b
def binF (F : List Fc) (op : BinOp) (u v : AC) : Option AC := match nmI u, nmI v with
  | some x, some y => bif eqK x.1 y.1 then binF2 F op x.1 x.2 y.2 else none
  | _, _ => match op, nmS u, nmS v with
    | .eql, some x, some y => bif decide (x = y) then some (.b true) else (fdS F x y).map AC.b
    | .neq, some x, some y => bif decide (x = y) then some (.b false) else ((fdS F x y).map Bool.not).map AC.b
    | _, _, _ => none
def cmpA2 (F : List Fc) (op : BinOp) (u v : AC) : Option Bool := match binF F op u v with
  | some (.b b) => some b
  | _ => none
def cvF (F : List Fc) (k q : IntKind) (y : Nm) : Option AC := match rngF F y with
  | some x => match k with
    | .i64 => bif decide (-9223372036854775808 ≤ x.1) && decide (x.2 ≤ 9223372036854775807) then some (conF F k y) else none
    | .u8 => bif decide (0 ≤ x.1) && decide (x.2 ≤ 255) then some (conF F k y) else none
    | _ => none
  | none => none
def posF (F : List Fc) (t : Nm) : Bool := match rngF F t with
  | some x => decide (1 ≤ x.1)
  | none => false
def sLe (F : List Fc) : AC → Bool
  | .s l => Nat.ble l.length 1000000
  | .ss t => match rngF F (.f1 6 t) with
    | some r => decide (r.2 ≤ 1000000)
    | none => false
  | _ => false
def genF (F : List Fc) (o : Op) (l : List (Option AV)) : Option AV := match o, l with
  | .binOp .rem _ _ _ _, [some (.c u), some (.c v)] => match nmI u, nmI v with
    | some x, some y => bif eqK x.1 y.1 && posF F y.2 then some (.c (conF F x.1 (.f2 3 x.2 y.2))) else none
    | _, _ => none
  | .binOp .add _ _ _ _, [some (.c u), some (.c v)] => match nmS u, nmS v with
    | some x, some y => bif sLe F u && sLe F v then some (.c (.ss (.f2 1430 x y))) else none
    | _, _ => none
  | _, _ => none
def dldF (F : List Fc) (sh : Sh) (y t : Nm) (o : Nat) : Option AC := bif Nat.blt o 900 then (match sh.at o with
  | some (.i k) => some (conF F k (.f2 (Nat.add 100 o) y t))
  | some .b => match fdB F (.f2 (Nat.add 100 o) y t) with
    | some b => some (.b b)
    | none => some (.sb (.f2 (Nat.add 100 o) y t))
  | some .s => some (.ss (.f2 (Nat.add 100 o) y t))
  | some (.sl e) => some (.ds e (.f2 (Nat.add 100 o) y t))
  | none => none) else none
def isRow : Nm → Bool
  | .f2 f _ r => (Nat.beq f 1410 || Nat.beq f 1411 || Nat.beq f 1412 || Nat.beq f 1413)
  | .f1 f r => Nat.beq f 8 && decide (r = .num 0)
  | _ => false
def lenN (F : List Fc) : Nm → Nm
  | .f2 f a b => bif Nat.beq f 1403 && isRow b then mkLin (linN (lenN F a)).1 ((linN (lenN F a)).2 + 1)
    else bif Nat.beq f 1401 && (match cmpF F .leq (.num 0) b, cmpF F .leq b (lenN F a) with | some true, some true => true | _, _ => false) then b
    else bif Nat.beq f 1404 && (match cmpF F .leq (.num 0) b, cmpF F .lss b (lenN F a) with | some true, some true => true | _, _ => false) then mkLin (linN (lenN F a)).1 ((linN (lenN F a)).2 - 1) else .f1 5 (.f2 f a b)
  | .f1 f a => bif Nat.beq f 7 && decide (a = .num 0) then .num 0 else .f1 5 (.f1 f a)
  | t => .f1 5 t
def dixF (F : List Fc) (y : Nm) (c : AC) : Option Nm := match nmI c with
  | some x => match cmpF F .leq (.num 0) x.2, cmpF F .lss x.2 (lenN F y) with
    | some true, some true => some x.2
    | _, _ => none
  | none => none
def zeroO : Option AC → Bool
  | none => true
  | some (.i _ n) => decide (n = 0)
  | _ => false
def dslF (F : List Fc) (y : Nm) (lo hi : Option AC) : Option Nm := bif zeroO lo then (match hi with
  | none => some y
  | some c => match nmI c with
    | some x => bif decide (x.2 = lenN F y) then some y else bif decide (x.2 = .num 0) then some nmNil else match cmpF F .leq (.num 0) x.2, cmpF F .leq x.2 (lenN F y) with
      | some true, some true => some (.f2 1401 y x.2)
      | _, _ => none
    | none => none) else none
def rowNm : Sh → List AC → Option Nm
  | .nil, [] => some (.f1 8 (.num 0))
  | .i k e, c :: l => match nmI c with
    | some x => bif eqK x.1 k then (rowNm e l).map (.f2 1410 x.2) else none
    | none => none
  | .s e, c :: l => match nmS c with
    | some x => (rowNm e l).map (.f2 1411 x)
    | none => none
  | .b e, .b x :: l => (rowNm e l).map (.f2 1412 (.f1 9 (.num (bif x then 1 else 0))))
  | .b e, .sb t :: l => (rowNm e l).map (.f2 1412 t)
  | .sl d e, .sn :: l => (rowNm e l).map (.f2 1413 nmNil)
  | .sl d e, .ds d' t :: l => bif decide (d' = d) then (rowNm e l).map (.f2 1413 t) else none
  | .sl d e, .dc d' t :: l => bif decide (d' = d) then (rowNm e l).map (.f2 1413 t) else none
  | _, _ => none
def catN (y z : Nm) : Nm := bif decide (y = nmNil) then z else .f2 1403 y z
def dapF (e : Sh) (y : Nm) (cs : List AC) : Option Nm := (rowNm e cs).map (.f2 1403 y)
def dbigF (F : List Fc) (t : Nm) (b : Nat) : Bool := match rngF F (lenN F t) with
  | some x => decide (x.2 ≤ 1048576) && decide (x.2 * b ≤ 1048576)
  | none => false
def sofF : List AC → Option AC
  | [.si .u8 t] => some (.ss (.f1 10 t))
  | _ => none
def envF (Q : Nat → List MV → Prop) (F : List Fc) : Env := ⟨fun ρ => StdF ρ ∧ ∀ f ∈ F, f.holds Q ρ, cmpA2 F, fun y => some (conF F .i64 (.f1 6 y)), cvF F, binF F, fun _ => genF F, fun y => some (conF F .i64 (lenN F y)), dixF F, dldF F, dslF F, dapF, fun y z => some (catN y z), dbigF F, sofF⟩
section
variable {Q : Nat → List MV → Prop} {F : List Fc} {ρ : Vn} {φ : Emb}
theorem fdR_ok : ∀ {F : List Fc} {t : Nm} {x : Int × Int}, (∀ f ∈ F, f.holds Q ρ) → fdR F t = some x → x.1 ≤ ρ.i t ∧ ρ.i t ≤ x.2
  | [], t, x, h, e => by cases e
  | f :: l, t, x, h, e => by
    have ih := fun e' => fdR_ok (F := l) (t := t) (x := x) (fun f hf => h f (List.mem_cons_of_mem _ hf)) e'
    cases f with
    | rng u lo hi =>
      have e' : (bif decide (u = t) then some (lo, hi) else fdR l t) = some x := e
      cases hd : decide (u = t) with
      | true =>
        rw [hd] at e'
        cases e'
        have := h _ List.mem_cons_self
        rw [of_decide_eq_true hd] at this
        exact this
      | false => rw [hd] at e'; exact ih e'
    | _ => exact ih e
theorem fdD_ok : ∀ {F : List Fc} {t u : Nm} {x : Int × Int}, (∀ f ∈ F, f.holds Q ρ) → fdD F t u = some x → x.1 ≤ ρ.i t - ρ.i u ∧ ρ.i t - ρ.i u ≤ x.2
  | [], t, u, x, h, e => by cases e
  | f :: l, t, u, x, h, e => by
    have ih := fun e' => fdD_ok (F := l) (t := t) (u := u) (x := x) (fun f hf => h f (List.mem_cons_of_mem _ hf)) e'
    cases f with
    | dif a b lo hi =>
      have e' : (bif decide (a = t) && decide (b = u) then some (lo, hi) else fdD l t u) = some x := e
      cases hd : (decide (a = t) && decide (b = u)) with
      | true =>
        rw [hd] at e'
        cases e'
        rw [Bool.and_eq_true, decide_eq_true_eq, decide_eq_true_eq] at hd
        obtain ⟨rfl, rfl⟩ := hd
        exact h _ List.mem_cons_self
      | false => rw [hd] at e'; exact ih e'
    | _ => exact ih e
theorem fdB_ok : ∀ {F : List Fc} {t : Nm} {b : Bool}, (∀ f ∈ F, f.holds Q ρ) → fdB F t = some b → ρ.b t = b
  | [], t, b, h, e => by cases e
  | f :: l, t, b, h, e => by
    have ih := fun e' => fdB_ok (F := l) (t := t) (b := b) (fun f hf => h f (List.mem_cons_of_mem _ hf)) e'
    cases f with
    | bv x c =>
      have e' : (bif decide (x = t) then some c else fdB l t) = some b := e
      cases hd : decide (x = t) with
      | true =>
        rw [hd] at e'
        cases e'
        cases of_decide_eq_true hd
        exact h _ List.mem_cons_self
      | false => rw [hd] at e'; exact ih e'
    | _ => exact ih e
theorem fdS_ok : ∀ {F : List Fc} {t u : Nm} {b : Bool}, (∀ f ∈ F, f.holds Q ρ) → fdS F t u = some b → ((ρ.s t).toList == (ρ.s u).toList) = b
  | [], t, u, b, h, e => by cases e
  | f :: l, t, u, b, h, e => by
    have ih := fun e' => fdS_ok (F := l) (t := t) (u := u) (b := b) (fun f hf => h f (List.mem_cons_of_mem _ hf)) e'
    cases f with
    | seq x y c =>
      have e' : (bif decide (x = t) && decide (y = u) then some c else fdS l t u) = some b := e
      cases hd : (decide (x = t) && decide (y = u)) with
      | true =>
        rw [hd] at e'
        cases e'
        rw [Bool.and_eq_true, decide_eq_true_eq, decide_eq_true_eq] at hd
        obtain ⟨rfl, rfl⟩ := hd
        exact h _ List.mem_cons_self
      | false => rw [hd] at e'; exact ih e'
    | _ => exact ih e
theorem fdP_ok : ∀ {F : List Fc} {k : Nat} {ts : List Nm}, (∀ f ∈ F, f.holds Q ρ) → fdP F k ts = true → Q k (ts.map (mv ρ))
  | [], k, ts, h, e => by cases e
  | f :: l, k, ts, h, e => by
    have ih := fun e' => fdP_ok (F := l) (k := k) (ts := ts) (fun f hf => h f (List.mem_cons_of_mem _ hf)) e'
    cases f with
    | pr k' ts' =>
      have e' : (bif Nat.beq k' k && decide (ts' = ts) then true else fdP l k ts) = true := e
      cases hd : (Nat.beq k' k && decide (ts' = ts)) with
      | true =>
        rw [Bool.and_eq_true, decide_eq_true_eq] at hd
        obtain ⟨h1, rfl⟩ := hd
        cases Nat.eq_of_beq_eq_true h1
        exact h _ List.mem_cons_self
      | false => rw [hd] at e'; exact ih e'
    | _ => exact ih e
def bv0 (ρ : Vn) : Option Nm → Int
  | none => 0
  | some t => ρ.i t
theorem linN_ok (hs : StdF ρ) (t : Nm) : ρ.i t = bv0 ρ (linN t).1 + (linN t).2 := by
  unfold linN
  split
  · simp [bv0, hs.num]
  · rename_i f t c
    cases hb : Nat.beq f 1000 with
    | false => simp [bv0]
    | true =>
      cases Nat.eq_of_beq_eq_true hb
      simp [bv0, hs.ex, hs.num]
  · simp [bv0]
theorem mkLin_ok (hs : StdF ρ) (o : Option Nm) (c : Int) : ρ.i (mkLin o c) = bv0 ρ o + c := by
  cases o with
  | none => simp [mkLin, bv0, hs.num]
  | some t =>
    by_cases hc : c = 0
    · subst hc; simp [mkLin, bv0]
    · simp [mkLin, bv0, hc, hs.ex, hs.num]
theorem rngB_ok (h : ∀ f ∈ F, f.holds Q ρ) {o : Option Nm} {x : Int × Int} (e : rngB F o = some x) : x.1 ≤ bv0 ρ o ∧ bv0 ρ o ≤ x.2 := by
  cases o with
  | none => cases e; simp [bv0]
  | some t => exact fdR_ok h e
theorem rngF_ok (hs : StdF ρ) (h : ∀ f ∈ F, f.holds Q ρ) {t : Nm} {x : Int × Int} (e : rngF F t = some x) : x.1 ≤ ρ.i t ∧ ρ.i t ≤ x.2 := by
  unfold rngF at e
  split at e
  · rename_i y hy; cases e; exact fdR_ok h hy
  · split at e
    · rename_i y hy
      cases e
      have := rngB_ok h hy
      rw [linN_ok hs t]
      exact ⟨by dsimp only; omega, by dsimp only; omega⟩
    · cases e
theorem difB_ok (h : ∀ f ∈ F, f.holds Q ρ) {x y : Option Nm} {b : Int × Int} (e : difB F x y = some b) : b.1 ≤ bv0 ρ x - bv0 ρ y ∧ bv0 ρ x - bv0 ρ y ≤ b.2 := by
  unfold difB at e
  split at e
  · rename_i t u
    cases hd : decide (t = u) with
    | true =>
      rw [hd] at e
      cases e
      cases of_decide_eq_true hd
      simp
    | false =>
      rw [hd] at e
      simp only [cond_false] at e
      split at e
      · rename_i b' hb; cases e; exact fdD_ok h hb
      · split at e
        · rename_i b' hb
          cases e
          have := fdD_ok h hb
          simp only [bv0]
          omega
        · split at e
          · rename_i a b' ha hb
            cases e
            have h1 := fdR_ok h ha
            have h2 := fdR_ok h hb
            simp only [bv0]
            omega
          · cases e
  · split at e
    · rename_i a b' ha hb
      cases e
      have h1 := rngB_ok h ha
      have h2 := rngB_ok h hb
      dsimp only
      omega
    · cases e
theorem icmp_sub {op : BinOp} {a b : Int} {r : Bool} (e : icmp op (a - b) 0 = some r) : icmp op a b = some r := by
  have h1 : (a = b) ↔ (a - b = 0) := by omega
  have h2 : (a < b) ↔ (a - b < 0) := by omega
  have h3 : (a ≤ b) ↔ (a - b ≤ 0) := by omega
  have h4 : (b < a) ↔ (0 < a - b) := by omega
  have h5 : (b ≤ a) ↔ (0 ≤ a - b) := by omega
  cases op <;> first | (cases e; done) | (rw [← e]; simp only [icmp, h1, h2, h3, h4, h5])
theorem cmpF_ok (hs : StdF ρ) (h : ∀ f ∈ F, f.holds Q ρ) {op : BinOp} {t u : Nm} {b : Bool} (e : cmpF F op t u = some b) : icmp op (ρ.i t) (ρ.i u) = some b := by
  unfold cmpF at e
  split at e
  · rename_i x hx
    have := difB_ok h hx
    apply icmp_sub
    refine cmpR_ok e ?_ ?_ (Int.le_refl _) (Int.le_refl _)
    · rw [linN_ok hs t, linN_ok hs u]; omega
    · rw [linN_ok hs t, linN_ok hs u]; omega
  · cases e
theorem conF_ok (hs : StdF ρ) (h : ∀ f ∈ F, f.holds Q ρ) (k : IntKind) (t : Nm) : VC ρ φ (conF F k t) (.int k (ρ.i t)) := by
  unfold conF
  split
  · rename_i x hx
    have := rngF_ok hs h hx
    cases hd : decide (x.1 = x.2) with
    | true =>
      have h2 := of_decide_eq_true hd
      show Value.int k (ρ.i t) = .int k x.1
      congr 1; omega
    | false => rfl
  · rfl
theorem in64_ok (hs : StdF ρ) (h : ∀ f ∈ F, f.holds Q ρ) {t : Nm} (e : in64 F t = true) : -9223372036854775808 ≤ ρ.i t ∧ ρ.i t ≤ 9223372036854775807 := by
  unfold in64 at e
  split at e
  · rename_i x hx
    have := rngF_ok hs h hx
    rw [Bool.and_eq_true, decide_eq_true_eq, decide_eq_true_eq] at e
    omega
  · cases e
theorem addN_ok (hs : StdF ρ) (t u : Nm) : ρ.i (addN t u) = ρ.i t + ρ.i u := by
  have h1 := linN_ok hs t
  have h2 := linN_ok hs u
  unfold addN
  split
  · rename_i o h3
    rw [mkLin_ok hs]
    rw [h3] at h2
    simp only [bv0] at h2
    omega
  · rename_i h3 h4
    rw [mkLin_ok hs]
    rw [h3] at h1
    simp only [bv0] at h1
    omega
  · exact hs.ex t u
theorem subN_ok (hs : StdF ρ) {t u z : Nm} (e : subN t u = some z) : ρ.i z = ρ.i t - ρ.i u := by
  have h1 := linN_ok hs t
  have h2 := linN_ok hs u
  unfold subN at e
  split at e
  · rename_i o h3
    cases e
    rw [mkLin_ok hs]
    rw [h3] at h2
    simp only [bv0] at h2
    omega
  · rename_i x y h3 h4
    cases hd : decide (x = y) with
    | false => rw [hd] at e; cases e
    | true =>
      rw [hd] at e
      cases e
      cases of_decide_eq_true hd
      rw [hs.num]
      rw [h3] at h1
      rw [h4] at h2
      simp only [bv0] at h1 h2
      omega
  · cases e
theorem arF_ok (hs : StdF ρ) (h : ∀ f ∈ F, f.holds Q ρ) {c : Nat} {k : IntKind} {t u : Nm} {o : Option Nm} {r : AC} {n : Int} (e : arF F c k t u o = some r) (hk : k = .i64 → ρ.i (.f2 c t u) = IntKind.i64.wrap n) (ho : ∀ z, o = some z → ρ.i z = n) : VC ρ φ r (.int k (k.wrap n)) := by
  unfold arF at e
  cases h64 : isI64 k with
  | false =>
    rw [h64] at e
    simp only [cond_false] at e
    unfold ar8 at e
    split at e
    · rename_i z
      cases hb : in8 F z with
      | false => rw [hb] at e; cases e
      | true =>
        rw [hb] at e
        cases e
        have h2 := ho z rfl
        have h1 : 0 ≤ ρ.i z ∧ ρ.i z ≤ 255 := by
          unfold in8 at hb
          split at hb
          · rename_i x hx
            have hr := rngF_ok hs h hx
            rw [Bool.and_eq_true, decide_eq_true_eq, decide_eq_true_eq] at hb
            omega
          · cases hb
        rw [h2] at h1
        have hw : IntKind.u8.wrap n = n := by
          simp [IntKind.wrap, IntKind.signed, IntKind.bits]
          omega
        rw [hw, ← h2]
        exact conF_ok hs h _ _
    · cases e
  | true =>
    rw [h64] at e
    simp only [cond_true] at e
    have hk' := isI64_eq h64
    subst hk'
    have gen : VC ρ φ (conF F .i64 (.f2 c t u)) (.int .i64 (IntKind.i64.wrap n)) := by
      rw [← hk rfl]; exact conF_ok hs h _ _
    split at e
    · rename_i z
      cases hb : in64 F z with
      | false => rw [hb] at e; cases e; exact gen
      | true =>
        rw [hb] at e
        cases e
        have h1 := in64_ok hs h hb
        have h2 := ho z rfl
        rw [h2] at h1
        rw [IntWalk.i64_in _ (by omega), ← h2]
        exact conF_ok hs h _ _
    · cases e; exact gen
theorem binF_run (hs : StdF ρ) (h : ∀ f ∈ F, f.holds Q ρ) {op : BinOp} {u v r : AC} (e : binF F op u v = some r) {x y : Value} (hx : VC ρ φ u x) (hy : VC ρ φ v y) (P : Program) (t : TypeId) (p q : Operand) (w : World) : ∃ z, (do eqGuard op t p q x y; binOp op t x y : Sem Value).run P w = .ok z w ∧ VC ρ φ r z := by
  unfold binF at e
  split at e
  · rename_i a b ha hb
    cases hk : eqK a.1 b.1 with
    | false => rw [hk] at e; cases e
    | true =>
      rw [hk] at e
      have hkk : a.1 = b.1 := of_decide_eq_true hk
      have e' : binF2 F op a.1 a.2 b.2 = some r := e
      rw [nmI_ok hs.toStdA ha hx, nmI_ok hs.toStdA hb hy, ← hkk]
      have ar : ∀ {c : Nat} {op : BinOp} {n : Int} {o : Option Nm}, arF F c a.1 a.2 b.2 o = some r → slow op a.1 (ρ.i a.2) (ρ.i b.2) = some (.i a.1 (a.1.wrap n)) → (a.1 = .i64 → ρ.i (.f2 c a.2 b.2) = IntKind.i64.wrap n) → (∀ z, o = some z → ρ.i z = n) → ∃ z, (do eqGuard op t p q (.int a.1 (ρ.i a.2)) (.int a.1 (ρ.i b.2)); binOp op t (.int a.1 (ρ.i a.2)) (.int a.1 (ρ.i b.2)) : Sem Value).run P w = .ok z w ∧ VC ρ φ r z := by
        intro c op n o h1 h2 h3 h4
        obtain ⟨z, hz1, hz2⟩ := slow_run (ρ := ρ) (φ := φ) (P := P) (w := w) h2 t p q
        refine ⟨z, hz2, ?_⟩
        rw [show z = _ from hz1]
        exact arF_ok hs h h1 h3 h4
      have cm : ∀ {op : BinOp}, (cmpF F op a.2 b.2).map AC.b = some r → ∃ z, (do eqGuard op t p q (.int a.1 (ρ.i a.2)) (.int a.1 (ρ.i b.2)); binOp op t (.int a.1 (ρ.i a.2)) (.int a.1 (ρ.i b.2)) : Sem Value).run P w = .ok z w ∧ VC ρ φ r z := by
        intro op h1
        obtain ⟨c, h2, rfl⟩ := map_some h1
        obtain ⟨z, hz1, hz2⟩ := slow_run (ρ := ρ) (φ := φ) (P := P) (w := w) (icmp_slow (k := a.1) (cmpF_ok hs h h2)) t p q
        exact ⟨z, hz2, hz1⟩
      unfold binF2 at e'
      split at e'
      · exact ar e' rfl (fun _ => hs.add _ _) fun z hz => by cases hz; exact addN_ok hs _ _
      · exact ar e' rfl (fun _ => hs.sub _ _) fun z hz => subN_ok hs hz
      · exact ar e' rfl (fun _ => hs.mul _ _) fun z hz => by cases hz
      · exact cm e'
  · split at e
    · rename_i a c ha hb
      rw [nmS_ok hs.toStdA ha hx, nmS_ok hs.toStdA hb hy]
      have hr := run_strEq (P := P) (w := w) t p q (ρ.s a) (ρ.s c) false
      cases hd : decide (a = c) with
      | true =>
        rw [hd] at e
        cases e
        cases of_decide_eq_true hd
        exact ⟨.bool true, by simpa using hr, rfl⟩
      | false =>
        rw [hd] at e
        obtain ⟨d, hd2, rfl⟩ := map_some e
        rw [fdS_ok h hd2] at hr
        exact ⟨.bool d, by simpa using hr, rfl⟩
    · rename_i a c ha hb
      rw [nmS_ok hs.toStdA ha hx, nmS_ok hs.toStdA hb hy]
      have hr := run_strEq (P := P) (w := w) t p q (ρ.s a) (ρ.s c) true
      cases hd : decide (a = c) with
      | true =>
        rw [hd] at e
        cases e
        cases of_decide_eq_true hd
        exact ⟨.bool false, by simpa using hr, rfl⟩
      | false =>
        rw [hd] at e
        obtain ⟨d, hd2, rfl⟩ := map_some e
        obtain ⟨d2, hd3, rfl⟩ := map_some hd2
        rw [fdS_ok h hd3] at hr
        exact ⟨.bool !d2, by simpa using hr, rfl⟩
    · cases e
theorem cvF_ok (hs : StdF ρ) (h : ∀ f ∈ F, f.holds Q ρ) {k q : IntKind} {y : Nm} {c : AC} (e : cvF F k q y = some c) : VC ρ φ c (.int k (k.wrap (ρ.i y))) := by
  unfold cvF at e
  split at e
  · rename_i x hx
    have hr := rngF_ok hs h hx
    split at e
    · cases hb : (decide (-9223372036854775808 ≤ x.1) && decide (x.2 ≤ 9223372036854775807)) with
      | false => rw [hb] at e; cases e
      | true =>
        rw [hb] at e
        cases e
        rw [Bool.and_eq_true, decide_eq_true_eq, decide_eq_true_eq] at hb
        rw [IntWalk.i64_in _ (by omega)]
        exact conF_ok hs h _ _
    · cases hb : (decide (0 ≤ x.1) && decide (x.2 ≤ 255)) with
      | false => rw [hb] at e; cases e
      | true =>
        rw [hb] at e
        cases e
        rw [Bool.and_eq_true, decide_eq_true_eq, decide_eq_true_eq] at hb
        have hw : IntKind.u8.wrap (ρ.i y) = ρ.i y := by
          simp [IntKind.wrap, IntKind.signed, IntKind.bits]
          omega
        rw [hw]
        exact conF_ok hs h _ _
    · cases e
  · cases e
theorem adds_run {P : Program} {f : Operand → Value} {t u ty : TypeId} {x y : Operand} {a b : ByteArray} (hx : f x = .string a) (hy : f y = .string b) (ha : a.size ≤ 1000000) (hb : b.size ≤ 1000000) (w : World) : (opR f (.binOp .add t x y u) ty).run P w = .ok (.value (.string (a ++ b))) w := by
  simp [opR, execOp, eqGuard, binOp, hx, hy, Op.stringOp]
  omega
theorem sLe_ok (hs : StdF ρ) (h : ∀ f ∈ F, f.holds Q ρ) {c : AC} {t : Nm} (hm : nmS c = some t) (e : sLe F c = true) : (ρ.s t).size ≤ 1000000 := by
  cases c with
  | s l =>
    cases hm
    rw [hs.lit]
    have := Nat.le_of_ble_eq_true (show Nat.ble l.length 1000000 = true from e)
    have e2 : (ByteArray.mk (l.map UInt8.ofNat).toArray).size = l.length := by
      show ((l.map UInt8.ofNat).toArray).size = _
      rw [List.size_toArray, List.length_map]
    omega
  | ss y =>
    cases hm
    have e' : (match rngF F (.f1 6 t) with | some r => decide (r.2 ≤ 1000000) | none => false) = true := e
    split at e'
    · rename_i r hr
      have h1 := (rngF_ok hs h hr).2
      rw [hs.slen] at h1
      have h2 := of_decide_eq_true e'
      omega
    · cases e'
  | _ => cases hm
theorem genF_ok (hs : StdF ρ) (h : ∀ f ∈ F, f.holds Q ρ) {o : Op} {l : List (Option AV)} {v : AV} (e : genF F o l = some v) (P : Program) (f : Operand → Value) (ty : TypeId) (w : World)
    (hl : All2 (fun (a : Option AV) x => ∀ b, a = some b → VV ρ φ b (f x)) l o.operands.toList) : ∃ u, (opR f o ty).run P w = .ok (.value u) w ∧ VV ρ φ v u := by
  unfold genF at e
  split at e
  · rename_i t x y u a b
    have hl' : All2 (fun (a : Option AV) x => ∀ b, a = some b → VV ρ φ b (f x)) [some (.c a), some (.c b)] [x, y] := hl
    split at e
    · rename_i m n hm hn
      cases hp : (eqK m.1 n.1 && posF F n.2) with
      | false => rw [hp] at e; cases e
      | true =>
        rw [hp] at e
        cases e
        rw [Bool.and_eq_true] at hp
        have hk : m.1 = n.1 := of_decide_eq_true hp.1
        have hp := hp.2
        cases hl' with
        | cons a1 t1 =>
          cases t1 with
          | cons a2 t2 =>
            have e1 : f x = .int m.1 (ρ.i m.2) := nmI_ok hs.toStdA hm (a1 _ rfl)
            have e2 : f y = .int m.1 (ρ.i n.2) := by rw [hk]; exact nmI_ok hs.toStdA hn (a2 _ rfl)
            have hpos : 1 ≤ ρ.i n.2 := by
              unfold posF at hp
              split at hp
              · rename_i z hz
                exact Int.le_trans (of_decide_eq_true hp) (rngF_ok hs h hz).1
              · cases hp
            refine ⟨_, rem_run e1 e2 (by omega) w, ?_⟩
            have := conF_ok (φ := φ) hs h m.1 (.f2 3 m.2 n.2)
            rw [hs.rem] at this
            exact this
    · cases e
  · rename_i t x y u a b
    have hl' : All2 (fun (a : Option AV) x => ∀ b, a = some b → VV ρ φ b (f x)) [some (.c a), some (.c b)] [x, y] := hl
    split at e
    · rename_i m n hm hn
      cases hb : (sLe F a && sLe F b) with
      | false => rw [hb] at e; cases e
      | true =>
        rw [hb] at e
        cases e
        rw [Bool.and_eq_true] at hb
        cases hl' with
        | cons a1 t1 =>
          cases t1 with
          | cons a2 t2 =>
            refine ⟨_, adds_run (nmS_ok hs.toStdA hm (a1 _ rfl)) (nmS_ok hs.toStdA hn (a2 _ rfl)) (sLe_ok hs h hm hb.1) (sLe_ok hs h hn hb.2) w, ?_⟩
            show Value.string _ = .string (ρ.s _)
            rw [hs.scat]
    · cases e
  · cases e
theorem dldF_ok (hs : StdF ρ) (h : ∀ f ∈ F, f.holds Q ρ) {sh : Sh} {y t : Nm} {o : Nat} {c : AC} (e : dldF F sh y t o = some c) {row : List DV} {vs : List Value} (hr : (ρ.d y)[(ρ.i t).toNat]? = some row) (hv : RowD φ.z sh row vs) : ∃ v, vs[o]? = some v ∧ VC ρ φ c v := by
  unfold dldF at e
  cases hb : Nat.blt o 900 with
  | false => rw [hb] at e; cases e
  | true =>
    rw [hb] at e
    have ho : o < 900 := Nat.le_of_ble_eq_true hb
    have cell : ∀ {x : DV}, row[o]? = some x → cellD (ρ.d y) (ρ.i t) o = some x := fun hx => by simp [cellD, hr, hx]
    simp only [cond_true] at e
    split at e
    · rename_i k hk
      cases e
      obtain ⟨x, v, h1, h2, n, rfl, rfl⟩ := row_at hk hv
      refine ⟨_, h2, ?_⟩
      have := conF_ok (φ := φ) hs h k (.f2 (100 + o) y t)
      rw [hs.ci o y t ho, cell h1] at this
      exact this
    · rename_i hk
      obtain ⟨x, v, h1, h2, n, rfl, rfl⟩ := row_at hk hv
      have hbv : ρ.b (.f2 (100 + o) y t) = n := by rw [hs.cb o y t ho, cell h1]; rfl
      split at e
      · rename_i b hfb
        cases e
        refine ⟨_, h2, ?_⟩
        have := fdB_ok h hfb
        show Value.bool n = .bool b
        rw [← hbv]; exact congrArg _ this
      · cases e
        exact ⟨_, h2, by show Value.bool n = .bool (ρ.b (.f2 (100 + o) y t)); rw [hbv]⟩
    · rename_i hk
      cases e
      obtain ⟨x, v, h1, h2, n, rfl, rfl⟩ := row_at hk hv
      exact ⟨_, h2, by show Value.string n = .string (ρ.s (.f2 (100 + o) y t)); rw [hs.cs o y t ho, cell h1]; rfl⟩
    · rename_i el hk
      cases e
      obtain ⟨x, v, h1, h2, n, rfl, h3⟩ := row_at hk hv
      exact ⟨_, h2, by show SlD φ.z el (ρ.d (.f2 (100 + o) y t)) v; rw [hs.cd o y t ho, cell h1]; exact h3⟩
    · cases e
theorem isRow_ok (hs : StdF ρ) {t : Nm} (e : isRow t = true) : (ρ.d t).length = 1 := by
  unfold isRow at e
  split at e
  · rename_i f c r
    simp only [Bool.or_eq_true] at e
    rcases e with ((e | e) | e) | e <;> cases Nat.eq_of_beq_eq_true e
    · rw [hs.rci]; rfl
    · rw [hs.rcs]; rfl
    · rw [hs.rcb]; rfl
    · rw [hs.rcd]; rfl
  · rename_i f r
    rw [Bool.and_eq_true, decide_eq_true_eq] at e
    cases Nat.eq_of_beq_eq_true e.1
    rw [e.2, hs.rnil]; rfl
  · cases e
theorem lenN_ok (hs : StdF ρ) (h : ∀ f ∈ F, f.holds Q ρ) : ∀ t : Nm, ρ.i (lenN F t) = ((ρ.d t).length : Int)
  | .f2 f a b => by
    have ih := lenN_ok hs h a
    unfold lenN
    cases h1 : (Nat.beq f 1403 && isRow b) with
    | true =>
      rw [Bool.and_eq_true] at h1
      cases Nat.eq_of_beq_eq_true h1.1
      simp only [cond_true]
      rw [mkLin_ok hs, hs.cat, List.length_append, isRow_ok hs h1.2]
      have := linN_ok hs (lenN F a)
      omega
    | false =>
      simp only [cond_false]
      cases h2 : (Nat.beq f 1401 && (match cmpF F .leq (.num 0) b, cmpF F .leq b (lenN F a) with | some true, some true => true | _, _ => false)) with
      | true =>
        simp only [cond_true]
        rw [Bool.and_eq_true] at h2
        obtain ⟨hb, h2⟩ := h2
        cases Nat.eq_of_beq_eq_true hb
        split at h2
        · rename_i g2 g3
          have k1 := cmpF_ok hs h g2
          have k2 := cmpF_ok hs h g3
          rw [hs.num] at k1
          rw [ih] at k2
          simp only [icmp, Option.some.injEq, decide_eq_true_eq] at k1 k2
          rw [hs.take, List.length_take]
          omega
        · cases h2
      | false =>
        simp only [cond_false]
        cases h3 : (Nat.beq f 1404 && (match cmpF F .leq (.num 0) b, cmpF F .lss b (lenN F a) with | some true, some true => true | _, _ => false)) with
        | true =>
          simp only [cond_true]
          rw [Bool.and_eq_true] at h3
          obtain ⟨hb, h3⟩ := h3
          cases Nat.eq_of_beq_eq_true hb
          split at h3
          · rename_i g2 g3
            have k1 := cmpF_ok hs h g2
            have k2 := cmpF_ok hs h g3
            rw [hs.num] at k1
            rw [ih] at k2
            simp only [icmp, Option.some.injEq, decide_eq_true_eq] at k1 k2
            rw [mkLin_ok hs, hs.del, List.length_eraseIdx, if_pos (by omega)]
            have := linN_ok hs (lenN F a)
            omega
          · cases h3
        | false => simp only [cond_false]; exact hs.dlen _
  | .f1 f a => by
    unfold lenN
    cases h1 : (Nat.beq f 7 && decide (a = .num 0)) with
    | true =>
      rw [Bool.and_eq_true, decide_eq_true_eq] at h1
      obtain ⟨h2, rfl⟩ := h1
      cases Nat.eq_of_beq_eq_true h2
      have := hs.nil
      unfold nmNil at this
      simp only [cond_true]
      rw [hs.num, show (Nm.f1 7 (.num 0)) = Nm.f1 7 (.num (.ofNat 0)) from rfl, this]; rfl
    | false => simp only [cond_false]; exact hs.dlen _
  | .v n => hs.dlen _
  | .lit l => hs.dlen _
  | .num n => hs.dlen _
theorem dixF_ok (hs : StdF ρ) (h : ∀ f ∈ F, f.holds Q ρ) {y t : Nm} {c : AC} (e : dixF F y c = some t) {v : Value} (hv : VC ρ φ c v) : ∃ k n, v = .int k (Int.ofNat n) ∧ n < (ρ.d y).length ∧ ρ.i t = Int.ofNat n := by
  unfold dixF at e
  split at e
  · rename_i x hx
    split at e
    · rename_i h1 h2
      cases e
      have h3 := cmpF_ok hs h h1
      have h4 := cmpF_ok hs h h2
      rw [hs.num] at h3
      rw [lenN_ok hs h] at h4
      simp only [icmp, Option.some.injEq, decide_eq_true_eq] at h3 h4
      obtain ⟨n, hn⟩ := Int.eq_ofNat_of_zero_le h3
      exact ⟨x.1, n, by rw [nmI_ok hs.toStdA hx hv, hn]; rfl, by omega, hn⟩
    · cases e
  · cases e
theorem zeroO_ok {o : Option AC} (e : zeroO o = true) : BndOk ρ φ o 0 0 := by
  unfold zeroO at e
  split at e
  · rfl
  · rename_i k n
    cases of_decide_eq_true e
    intro v hv
    exact ⟨k, hv⟩
  · cases e
theorem dslF_ok (hs : StdF ρ) (h : ∀ f ∈ F, f.holds Q ρ) {y t : Nm} {lo hi : Option AC} (e : dslF F y lo hi = some t) (φ : Emb) : ∃ l u, BndOk ρ φ lo 0 l ∧ BndOk ρ φ hi (ρ.d y).length u ∧ l ≤ u ∧ u ≤ (ρ.d y).length ∧ ρ.d t = ((ρ.d y).drop l).take (u - l) := by
  unfold dslF at e
  cases hz : zeroO lo with
  | false => rw [hz] at e; cases e
  | true =>
    rw [hz] at e
    simp only [cond_true] at e
    have h0 := zeroO_ok (ρ := ρ) (φ := φ) hz
    split at e
    · cases e
      exact ⟨0, (ρ.d y).length, h0, rfl, Nat.zero_le _, Nat.le_refl _, by simp⟩
    · rename_i c
      split at e
      · rename_i x hx
        have bnd : ∀ {n : Nat}, ρ.i x.2 = n → BndOk ρ φ (some c) (ρ.d y).length n := fun hn v hv => ⟨x.1, by rw [nmI_ok hs.toStdA hx hv, hn]; rfl⟩
        cases hd : decide (x.2 = lenN F y) with
        | true =>
          rw [hd] at e
          cases e
          have := of_decide_eq_true hd
          exact ⟨0, (ρ.d y).length, h0, bnd (by rw [this, lenN_ok hs h]), Nat.zero_le _, Nat.le_refl _, by simp⟩
        | false =>
          rw [hd] at e
          simp only [cond_false] at e
          cases hd2 : decide (x.2 = .num 0) with
          | true =>
            rw [hd2] at e
            cases e
            exact ⟨0, 0, h0, bnd (by rw [of_decide_eq_true hd2, hs.num]; rfl), Nat.le_refl _, Nat.zero_le _, by simp [hs.nil]⟩
          | false =>
            rw [hd2] at e
            simp only [cond_false] at e
            split at e
            · rename_i h1 h2
              cases e
              have h3 := cmpF_ok hs h h1
              have h4 := cmpF_ok hs h h2
              rw [hs.num] at h3
              rw [lenN_ok hs h] at h4
              simp only [icmp, Option.some.injEq, decide_eq_true_eq] at h3 h4
              obtain ⟨n, hn⟩ := Int.eq_ofNat_of_zero_le h3
              exact ⟨0, n, h0, bnd hn, Nat.zero_le _, by omega, by rw [hs.take, hn]; simp⟩
            · cases e
      · cases e
theorem eqK_eq {k k' : IntKind} (e : eqK k k' = true) : k = k' := of_decide_eq_true e
theorem rowNm_ok (hs : StdF ρ) : ∀ {e : Sh} {cs : List AC} {t : Nm} {vs : List Value}, rowNm e cs = some t → All2 (VC ρ φ) cs vs → ∃ row, ρ.d t = [row] ∧ RowD φ.z e row vs
  | .nil, [], t, vs, h, a => by cases h; cases a; exact ⟨[], hs.rnil, rfl, rfl⟩
  | .nil, c :: l, t, vs, h, a => by cases h
  | .i k e, [], t, vs, h, a => by cases h
  | .s e, [], t, vs, h, a => by cases h
  | .b e, [], t, vs, h, a => by cases h
  | .sl d e, [], t, vs, h, a => by cases h
  | .i k e, c :: l, t, vs, h, a => by
    cases a with
    | cons a1 a2 =>
      rename_i v vs
      simp only [rowNm] at h
      split at h
      · rename_i x hx
        cases hk : eqK x.1 k with
        | false => rw [hk] at h; cases h
        | true =>
          rw [hk] at h
          obtain ⟨r, hr, rfl⟩ := map_some (show (rowNm e l).map (.f2 1410 x.2) = some t from h)
          obtain ⟨row, h1, h2⟩ := rowNm_ok hs hr a2
          refine ⟨_, by rw [hs.rci, h1]; rfl, _, _, _, rfl, ?_, h2⟩
          rw [nmI_ok hs.toStdA hx a1, eqK_eq hk]
      · cases h
  | .s e, c :: l, t, vs, h, a => by
    cases a with
    | cons a1 a2 =>
      rename_i v vs
      simp only [rowNm] at h
      split at h
      · rename_i x hx
        obtain ⟨r, hr, rfl⟩ := map_some h
        obtain ⟨row, h1, h2⟩ := rowNm_ok hs hr a2
        exact ⟨_, by rw [hs.rcs, h1]; rfl, _, _, _, rfl, by rw [nmS_ok hs.toStdA hx a1], h2⟩
      · cases h
  | .b e, c :: l, t, vs, h, a => by
    cases a with
    | cons a1 a2 =>
      rename_i v vs
      cases c <;> first | (cases h; done) | skip
      · rename_i x
        obtain ⟨r, hr, rfl⟩ := map_some (show (rowNm e l).map (.f2 1412 (.f1 9 (.num (bif x then 1 else 0)))) = some t from h)
        obtain ⟨row, h1, h2⟩ := rowNm_ok hs hr a2
        refine ⟨_, by rw [hs.rcb, h1]; rfl, _, _, _, rfl, ?_, h2⟩
        rw [show v = .bool x from a1, hs.bt]
        cases x <;> rfl
      · rename_i x
        obtain ⟨r, hr, rfl⟩ := map_some (show (rowNm e l).map (.f2 1412 x) = some t from h)
        obtain ⟨row, h1, h2⟩ := rowNm_ok hs hr a2
        exact ⟨_, by rw [hs.rcb, h1]; rfl, _, _, _, rfl, by rw [show v = .bool _ from a1], h2⟩
  | .sl d e, c :: l, t, vs, h, a => by
    cases a with
    | cons a1 a2 =>
      rename_i v vs
      cases c <;> first | (cases h; done) | skip
      · obtain ⟨r, hr, rfl⟩ := map_some (show (rowNm e l).map (.f2 1413 nmNil) = some t from h)
        obtain ⟨row, h1, h2⟩ := rowNm_ok hs hr a2
        refine ⟨_, by rw [hs.rcd, h1]; rfl, _, _, _, _, rfl, rfl, ?_, h2⟩
        rw [hs.nil]
        exact ⟨none, 0, a1, Nat.le_refl _, .inl rfl⟩
      · rename_i d' x
        simp only [rowNm] at h
        cases hd : decide (d' = d) with
        | false => rw [hd] at h; cases h
        | true =>
          rw [hd] at h
          cases of_decide_eq_true hd
          obtain ⟨r, hr, rfl⟩ := map_some (show (rowNm e l).map (.f2 1413 x) = some t from h)
          obtain ⟨row, h1, h2⟩ := rowNm_ok hs hr a2
          exact ⟨_, by rw [hs.rcd, h1]; rfl, _, _, _, _, rfl, rfl, a1, h2⟩
      · rename_i d' x
        simp only [rowNm] at h
        cases hd : decide (d' = d) with
        | false => rw [hd] at h; cases h
        | true =>
          rw [hd] at h
          cases of_decide_eq_true hd
          obtain ⟨r, hr, rfl⟩ := map_some (show (rowNm e l).map (.f2 1413 x) = some t from h)
          obtain ⟨row, h1, h2⟩ := rowNm_ok hs hr a2
          exact ⟨_, by rw [hs.rcd, h1]; rfl, _, _, _, _, rfl, rfl, a1.1, h2⟩
theorem dapF_ok (hs : StdF ρ) {e : Sh} {y t : Nm} {cs : List AC} (h : dapF e y cs = some t) (φ : Emb) {vs : List Value} (hv : All2 (VC ρ φ) cs vs) : ∃ rows, ρ.d t = ρ.d y ++ rows ∧ rows.length * e.len = vs.length ∧ ∀ (i : Nat) row, rows[i]? = some row → RowD φ.z e row ((vs.drop (i * e.len)).take e.len) := by
  obtain ⟨r, hr, rfl⟩ := map_some h
  obtain ⟨row, h1, h2⟩ := rowNm_ok hs hr hv
  have hl := RowD.len h2
  refine ⟨[row], by rw [hs.cat, h1], by simp [hl], fun i q hq => ?_⟩
  cases i with
  | zero =>
    simp at hq
    subst hq
    rw [Nat.zero_mul, List.drop_zero, List.take_of_length_le (by omega)]
    exact h2
  | succ i => simp at hq
theorem catN_ok (hs : StdF ρ) (y z : Nm) : ρ.d (catN y z) = ρ.d y ++ ρ.d z := by
  unfold catN
  cases hd : decide (y = nmNil) with
  | true => rw [of_decide_eq_true hd, hs.nil]; rfl
  | false => exact hs.cat y z
theorem dbigF_ok (hs : StdF ρ) (h : ∀ f ∈ F, f.holds Q ρ) {t : Nm} {b : Nat} (e : dbigF F t b = true) : (ρ.d t).length ≤ 1048576 ∧ (ρ.d t).length * b ≤ 1048576 := by
  unfold dbigF at e
  split at e
  · rename_i x hx
    have h1 := (rngF_ok hs h hx).2
    rw [lenN_ok hs h] at h1
    rw [Bool.and_eq_true, decide_eq_true_eq, decide_eq_true_eq] at e
    refine ⟨by omega, ?_⟩
    have h2 : ((ρ.d t).length : Int) * b ≤ x.2 * b := Int.mul_le_mul_of_nonneg_right h1 (by omega)
    have h3 : (((ρ.d t).length * b : Nat) : Int) ≤ 1048576 := by
      rw [Int.natCast_mul]; omega
    omega
  · cases e
theorem sofF_ok (hs : StdF ρ) {l : List AC} {c : AC} (e : sofF l = some c) {vs : List Value} (hv : All2 (VC ρ φ) l vs) : ∃ xs : List Int, vs = xs.map (Value.int .u8) ∧ VC ρ φ c (.string (strOfNums xs)) := by
  unfold sofF at e
  split at e
  · cases e
    cases hv with
    | cons a1 a2 =>
      cases a2
      rename_i t v
      refine ⟨[ρ.i t], ?_, ?_⟩
      · rw [show v = .int .u8 (ρ.i t) from a1]; rfl
      · show Value.string _ = .string (ρ.s (.f1 10 t))
        rw [hs.byt]
  · cases e
theorem envF_ok (hs : StdF ρ) (h : ∀ f ∈ F, f.holds Q ρ) : EnvOk (envF Q F) ρ where
  prop := ⟨hs, h⟩
  cmp := fun op u v b e φ x y hx hy P t p q w => by
    have e' : cmpA2 F op u v = some b := e
    unfold cmpA2 at e'
    split at e'
    · rename_i c hc
      cases e'
      obtain ⟨z, h1, h2⟩ := binF_run hs h hc hx hy P t p q w
      rw [h1, show z = .bool b from h2]
    · cases e'
  bin := fun op u v r e φ x y hx hy P t p q w => binF_run hs h e hx hy P t p q w
  len := fun y c e φ => by
    cases e
    have := conF_ok (φ := φ) hs h .i64 (.f1 6 y)
    rw [hs.slen] at this
    exact this
  cv := fun k q y c e φ => cvF_ok (q := q) hs h e
  gen := fun P o l v e φ f ty w hl => genF_ok hs h e P f ty w hl
  dlen := fun y c e φ => by
    cases e
    have := conF_ok (φ := φ) hs h .i64 (lenN F y)
    rw [lenN_ok hs h] at this
    exact this
  dix := fun y c t e φ v hv => dixF_ok hs h e hv
  dld := fun sh y t p c e φ row vs hr hv => dldF_ok hs h e hr hv
  dsl := fun y lo hi t e φ => dslF_ok hs h e φ
  dap := fun e y cs t h' φ vs hv => dapF_ok hs h' φ hv
  dcat := fun y y' t e => by cases e; exact ⟨hs.nil, catN_ok hs y y'⟩
  dbig := fun t b e => dbigF_ok hs h e
  sof := fun l c e φ vs hv => sofF_ok hs e hv
end
def fxF (fx : Nat → MV → MV → MV) (f : Nat) (a b : MV) : MV :=
  if f = 1000 then { i := a.i + b.i } else if f = 1401 then { d := a.d.take b.i.toNat } else if f = 1402 then { d := a.d.drop b.i.toNat } else if f = 1403 then { d := a.d ++ b.d } else if f = 1404 then { d := a.d.eraseIdx b.i.toNat } else
  if f = 10 then { s := strOfNums [a.i] } else if f = 1430 then { s := a.s ++ b.s } else if f = 7 then {} else if f = 8 then { d := [[]] } else if f = 9 then { b := decide (a.i ≠ 0) } else
  if f = 1410 then { d := [DV.i a.i :: b.d.headD []] } else if f = 1411 then { d := [DV.s a.s :: b.d.headD []] } else if f = 1412 then { d := [DV.b a.b :: b.d.headD []] } else if f = 1413 then { d := [DV.sl a.d :: b.d.headD []] } else fx f a b
def vnF (base : Nat → MV) (fx : Nat → MV → MV → MV) (g : Nm → Value) (z : Nat → Option Obj) : Vn := vnA base (fxF fx) g z
theorem vnF_std (base : Nat → MV) (fx : Nat → MV → MV → MV) (g : Nm → Value) (z : Nat → Option Obj) : StdF (vnF base fx g z) where
  toStdA := vnA_std base (fxF fx) g z
  ex := fun a b => by simp [vnF, vnA, mval, fxF]
  take := fun a b => by simp [vnF, vnA, mval, fxF]
  drop := fun a b => by simp [vnF, vnA, mval, fxF]
  cat := fun a b => by simp [vnF, vnA, mval, fxF]
  del := fun a b => by simp [vnF, vnA, mval, fxF]
  nil := by simp [vnF, vnA, mval, fxF, nmNil]
  rnil := by simp [vnF, vnA, mval, fxF]
  rci := fun a b => by simp [vnF, vnA, mval, fxF]
  rcs := fun a b => by simp [vnF, vnA, mval, fxF]
  rcb := fun a b => by simp [vnF, vnA, mval, fxF]
  rcd := fun a b => by simp [vnF, vnA, mval, fxF]
  byt := fun a => rfl
  scat := fun a b => by simp [vnF, vnA, mval, fxF]
  bt := fun n => by
    have h : (mval base (fxF fx) (.f1 9 (.num n))).b = decide (n ≠ 0) := rfl
    exact h
end Go.Proofs.YtjnfgapfhpihmaaGreat
end
