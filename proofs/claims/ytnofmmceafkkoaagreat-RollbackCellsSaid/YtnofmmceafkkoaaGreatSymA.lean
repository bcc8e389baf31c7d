/-
  A verified evaluator: numbers, strings and frozen slices that are only named: terms are built, and what has to be decided is looked up among facts. No function of the program is named here.
-/
import Derived.Test.YtnofmmceafkkoaaGreatEvG
set_option linter.unusedVariables false
set_option linter.unusedSimpArgs false
namespace Go.Proofs.YtnofmmceafkkoaaGreat
open Go.RowKit
def cellD (l : List (List DV)) (i : Int) (o : Nat) : Option DV := (l[i.toNat]?).bind fun r => r[o]?
def dvI : Option DV → Int
  | some (.i n) => n
  | _ => 0
def dvS : Option DV → ByteArray
  | some (.s y) => y
  | _ => ⟨#[]⟩
def dvB : Option DV → Bool
  | some (.b x) => x
  | _ => false
def dvD : Option DV → List (List DV)
  | some (.sl l) => l
  | _ => []
structure StdA (ρ : Vn) : Prop where
  num : ∀ n, ρ.i (.num n) = n
  lit : ∀ l, ρ.s (.lit l) = ⟨(l.map UInt8.ofNat).toArray⟩
  add : ∀ a b, ρ.i (.f2 0 a b) = IntKind.i64.wrap (ρ.i a + ρ.i b)
  sub : ∀ a b, ρ.i (.f2 1 a b) = IntKind.i64.wrap (ρ.i a - ρ.i b)
  mul : ∀ a b, ρ.i (.f2 2 a b) = IntKind.i64.wrap (ρ.i a * ρ.i b)
  rem : ∀ a b, ρ.i (.f2 3 a b) = (ρ.i a).tmod (ρ.i b)
  dlen : ∀ y, ρ.i (.f1 5 y) = ((ρ.d y).length : Int)
  slen : ∀ y, ρ.i (.f1 6 y) = ((ρ.s y).size : Int)
  ci : ∀ o y t, o < 900 → ρ.i (.f2 (100 + o) y t) = dvI (cellD (ρ.d y) (ρ.i t) o)
  cs : ∀ o y t, o < 900 → ρ.s (.f2 (100 + o) y t) = dvS (cellD (ρ.d y) (ρ.i t) o)
  cb : ∀ o y t, o < 900 → ρ.b (.f2 (100 + o) y t) = dvB (cellD (ρ.d y) (ρ.i t) o)
  cd : ∀ o y t, o < 900 → ρ.d (.f2 (100 + o) y t) = dvD (cellD (ρ.d y) (ρ.i t) o)
inductive Fact where
  | rng (t : Nm) (lo hi : Int)
  | cmp (op : BinOp) (t u : Nm) (b : Bool)
  | bv (t : Nm) (b : Bool)
  | seq (t u : Nm) (b : Bool)
def icmp (op : BinOp) (a b : Int) : Option Bool := match op with
  | .eql => some (decide (a = b))
  | .neq => some (!decide (a = b))
  | .lss => some (decide (a < b))
  | .leq => some (decide (a ≤ b))
  | .gtr => some (decide (b < a))
  | .geq => some (decide (b ≤ a))
  | _ => none
def Fact.holds (ρ : Vn) : Fact → Prop
  | .rng t lo hi => lo ≤ ρ.i t ∧ ρ.i t ≤ hi
  | .cmp op t u b => icmp op (ρ.i t) (ρ.i u) = some b
  | .bv t b => ρ.b t = b
  | .seq t u b => ((ρ.s t).toList == (ρ.s u).toList) = b
def cmpR (op : BinOp) (a b c d : Int) : Option Bool := match op with
  | .lss => bif decide (b < c) then some true else bif decide (d ≤ a) then some false else none
  | .leq => bif decide (b ≤ c) then some true else bif decide (d < a) then some false else none
  | .gtr => bif decide (d < a) then some true else bif decide (b ≤ c) then some false else none
  | .geq => bif decide (d ≤ a) then some true else bif decide (b < c) then some false else none
  | .eql => bif decide (b < c) || decide (d < a) then some false else bif decide (a = b) && decide (c = d) && decide (a = c) then some true else none
  | .neq => bif decide (b < c) || decide (d < a) then some true else bif decide (a = b) && decide (c = d) && decide (a = c) then some false else none
  | _ => none
def nmI : AC → Option (IntKind × Nm)
  | .i k n => some (k, .num n)
  | .si k t => some (k, t)
  | _ => none
def nmS : AC → Option Nm
  | .s l => some (.lit l)
  | .ss t => some t
  | _ => none
inductive Srt where
  | b | i (k : IntKind) | s | sl (e : Sh)
def Sh.at : Sh → Nat → Option Srt
  | .nil, _ => none
  | .b _, 0 => some .b
  | .b t, n + 1 => t.at n
  | .i k _, 0 => some (.i k)
  | .i _ t, n + 1 => t.at n
  | .s _, 0 => some .s
  | .s t, n + 1 => t.at n
  | .sl e _, 0 => some (.sl e)
  | .sl _ t, n + 1 => t.at n
section
variable {F : List Fact} {ρ : Vn} {φ : Emb}
theorem cmpR_ok {op : BinOp} {a b c d x y : Int} {r : Bool} (e : cmpR op a b c d = some r) (h1 : a ≤ x) (h2 : x ≤ b) (h3 : c ≤ y) (h4 : y ≤ d) : icmp op x y = some r := by
  cases op <;> first | (cases e; done) | skip
  all_goals
    simp only [cmpR, cond_eq_ite, decide_eq_true_eq, Bool.or_eq_true, Bool.and_eq_true] at e
    simp only [icmp, Option.some.injEq]
    repeat' split at e
    all_goals first | (cases e; done) | (cases e; simp; omega)
theorem icmp_slow {op : BinOp} {k : IntKind} {a b : Int} {r : Bool} (e : icmp op a b = some r) : slow op k a b = some (.b r) := by
  cases op <;> first | (cases e; done) | (cases e; rfl)
theorem nmI_ok (hs : StdA ρ) {c : AC} {x : IntKind × Nm} {v : Value} (e : nmI c = some x) (hv : VC ρ φ c v) : v = .int x.1 (ρ.i x.2) := by
  cases c <;> first | (cases e; done) | skip
  · cases e; rw [show v = _ from hv]; simp [hs.num]
  · cases e; exact hv
theorem nmS_ok (hs : StdA ρ) {c : AC} {x : Nm} {v : Value} (e : nmS c = some x) (hv : VC ρ φ c v) : v = .string (ρ.s x) := by
  cases c <;> first | (cases e; done) | skip
  · cases e
    obtain ⟨y, rfl, rfl⟩ := hv
    rw [hs.lit, ofNat_toNat8]
  · cases e; exact hv
theorem row_at {z : Nat → Option Obj} : ∀ {sh : Sh} {o : Nat} {q : Srt} {row : List DV} {vs : List Value}, sh.at o = some q → RowD z sh row vs → ∃ x v, row[o]? = some x ∧ vs[o]? = some v ∧ match q with
    | .b => ∃ c, x = .b c ∧ v = .bool c
    | .i k => ∃ n, x = .i n ∧ v = .int k n
    | .s => ∃ y, x = .s y ∧ v = .string y
    | .sl e => ∃ rows, x = .sl rows ∧ SlD z e rows v
  | .nil, o, q, row, vs, e, h => by cases e
  | .b t, 0, q, row, vs, e, h => by
    cases e; obtain ⟨x, l', vs', rfl, rfl, _⟩ := h; exact ⟨_, _, rfl, rfl, _, rfl, rfl⟩
  | .b t, n + 1, q, row, vs, e, h => by
    obtain ⟨x, l', vs', rfl, rfl, h'⟩ := h; exact row_at (sh := t) (o := n) e h'
  | .i k t, 0, q, row, vs, e, h => by
    cases e; obtain ⟨x, l', vs', rfl, rfl, _⟩ := h; exact ⟨_, _, rfl, rfl, _, rfl, rfl⟩
  | .i k t, n + 1, q, row, vs, e, h => by
    obtain ⟨x, l', vs', rfl, rfl, h'⟩ := h; exact row_at (sh := t) (o := n) e h'
  | .s t, 0, q, row, vs, e, h => by
    cases e; obtain ⟨x, l', vs', rfl, rfl, _⟩ := h; exact ⟨_, _, rfl, rfl, _, rfl, rfl⟩
  | .s t, n + 1, q, row, vs, e, h => by
    obtain ⟨x, l', vs', rfl, rfl, h'⟩ := h; exact row_at (sh := t) (o := n) e h'
  | .sl d t, 0, q, row, vs, e, h => by
    cases e; obtain ⟨x, v, l', vs', rfl, rfl, h1, _⟩ := h; exact ⟨_, _, rfl, rfl, _, rfl, h1⟩
  | .sl d t, n + 1, q, row, vs, e, h => by
    obtain ⟨x, v, l', vs', rfl, rfl, _, h'⟩ := h; exact row_at (sh := t) (o := n) e h'
end
structure MV where
  i : Int := 0
  s : ByteArray := ⟨#[]⟩
  b : Bool := false
  d : List (List DV) := []
def cellM (x : Option DV) : MV := ⟨dvI x, dvS x, dvB x, dvD x⟩
def mval (base : Nat → MV) (fx : Nat → MV → MV → MV) : Nm → MV
  | .v n => base n
  | .num n => { i := n }
  | .lit l => { s := ⟨(l.map UInt8.ofNat).toArray⟩ }
  | .f1 f a => if f = 5 then { i := ((mval base fx a).d.length : Int) } else if f = 6 then { i := ((mval base fx a).s.size : Int) } else fx f (mval base fx a) {}
  | .f2 f a b => if f = 0 then { i := IntKind.i64.wrap ((mval base fx a).i + (mval base fx b).i) } else if f = 1 then { i := IntKind.i64.wrap ((mval base fx a).i - (mval base fx b).i) } else if f = 2 then { i := IntKind.i64.wrap ((mval base fx a).i * (mval base fx b).i) } else if f = 3 then { i := (mval base fx a).i.tmod (mval base fx b).i } else
    if 100 ≤ f ∧ f < 1000 then cellM (cellD (mval base fx a).d (mval base fx b).i (f - 100)) else fx f (mval base fx a) (mval base fx b)
def vnA (base : Nat → MV) (fx : Nat → MV → MV → MV) (g : Nm → Value) (z : Nat → Option Obj) : Vn := ⟨fun t => (mval base fx t).i, fun t => (mval base fx t).s, fun t => (mval base fx t).b, fun t => (mval base fx t).d, g, z⟩
theorem vnA_std (base : Nat → MV) (fx : Nat → MV → MV → MV) (g : Nm → Value) (z : Nat → Option Obj) : StdA (vnA base fx g z) where
  num := fun n => rfl
  lit := fun l => rfl
  add := fun a b => rfl
  sub := fun a b => rfl
  mul := fun a b => rfl
  rem := fun a b => rfl
  dlen := fun y => rfl
  slen := fun y => rfl
  ci := fun o y t ho => by
    show (mval base fx (.f2 (100 + o) y t)).i = _
    have h1 : ¬(100 + o = 0) := by omega
    have h2 : ¬(100 + o = 1) := by omega
    have h3 : ¬(100 + o = 2) := by omega
    have h4 : ¬(100 + o = 3) := by omega
    have h5 : 100 ≤ 100 + o ∧ 100 + o < 1000 := by omega
    simp only [mval, h1, h2, h3, h4, h5, if_false, if_true, and_self, Nat.add_sub_cancel_left]
    rfl
  cs := fun o y t ho => by
    show (mval base fx (.f2 (100 + o) y t)).s = _
    have h1 : ¬(100 + o = 0) := by omega
    have h2 : ¬(100 + o = 1) := by omega
    have h3 : ¬(100 + o = 2) := by omega
    have h4 : ¬(100 + o = 3) := by omega
    have h5 : 100 ≤ 100 + o ∧ 100 + o < 1000 := by omega
    simp only [mval, h1, h2, h3, h4, h5, if_false, if_true, and_self, Nat.add_sub_cancel_left]
    rfl
  cb := fun o y t ho => by
    show (mval base fx (.f2 (100 + o) y t)).b = _
    have h1 : ¬(100 + o = 0) := by omega
    have h2 : ¬(100 + o = 1) := by omega
    have h3 : ¬(100 + o = 2) := by omega
    have h4 : ¬(100 + o = 3) := by omega
    have h5 : 100 ≤ 100 + o ∧ 100 + o < 1000 := by omega
    simp only [mval, h1, h2, h3, h4, h5, if_false, if_true, and_self, Nat.add_sub_cancel_left]
    rfl
  cd := fun o y t ho => by
    show (mval base fx (.f2 (100 + o) y t)).d = _
    have h1 : ¬(100 + o = 0) := by omega
    have h2 : ¬(100 + o = 1) := by omega
    have h3 : ¬(100 + o = 2) := by omega
    have h4 : ¬(100 + o = 3) := by omega
    have h5 : 100 ≤ 100 + o ∧ 100 + o < 1000 := by omega
    simp only [mval, h1, h2, h3, h4, h5, if_false, if_true, and_self, Nat.add_sub_cancel_left]
    rfl
end Go.Proofs.YtnofmmceafkkoaaGreat
