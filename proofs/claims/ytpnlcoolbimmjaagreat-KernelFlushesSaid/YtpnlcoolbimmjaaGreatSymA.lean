/-
  A verified evaluator: numbers, strings and frozen slices that are only named: terms are built, and what has to be decided is looked up among facts. No function of the program is named here.
-/
import Derived.Test.YtpnlcoolbimmjaaGreatEvG
set_option linter.unusedVariables false
namespace Go.Proofs.YtpnlcoolbimmjaaGreat
open Go.RowKit
def cellD (l : List (List DV)) (i : Int) (o : Nat) : Option DV := (l[i.toNat]?).bind fun r => r[o]?
def dvI : Option DV → Int
  | some (.i n) => n
  | _ => 0
def dvS : Option DV → ByteArray
  | some (.s y) => y
  | _ => ⟨#[]⟩
def dvB : Option DV → Bool
  | some (.b x) => x
  | _ => false
def dvD : Option DV → List (List DV)
  | some (.sl l) => l
  | _ => []
/-- the terms mean what they say -/
structure StdA (ρ : Vn) : Prop where
  num : ∀ n, ρ.i (.num n) = n
  lit : ∀ l, ρ.s (.lit l) = ⟨(l.map UInt8.ofNat).toArray⟩
  add : ∀ a b, ρ.i (.f2 0 a b) = IntKind.i64.wrap (ρ.i a + ρ.i b)
  sub : ∀ a b, ρ.i (.f2 1 a b) = IntKind.i64.wrap (ρ.i a - ρ.i b)
  mul : ∀ a b, ρ.i (.f2 2 a b) = IntKind.i64.wrap (ρ.i a * ρ.i b)
  rem : ∀ a b, ρ.i (.f2 3 a b) = (ρ.i a).tmod (ρ.i b)
  dlen : ∀ y, ρ.i (.f1 5 y) = ((ρ.d y).length : Int)
  slen : ∀ y, ρ.i (.f1 6 y) = ((ρ.s y).size : Int)
  ci : ∀ o y t, o < 900 → ρ.i (.f2 (100 + o) y t) = dvI (cellD (ρ.d y) (ρ.i t) o)
  cs : ∀ o y t, o < 900 → ρ.s (.f2 (100 + o) y t) = dvS (cellD (ρ.d y) (ρ.i t) o)
  cb : ∀ o y t, o < 900 → ρ.b (.f2 (100 + o) y t) = dvB (cellD (ρ.d y) (ρ.i t) o)
  cd : ∀ o y t, o < 900 → ρ.d (.f2 (100 + o) y t) = dvD (cellD (ρ.d y) (ρ.i t) o)
/-- what is known -/
inductive Fact where
  | rng (t : Nm) (lo hi : Int)
  | cmp (op : BinOp) (t u : Nm) (b : Bool)
  | bv (t : Nm) (b : Bool)
  | seq (t u : Nm) (b : Bool)
def icmp (op : BinOp) (a b : Int) : Option Bool := match op with
  | .eql => some (decide (a = b))
  | .neq => some (!decide (a = b))
  | .lss => some (decide (a < b))
  | .leq => some (decide (a ≤ b))
  | .gtr => some (decide (b < a))
  | .geq => some (decide (b ≤ a))
  | _ => none
def Fact.holds (ρ : Vn) : Fact → Prop
  | .rng t lo hi => lo ≤ ρ.i t ∧ ρ.i t ≤ hi
  | .cmp op t u b => icmp op (ρ.i t) (ρ.i u) = some b
  | .bv t b => ρ.b t = b
  | .seq t u b => ((ρ.s t).toList == (ρ.s u).toList) = b
def findR (F : List Fact) (t : Nm) : Option (Int × Int) := match F with
  | [] => none
  | .rng u lo hi :: l => bif decide (u = t) then some (lo, hi) else findR l t
  | _ :: l => findR l t
def rngOf (F : List Fact) (t : Nm) : Option (Int × Int) := match t with
  | .num n => some (n, n)
  | t => findR F t
def findC (F : List Fact) (op : BinOp) (t u : Nm) : Option Bool := match F with
  | [] => none
  | .cmp o x y b :: l => bif decide (o = op) && decide (x = t) && decide (y = u) then some b else findC l op t u
  | _ :: l => findC l op t u
def findB (F : List Fact) (t : Nm) : Option Bool := match F with
  | [] => none
  | .bv u b :: l => bif decide (u = t) then some b else findB l t
  | _ :: l => findB l t
def findS (F : List Fact) (t u : Nm) : Option Bool := match F with
  | [] => none
  | .seq x y b :: l => bif decide (x = t) && decide (y = u) then some b else findS l t u
  | _ :: l => findS l t u
def cmpR (op : BinOp) (a b c d : Int) : Option Bool := match op with
  | .lss => bif decide (b < c) then some true else bif decide (d ≤ a) then some false else none
  | .leq => bif decide (b ≤ c) then some true else bif decide (d < a) then some false else none
  | .gtr => bif decide (d < a) then some true else bif decide (b ≤ c) then some false else none
  | .geq => bif decide (d ≤ a) then some true else bif decide (b < c) then some false else none
  | .eql => bif decide (b < c) || decide (d < a) then some false else bif decide (a = b) && decide (c = d) && decide (a = c) then some true else none
  | .neq => bif decide (b < c) || decide (d < a) then some true else bif decide (a = b) && decide (c = d) && decide (a = c) then some false else none
  | _ => none
def cmpOf (F : List Fact) (op : BinOp) (t u : Nm) : Option Bool := match findC F op t u with
  | some b => some b
  | none => match rngOf F t, rngOf F u with
    | some x, some y => cmpR op x.1 x.2 y.1 y.2
    | _, _ => none
def nmI : AC → Option (IntKind × Nm)
  | .i k n => some (k, .num n)
  | .si k t => some (k, t)
  | _ => none
def nmS : AC → Option Nm
  | .s l => some (.lit l)
  | .ss t => some t
  | _ => none
/-- a number that is known is written so -/
def conI (F : List Fact) (k : IntKind) (t : Nm) : AC := match rngOf F t with
  | some x => bif decide (x.1 = x.2) then .i k x.1 else .si k t
  | none => .si k t
def arithA (F : List Fact) (c : Nat) (k : IntKind) (t u : Nm) : Option AC := bif isI64 k then some (conI F k (.f2 c t u)) else none
def binA2 (F : List Fact) (op : BinOp) (k : IntKind) (t u : Nm) : Option AC := match op with
  | .add => arithA F 0 k t u
  | .sub => arithA F 1 k t u
  | .mul => arithA F 2 k t u
  | op => (cmpOf F op t u).map AC.b
def binA (F : List Fact) (op : BinOp) (u v : AC) : Option AC := match nmI u, nmI v with
  | some x, some y => bif eqK x.1 y.1 then binA2 F op x.1 x.2 y.2 else none
  | _, _ => none
def cmpA (F : List Fact) (op : BinOp) (u v : AC) : Option Bool := match nmI u, nmI v with
  | some x, some y => bif eqK x.1 y.1 then cmpOf F op x.2 y.2 else none
  | _, _ => match op, nmS u, nmS v with
    | .eql, some x, some y => findS F x y
    | .neq, some x, some y => (findS F x y).map Bool.not
    | _, _, _ => none
def cvA (F : List Fact) (k q : IntKind) (y : Nm) : Option AC := match rngOf F y with
  | some x => match k with
    | .i64 => bif decide (-9223372036854775808 ≤ x.1) && decide (x.2 ≤ 9223372036854775807) then some (conI F k y) else none
    | .u8 => bif decide (0 ≤ x.1) && decide (x.2 ≤ 255) then some (conI F k y) else none
    | _ => none
  | none => none
def posA (F : List Fact) (t : Nm) : Bool := match rngOf F t with
  | some x => decide (1 ≤ x.1)
  | none => false
def genA (F : List Fact) (o : Op) (l : List (Option AV)) : Option AV := match o, l with
  | .binOp .rem _ _ _ _, [some (.c u), some (.c v)] => match nmI u, nmI v with
    | some x, some y => bif eqK x.1 y.1 && posA F y.2 then some (.c (conI F x.1 (.f2 3 x.2 y.2))) else none
    | _, _ => none
  | _, _ => none
inductive Srt where
  | b | i (k : IntKind) | s | sl (e : Sh)
def Sh.at : Sh → Nat → Option Srt
  | .nil, _ => none
  | .b _, 0 => some .b
  | .b t, n + 1 => t.at n
  | .i k _, 0 => some (.i k)
  | .i _ t, n + 1 => t.at n
  | .s _, 0 => some .s
  | .s t, n + 1 => t.at n
  | .sl e _, 0 => some (.sl e)
  | .sl _ t, n + 1 => t.at n
def dldA (F : List Fact) (sh : Sh) (y t : Nm) (o : Nat) : Option AC := bif Nat.blt o 900 then (match sh.at o with
  | some (.i k) => some (conI F k (.f2 (Nat.add 100 o) y t))
  | some .b => match findB F (.f2 (Nat.add 100 o) y t) with
    | some b => some (.b b)
    | none => some (.sb (.f2 (Nat.add 100 o) y t))
  | some .s => some (.ss (.f2 (Nat.add 100 o) y t))
  | some (.sl e) => some (.ds e (.f2 (Nat.add 100 o) y t))
  | none => none) else none
def dixA (F : List Fact) (y : Nm) (c : AC) : Option Nm := match nmI c with
  | some x => match cmpOf F .leq (.num 0) x.2, cmpOf F .lss x.2 (.f1 5 y) with
    | some true, some true => some x.2
    | _, _ => none
  | none => none
def envA (F : List Fact) : Env := ⟨fun ρ => StdA ρ ∧ ∀ f ∈ F, f.holds ρ, cmpA F, fun y => some (conI F .i64 (.f1 6 y)), cvA F, binA F, genA F, fun y => some (conI F .i64 (.f1 5 y)), dixA F, dldA F⟩
section
variable {F : List Fact} {ρ : Vn} {φ : Emb}
theorem findR_ok : ∀ {F : List Fact} {t : Nm} {x : Int × Int}, (∀ f ∈ F, f.holds ρ) → findR F t = some x → x.1 ≤ ρ.i t ∧ ρ.i t ≤ x.2
  | [], t, x, h, e => by cases e
  | f :: l, t, x, h, e => by
    have ih := fun e' => findR_ok (F := l) (t := t) (x := x) (fun f hf => h f (List.mem_cons_of_mem _ hf)) e'
    cases f with
    | rng u lo hi =>
      have e' : (bif decide (u = t) then some (lo, hi) else findR l t) = some x := e
      cases hd : decide (u = t) with
      | true =>
        rw [hd] at e'
        cases e'
        have := h _ List.mem_cons_self
        rw [of_decide_eq_true hd] at this
        exact this
      | false => rw [hd] at e'; exact ih e'
    | _ => exact ih e
theorem rngOf_ok (hs : StdA ρ) (h : ∀ f ∈ F, f.holds ρ) {t : Nm} {x : Int × Int} (e : rngOf F t = some x) : x.1 ≤ ρ.i t ∧ ρ.i t ≤ x.2 := by
  unfold rngOf at e
  split at e
  · cases e; rw [hs.num]; exact ⟨Int.le_refl _, Int.le_refl _⟩
  · exact findR_ok h e
theorem findC_ok : ∀ {F : List Fact} {op : BinOp} {t u : Nm} {b : Bool}, (∀ f ∈ F, f.holds ρ) → findC F op t u = some b → icmp op (ρ.i t) (ρ.i u) = some b
  | [], op, t, u, b, h, e => by cases e
  | f :: l, op, t, u, b, h, e => by
    have ih := fun e' => findC_ok (F := l) (op := op) (t := t) (u := u) (b := b) (fun f hf => h f (List.mem_cons_of_mem _ hf)) e'
    cases f with
    | cmp o x y c =>
      have e' : (bif decide (o = op) && decide (x = t) && decide (y = u) then some c else findC l op t u) = some b := e
      cases hd : (decide (o = op) && decide (x = t) && decide (y = u)) with
      | true =>
        rw [hd] at e'
        cases e'
        rw [Bool.and_eq_true, Bool.and_eq_true, decide_eq_true_eq, decide_eq_true_eq, decide_eq_true_eq] at hd
        obtain ⟨⟨rfl, rfl⟩, rfl⟩ := hd
        exact h _ List.mem_cons_self
      | false => rw [hd] at e'; exact ih e'
    | _ => exact ih e
theorem findB_ok : ∀ {F : List Fact} {t : Nm} {b : Bool}, (∀ f ∈ F, f.holds ρ) → findB F t = some b → ρ.b t = b
  | [], t, b, h, e => by cases e
  | f :: l, t, b, h, e => by
    have ih := fun e' => findB_ok (F := l) (t := t) (b := b) (fun f hf => h f (List.mem_cons_of_mem _ hf)) e'
    cases f with
    | bv x c =>
      have e' : (bif decide (x = t) then some c else findB l t) = some b := e
      cases hd : decide (x = t) with
      | true =>
        rw [hd] at e'
        cases e'
        cases of_decide_eq_true hd
        exact h _ List.mem_cons_self
      | false => rw [hd] at e'; exact ih e'
    | _ => exact ih e
theorem findS_ok : ∀ {F : List Fact} {t u : Nm} {b : Bool}, (∀ f ∈ F, f.holds ρ) → findS F t u = some b → ((ρ.s t).toList == (ρ.s u).toList) = b
  | [], t, u, b, h, e => by cases e
  | f :: l, t, u, b, h, e => by
    have ih := fun e' => findS_ok (F := l) (t := t) (u := u) (b := b) (fun f hf => h f (List.mem_cons_of_mem _ hf)) e'
    cases f with
    | seq x y c =>
      have e' : (bif decide (x = t) && decide (y = u) then some c else findS l t u) = some b := e
      cases hd : (decide (x = t) && decide (y = u)) with
      | true =>
        rw [hd] at e'
        cases e'
        rw [Bool.and_eq_true, decide_eq_true_eq, decide_eq_true_eq] at hd
        obtain ⟨rfl, rfl⟩ := hd
        exact h _ List.mem_cons_self
      | false => rw [hd] at e'; exact ih e'
    | _ => exact ih e
theorem cmpR_ok {op : BinOp} {a b c d x y : Int} {r : Bool} (e : cmpR op a b c d = some r) (h1 : a ≤ x) (h2 : x ≤ b) (h3 : c ≤ y) (h4 : y ≤ d) : icmp op x y = some r := by
  cases op <;> first | (cases e; done) | skip
  all_goals
    simp only [cmpR, cond_eq_ite, decide_eq_true_eq, Bool.or_eq_true, Bool.and_eq_true] at e
    simp only [icmp, Option.some.injEq]
    repeat' split at e
    all_goals first | (cases e; done) | (cases e; simp; omega)
theorem cmpOf_ok (hs : StdA ρ) (h : ∀ f ∈ F, f.holds ρ) {op : BinOp} {t u : Nm} {b : Bool} (e : cmpOf F op t u = some b) : icmp op (ρ.i t) (ρ.i u) = some b := by
  unfold cmpOf at e
  split at e
  · rename_i c hc; cases e; exact findC_ok h hc
  · split at e
    · rename_i x y hx hy
      have h1 := rngOf_ok hs h hx
      have h2 := rngOf_ok hs h hy
      exact cmpR_ok e h1.1 h1.2 h2.1 h2.2
    · cases e
theorem icmp_slow {op : BinOp} {k : IntKind} {a b : Int} {r : Bool} (e : icmp op a b = some r) : slow op k a b = some (.b r) := by
  cases op <;> first | (cases e; done) | (cases e; rfl)
theorem nmI_ok (hs : StdA ρ) {c : AC} {x : IntKind × Nm} {v : Value} (e : nmI c = some x) (hv : VC ρ φ c v) : v = .int x.1 (ρ.i x.2) := by
  cases c <;> first | (cases e; done) | skip
  · cases e; rw [show v = _ from hv]; simp [hs.num]
  · cases e; exact hv
theorem nmS_ok (hs : StdA ρ) {c : AC} {x : Nm} {v : Value} (e : nmS c = some x) (hv : VC ρ φ c v) : v = .string (ρ.s x) := by
  cases c <;> first | (cases e; done) | skip
  · cases e
    obtain ⟨y, rfl, rfl⟩ := hv
    rw [hs.lit, ofNat_toNat8]
  · cases e; exact hv
theorem conI_ok (hs : StdA ρ) (h : ∀ f ∈ F, f.holds ρ) (k : IntKind) (t : Nm) : VC ρ φ (conI F k t) (.int k (ρ.i t)) := by
  unfold conI
  split
  · rename_i x hx
    have := rngOf_ok hs h hx
    cases hd : decide (x.1 = x.2) with
    | true =>
      have h2 := of_decide_eq_true hd
      show Value.int k (ρ.i t) = .int k x.1
      congr 1; omega
    | false => rfl
  · rfl
theorem binA_run (hs : StdA ρ) (h : ∀ f ∈ F, f.holds ρ) {op : BinOp} {u v r : AC} (e : binA F op u v = some r) {x y : Value} (hx : VC ρ φ u x) (hy : VC ρ φ v y) (P : Program) (t : TypeId) (p q : Operand) (w : World) : ∃ z, (do eqGuard op t p q x y; binOp op t x y : Sem Value).run P w = .ok z w ∧ VC ρ φ r z := by
  unfold binA at e
  split at e
  · rename_i a b ha hb
    cases hk : eqK a.1 b.1 with
    | false => rw [hk] at e; cases e
    | true =>
      rw [hk] at e
      have hkk : a.1 = b.1 := of_decide_eq_true hk
      have e' : binA2 F op a.1 a.2 b.2 = some r := e
      rw [nmI_ok hs ha hx, nmI_ok hs hb hy, ← hkk]
      have ar : ∀ {c : Nat} {op : BinOp} {n : Int}, arithA F c a.1 a.2 b.2 = some r → slow op a.1 (ρ.i a.2) (ρ.i b.2) = some (.i a.1 n) → (a.1 = .i64 → ρ.i (.f2 c a.2 b.2) = n) → ∃ z, (do eqGuard op t p q (.int a.1 (ρ.i a.2)) (.int a.1 (ρ.i b.2)); binOp op t (.int a.1 (ρ.i a.2)) (.int a.1 (ρ.i b.2)) : Sem Value).run P w = .ok z w ∧ VC ρ φ r z := by
        intro c op n h1 h2 h3
        unfold arithA at h1
        cases h64 : isI64 a.1 with
        | false => rw [h64] at h1; cases h1
        | true =>
          rw [h64] at h1
          cases h1
          obtain ⟨z, hz1, hz2⟩ := slow_run (ρ := ρ) (φ := φ) (P := P) (w := w) h2 t p q
          refine ⟨z, hz2, ?_⟩
          rw [show z = _ from hz1, ← h3 (isI64_eq h64)]
          exact conI_ok hs h _ _
      have cm : ∀ {op : BinOp}, (cmpOf F op a.2 b.2).map AC.b = some r → ∃ z, (do eqGuard op t p q (.int a.1 (ρ.i a.2)) (.int a.1 (ρ.i b.2)); binOp op t (.int a.1 (ρ.i a.2)) (.int a.1 (ρ.i b.2)) : Sem Value).run P w = .ok z w ∧ VC ρ φ r z := by
        intro op h1
        obtain ⟨c, h2, rfl⟩ := map_some h1
        obtain ⟨z, hz1, hz2⟩ := slow_run (ρ := ρ) (φ := φ) (P := P) (w := w) (icmp_slow (k := a.1) (cmpOf_ok hs h h2)) t p q
        exact ⟨z, hz2, hz1⟩
      unfold binA2 at e'
      split at e'
      · exact ar e' rfl fun hk => by rw [hs.add, hk]
      · exact ar e' rfl fun hk => by rw [hs.sub, hk]
      · exact ar e' rfl fun hk => by rw [hs.mul, hk]
      · exact cm e'
  · cases e
theorem cmpA_run (hs : StdA ρ) (h : ∀ f ∈ F, f.holds ρ) {op : BinOp} {u v : AC} {b : Bool} (e : cmpA F op u v = some b) {x y : Value} (hx : VC ρ φ u x) (hy : VC ρ φ v y) (P : Program) (t : TypeId) (p q : Operand) (w : World) : (do eqGuard op t p q x y; binOp op t x y : Sem Value).run P w = .ok (.bool b) w := by
  unfold cmpA at e
  split at e
  · rename_i a c ha hb
    cases hk : eqK a.1 c.1 with
    | false => rw [hk] at e; cases e
    | true =>
      rw [hk] at e
      have hkk : a.1 = c.1 := of_decide_eq_true hk
      rw [nmI_ok hs ha hx, nmI_ok hs hb hy, ← hkk]
      obtain ⟨z, hz1, hz2⟩ := slow_run (ρ := ρ) (φ := φ) (P := P) (w := w) (icmp_slow (k := a.1) (cmpOf_ok hs h e)) t p q
      rw [hz2, show z = _ from hz1]
  · split at e
    · rename_i a c ha hb
      rw [nmS_ok hs ha hx, nmS_ok hs hb hy]
      have := run_strEq (P := P) (w := w) t p q (ρ.s a) (ρ.s c) false
      rw [findS_ok h e] at this
      simpa using this
    · rename_i a c ha hb
      rw [nmS_ok hs ha hx, nmS_ok hs hb hy]
      obtain ⟨d, hd, rfl⟩ := map_some e
      have := run_strEq (P := P) (w := w) t p q (ρ.s a) (ρ.s c) true
      rw [findS_ok h hd] at this
      simpa using this
    · cases e
theorem cvA_ok (hs : StdA ρ) (h : ∀ f ∈ F, f.holds ρ) {k q : IntKind} {y : Nm} {c : AC} (e : cvA F k q y = some c) : VC ρ φ c (.int k (k.wrap (ρ.i y))) := by
  unfold cvA at e
  split at e
  · rename_i x hx
    have hr := rngOf_ok hs h hx
    split at e
    · cases hb : (decide (-9223372036854775808 ≤ x.1) && decide (x.2 ≤ 9223372036854775807)) with
      | false => rw [hb] at e; cases e
      | true =>
        rw [hb] at e
        cases e
        rw [Bool.and_eq_true, decide_eq_true_eq, decide_eq_true_eq] at hb
        rw [IntWalk.i64_in _ (by omega)]
        exact conI_ok hs h _ _
    · cases hb : (decide (0 ≤ x.1) && decide (x.2 ≤ 255)) with
      | false => rw [hb] at e; cases e
      | true =>
        rw [hb] at e
        cases e
        rw [Bool.and_eq_true, decide_eq_true_eq, decide_eq_true_eq] at hb
        have hw : IntKind.u8.wrap (ρ.i y) = ρ.i y := by
          simp [IntKind.wrap, IntKind.signed, IntKind.bits]
          omega
        rw [hw]
        exact conI_ok hs h _ _
    · cases e
  · cases e
theorem genA_ok (hs : StdA ρ) (h : ∀ f ∈ F, f.holds ρ) {o : Op} {l : List (Option AV)} {v : AV} (e : genA F o l = some v) (P : Program) (f : Operand → Value) (ty : TypeId) (w : World)
    (hl : All2 (fun (a : Option AV) x => ∀ b, a = some b → VV ρ φ b (f x)) l o.operands.toList) : ∃ u, (opR f o ty).run P w = .ok (.value u) w ∧ VV ρ φ v u := by
  unfold genA at e
  split at e
  · rename_i t x y u a b
    have hl' : All2 (fun (a : Option AV) x => ∀ b, a = some b → VV ρ φ b (f x)) [some (.c a), some (.c b)] [x, y] := hl
    split at e
    · rename_i m n hm hn
      cases hp : (eqK m.1 n.1 && posA F n.2) with
      | false => rw [hp] at e; cases e
      | true =>
        rw [hp] at e
        cases e
        rw [Bool.and_eq_true] at hp
        have hk : m.1 = n.1 := of_decide_eq_true hp.1
        have hp := hp.2
        cases hl' with
        | cons a1 t1 =>
          cases t1 with
          | cons a2 t2 =>
            have e1 : f x = .int m.1 (ρ.i m.2) := nmI_ok hs hm (a1 _ rfl)
            have e2 : f y = .int m.1 (ρ.i n.2) := by rw [hk]; exact nmI_ok hs hn (a2 _ rfl)
            have hpos : 1 ≤ ρ.i n.2 := by
              unfold posA at hp
              split at hp
              · rename_i z hz
                exact Int.le_trans (of_decide_eq_true hp) (rngOf_ok hs h hz).1
              · cases hp
            refine ⟨_, rem_run e1 e2 (by omega) w, ?_⟩
            have := conI_ok (φ := φ) hs h m.1 (.f2 3 m.2 n.2)
            rw [hs.rem] at this
            exact this
    · cases e
  · cases e
/-- a cell of an element, by its sort -/
theorem row_at {z : Nat → Option Obj} : ∀ {sh : Sh} {o : Nat} {q : Srt} {row : List DV} {vs : List Value}, sh.at o = some q → RowD z sh row vs → ∃ x v, row[o]? = some x ∧ vs[o]? = some v ∧ match q with
    | .b => ∃ c, x = .b c ∧ v = .bool c
    | .i k => ∃ n, x = .i n ∧ v = .int k n
    | .s => ∃ y, x = .s y ∧ v = .string y
    | .sl e => ∃ rows, x = .sl rows ∧ SlD z e rows v
  | .nil, o, q, row, vs, e, h => by cases e
  | .b t, 0, q, row, vs, e, h => by
    cases e; obtain ⟨x, l', vs', rfl, rfl, _⟩ := h; exact ⟨_, _, rfl, rfl, _, rfl, rfl⟩
  | .b t, n + 1, q, row, vs, e, h => by
    obtain ⟨x, l', vs', rfl, rfl, h'⟩ := h; exact row_at (sh := t) (o := n) e h'
  | .i k t, 0, q, row, vs, e, h => by
    cases e; obtain ⟨x, l', vs', rfl, rfl, _⟩ := h; exact ⟨_, _, rfl, rfl, _, rfl, rfl⟩
  | .i k t, n + 1, q, row, vs, e, h => by
    obtain ⟨x, l', vs', rfl, rfl, h'⟩ := h; exact row_at (sh := t) (o := n) e h'
  | .s t, 0, q, row, vs, e, h => by
    cases e; obtain ⟨x, l', vs', rfl, rfl, _⟩ := h; exact ⟨_, _, rfl, rfl, _, rfl, rfl⟩
  | .s t, n + 1, q, row, vs, e, h => by
    obtain ⟨x, l', vs', rfl, rfl, h'⟩ := h; exact row_at (sh := t) (o := n) e h'
  | .sl d t, 0, q, row, vs, e, h => by
    cases e; obtain ⟨x, v, l', vs', rfl, rfl, h1, _⟩ := h; exact ⟨_, _, rfl, rfl, _, rfl, h1⟩
  | .sl d t, n + 1, q, row, vs, e, h => by
    obtain ⟨x, v, l', vs', rfl, rfl, _, h'⟩ := h; exact row_at (sh := t) (o := n) e h'
theorem dldA_ok (hs : StdA ρ) (h : ∀ f ∈ F, f.holds ρ) {sh : Sh} {y t : Nm} {o : Nat} {c : AC} (e : dldA F sh y t o = some c) {row : List DV} {vs : List Value} (hr : (ρ.d y)[(ρ.i t).toNat]? = some row) (hv : RowD ρ.z sh row vs) : ∃ v, vs[o]? = some v ∧ VC ρ φ c v := by
  unfold dldA at e
  cases hb : Nat.blt o 900 with
  | false => rw [hb] at e; cases e
  | true =>
    rw [hb] at e
    have ho : o < 900 := Nat.le_of_ble_eq_true hb
    have cell : ∀ {x : DV}, row[o]? = some x → cellD (ρ.d y) (ρ.i t) o = some x := fun hx => by simp [cellD, hr, hx]
    simp only [cond_true] at e
    split at e
    · rename_i k hk
      cases e
      obtain ⟨x, v, h1, h2, n, rfl, rfl⟩ := row_at hk hv
      refine ⟨_, h2, ?_⟩
      have := conI_ok (φ := φ) hs h k (.f2 (100 + o) y t)
      rw [hs.ci o y t ho, cell h1] at this
      exact this
    · rename_i hk
      obtain ⟨x, v, h1, h2, n, rfl, rfl⟩ := row_at hk hv
      have hbv : ρ.b (.f2 (100 + o) y t) = n := by rw [hs.cb o y t ho, cell h1]; rfl
      split at e
      · rename_i b hfb
        cases e
        refine ⟨_, h2, ?_⟩
        have := findB_ok h hfb
        show Value.bool n = .bool b
        rw [← hbv]; exact congrArg _ this
      · cases e
        exact ⟨_, h2, by show Value.bool n = .bool (ρ.b (.f2 (100 + o) y t)); rw [hbv]⟩
    · rename_i hk
      cases e
      obtain ⟨x, v, h1, h2, n, rfl, rfl⟩ := row_at hk hv
      exact ⟨_, h2, by show Value.string n = .string (ρ.s (.f2 (100 + o) y t)); rw [hs.cs o y t ho, cell h1]; rfl⟩
    · rename_i el hk
      cases e
      obtain ⟨x, v, h1, h2, n, rfl, h3⟩ := row_at hk hv
      exact ⟨_, h2, by show SlD ρ.z el (ρ.d (.f2 (100 + o) y t)) v; rw [hs.cd o y t ho, cell h1]; exact h3⟩
    · cases e
theorem dixA_ok (hs : StdA ρ) (h : ∀ f ∈ F, f.holds ρ) {y t : Nm} {c : AC} (e : dixA F y c = some t) {v : Value} (hv : VC ρ φ c v) : ∃ k n, v = .int k (Int.ofNat n) ∧ n < (ρ.d y).length ∧ ρ.i t = Int.ofNat n := by
  unfold dixA at e
  split at e
  · rename_i x hx
    split at e
    · rename_i h1 h2
      cases e
      have h3 := cmpOf_ok hs h h1
      have h4 := cmpOf_ok hs h h2
      rw [hs.num] at h3
      rw [hs.dlen] at h4
      simp only [icmp, Option.some.injEq, decide_eq_true_eq] at h3 h4
      obtain ⟨n, hn⟩ := Int.eq_ofNat_of_zero_le h3
      exact ⟨x.1, n, by rw [nmI_ok hs hx hv, hn]; rfl, by omega, hn⟩
    · cases e
  · cases e
theorem envA_ok (hs : StdA ρ) (h : ∀ f ∈ F, f.holds ρ) : EnvOk (envA F) ρ where
  prop := ⟨hs, h⟩
  cmp := fun op u v b e φ x y hx hy P t p q w => cmpA_run hs h e hx hy P t p q w
  bin := fun op u v r e φ x y hx hy P t p q w => binA_run hs h e hx hy P t p q w
  len := fun y c e φ => by
    cases e
    have := conI_ok (φ := φ) hs h .i64 (.f1 6 y)
    rw [hs.slen] at this
    exact this
  cv := fun k q y c e φ => cvA_ok (q := q) hs h e
  gen := fun o l v e P φ f ty w hl => genA_ok hs h e P f ty w hl
  dlen := fun y c e φ => by
    cases e
    have := conI_ok (φ := φ) hs h .i64 (.f1 5 y)
    rw [hs.dlen] at this
    exact this
  dix := fun y c t e φ v hv => dixA_ok hs h e hv
  dld := fun sh y t p c e φ row vs hr hv => dldA_ok hs h e hr hv
end
/-- what a name means, of each sort -/
structure MV where
  i : Int := 0
  s : ByteArray := ⟨#[]⟩
  b : Bool := false
  d : List (List DV) := []
def cellM (x : Option DV) : MV := ⟨dvI x, dvS x, dvB x, dvD x⟩
/-- names mean this; fx: functions that are not ours -/
def mval (base : Nat → MV) (fx : Nat → MV → MV → MV) : Nm → MV
  | .v n => base n
  | .num n => { i := n }
  | .lit l => { s := ⟨(l.map UInt8.ofNat).toArray⟩ }
  | .f1 f a => if f = 5 then { i := ((mval base fx a).d.length : Int) } else if f = 6 then { i := ((mval base fx a).s.size : Int) } else fx f (mval base fx a) {}
  | .f2 f a b => if f = 0 then { i := IntKind.i64.wrap ((mval base fx a).i + (mval base fx b).i) } else if f = 1 then { i := IntKind.i64.wrap ((mval base fx a).i - (mval base fx b).i) } else if f = 2 then { i := IntKind.i64.wrap ((mval base fx a).i * (mval base fx b).i) } else if f = 3 then { i := (mval base fx a).i.tmod (mval base fx b).i } else
    if 100 ≤ f ∧ f < 1000 then cellM (cellD (mval base fx a).d (mval base fx b).i (f - 100)) else fx f (mval base fx a) (mval base fx b)
def vnA (base : Nat → MV) (fx : Nat → MV → MV → MV) (g : Nm → Value) (z : Nat → Option Obj) : Vn := ⟨fun t => (mval base fx t).i, fun t => (mval base fx t).s, fun t => (mval base fx t).b, fun t => (mval base fx t).d, g, z⟩
theorem vnA_std (base : Nat → MV) (fx : Nat → MV → MV → MV) (g : Nm → Value) (z : Nat → Option Obj) : StdA (vnA base fx g z) where
  num := fun n => rfl
  lit := fun l => rfl
  add := fun a b => rfl
  sub := fun a b => rfl
  mul := fun a b => rfl
  rem := fun a b => rfl
  dlen := fun y => rfl
  slen := fun y => rfl
  ci := fun o y t ho => by
    show (mval base fx (.f2 (100 + o) y t)).i = _
    have h1 : ¬(100 + o = 0) := by omega
    have h2 : ¬(100 + o = 1) := by omega
    have h3 : ¬(100 + o = 2) := by omega
    have h4 : ¬(100 + o = 3) := by omega
    have h5 : 100 ≤ 100 + o ∧ 100 + o < 1000 := by omega
    simp only [mval, h1, h2, h3, h4, h5, if_false, if_true, and_self, Nat.add_sub_cancel_left]
    rfl
  cs := fun o y t ho => by
    show (mval base fx (.f2 (100 + o) y t)).s = _
    have h1 : ¬(100 + o = 0) := by omega
    have h2 : ¬(100 + o = 1) := by omega
    have h3 : ¬(100 + o = 2) := by omega
    have h4 : ¬(100 + o = 3) := by omega
    have h5 : 100 ≤ 100 + o ∧ 100 + o < 1000 := by omega
    simp only [mval, h1, h2, h3, h4, h5, if_false, if_true, and_self, Nat.add_sub_cancel_left]
    rfl
  cb := fun o y t ho => by
    show (mval base fx (.f2 (100 + o) y t)).b = _
    have h1 : ¬(100 + o = 0) := by omega
    have h2 : ¬(100 + o = 1) := by omega
    have h3 : ¬(100 + o = 2) := by omega
    have h4 : ¬(100 + o = 3) := by omega
    have h5 : 100 ≤ 100 + o ∧ 100 + o < 1000 := by omega
    simp only [mval, h1, h2, h3, h4, h5, if_false, if_true, and_self, Nat.add_sub_cancel_left]
    rfl
  cd := fun o y t ho => by
    show (mval base fx (.f2 (100 + o) y t)).d = _
    have h1 : ¬(100 + o = 0) := by omega
    have h2 : ¬(100 + o = 1) := by omega
    have h3 : ¬(100 + o = 2) := by omega
    have h4 : ¬(100 + o = 3) := by omega
    have h5 : 100 ≤ 100 + o ∧ 100 + o < 1000 := by omega
    simp only [mval, h1, h2, h3, h4, h5, if_false, if_true, and_self, Nat.add_sub_cancel_left]
    rfl
end Go.Proofs.YtpnlcoolbimmjaaGreat
