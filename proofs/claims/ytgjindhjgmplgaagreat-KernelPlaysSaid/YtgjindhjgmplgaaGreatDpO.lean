/-
  Deep values: regions whose order is drawn: whatever the order, what is asked holds. No function of the program is named here.
-/
import Derived.Test.YtgjindhjgmplgaaGreatDpJ
set_option linter.unusedVariables false
set_option linter.unusedSimpArgs false
section
set_option linter.constructorNameAsVariable false
namespace Go.Proofs.YtgjindhjgmplgaaGreat
def Dc {α : Type} (B : (α → Prop) → Prop) : Prop := ∀ f, B f → ∃ c, f c ∧ ∀ g, g c → B g
theorem Dc.no {α : Type} : Dc fun _ : α → Prop => False := fun _ h => h.elim
theorem Dc.k {α : Type} (c : α) : Dc fun f : α → Prop => f c := fun _ h => ⟨c, h, fun _ h => h⟩
theorem Dc.fk {α : Type} (c : Bool) {A B : (α → Prop) → Prop} (ha : Dc A) (hb : Dc B) : Dc fun f => fk c (A f) (B f) := by
  cases c with
  | true => exact ha
  | false => exact hb
theorem Dc.o {α β : Type} (o : Option β) {F : β → (α → Prop) → Prop} (h : ∀ x, Dc (F x)) : Dc fun f => oP o fun x => F x f := by
  cases o with
  | none => exact Dc.no
  | some x => exact h x
theorem dc_binI {op : BinOp} {k : IntKind} {a b : Int} : Dc (binI op k a b) := by
  cases op <;> first | exact Dc.k _ | exact Dc.no | exact Dc.fk _ Dc.no (Dc.k _)
theorem dc_shI {op : BinOp} {k : IntKind} {a b : Int} : Dc (shI op k a b) := by
  cases op <;> first | exact Dc.no | exact Dc.fk _ Dc.no (Dc.k _)
theorem dc_binV {P : Program} {t : TypeId} {op : BinOp} {x y : V} : Dc (binV P t op x y) := by
  cases x with
  | c x =>
    cases y with
    | c y =>
      cases x <;> cases y <;> first | exact Dc.no | skip
      · rename_i a b
        show Dc fun f : DC → Prop => (match P.underlying t, op with
          | some .bool, .eql => f (.b (beqB a b))
          | some .bool, .neq => f (.b (nt (beqB a b)))
          | _, _ => False : Prop)
        cases P.underlying t with
        | none => exact Dc.no
        | some d => cases d <;> first | exact Dc.no | (cases op <;> first | exact Dc.no | exact Dc.k _)
      · rename_i q a q' b
        show Dc fun f : DC → Prop => bif isSh op then shI op q a b f else fk (decide (q = q')) (binI op q a b f) False
        cases isSh op with
        | true => exact dc_shI
        | false =>
          show Dc fun f : DC → Prop => fk (decide (q = q')) (binI op q a b f) False
          exact Dc.fk _ dc_binI Dc.no
      · rename_i a b
        cases op <;> first | exact Dc.no | exact Dc.k _ | exact Dc.fk _ (Dc.k _) Dc.no
    | _ => cases x <;> exact Dc.no
  | r s q =>
    cases y with
    | r s' q' =>
      show Dc fun f : DC → Prop => fk (match eqT P t with | some s0 => shEq s s0 && shEq s' s0 | none => false) (match eqRow s q q' 0 with
        | some b => match op with
          | .eql => f (.b b)
          | .neq => f (.b (nt b))
          | _ => False
        | none => False) False
      refine Dc.fk _ ?_ Dc.no
      cases eqRow s q q' 0 with
      | none => exact Dc.no
      | some b => cases op <;> first | exact Dc.no | exact Dc.k _
    | _ => exact Dc.no
  | _ => cases y <;> exact Dc.no
theorem dc_loadAt {agg : Bool} {n : Nat} {o : Option Sh} {m : Mem} {p : DC} : Dc (loadAt agg n o m p) := by
  cases p with
  | pv x off =>
    unfold loadAt
    dsimp only
    cases look x m with
    | none => exact Dc.no
    | some b =>
      cases b with
      | R e r =>
        cases o with
        | none => exact Dc.no
        | some s => exact Dc.fk _ (Dc.o _ fun v => Dc.k v) Dc.no
      | E l =>
        refine Dc.fk _ ?_ Dc.no
        cases agg with
        | true => exact Dc.k _
        | false =>
          dsimp only [cond_false]
          cases l[off]? with
          | none => exact Dc.no
          | some c => exact Dc.k _
      | _ => exact Dc.no
  | pf e r off =>
    unfold loadAt
    dsimp only
    cases o with
    | none => exact Dc.no
    | some s => exact Dc.fk _ (Dc.o _ fun v => Dc.k v) Dc.no
  | pw x e i off =>
    unfold loadAt
    dsimp only
    cases look x m with
    | none => exact Dc.no
    | some b =>
      cases b with
      | W e' rows =>
        cases o with
        | none => exact Dc.no
        | some s => exact Dc.fk _ (Dc.fk _ (Dc.o _ fun v => Dc.k v) Dc.no) Dc.no
      | _ => exact Dc.no
  | _ => exact Dc.no
def Dt (m : Mem) (nx : Nat) (F : KVk → Prop) : Prop := ∀ k, F k → ∃ v m' nx', k v m' nx' ∧ ((m' = m ∧ nx' = nx) ∨ ∃ B, m' = (nx, B) :: m ∧ nx' = nx + 1) ∧ F fun v1 m1 n1 => v1 = v ∧ m1 = m' ∧ n1 = nx'
section
variable {P : Program} {fr : Frs} {m : Mem} {nx : Nat} {call : CallF}
theorem Dt.no : Dt m nx fun _ => False := fun _ h => h.elim
theorem Dt.k (v : V) : Dt m nx fun k => k v m nx := fun _ h => ⟨v, m, nx, h, .inl ⟨rfl, rfl⟩, rfl, rfl, rfl⟩
theorem Dt.nw (v : V) (B : Blk) : Dt m nx fun k => k v ((nx, B) :: m) (nx + 1) := fun _ h => ⟨v, _, _, h, .inr ⟨B, rfl, rfl⟩, rfl, rfl, rfl⟩
theorem Dt.o {α : Type} (o : Option α) {F : α → KVk → Prop} (h : ∀ x, Dt m nx (F x)) : Dt m nx fun k => oP o fun x => F x k := by
  cases o with
  | none => exact Dt.no
  | some x => exact h x
theorem Dt.dc {α : Type} {B : (α → Prop) → Prop} (hB : Dc B) {F : α → KVk → Prop} (h : ∀ x, Dt m nx (F x)) : Dt m nx fun k => B fun x => F x k := by
  intro k hk
  obtain ⟨c, h1, h2⟩ := hB _ hk
  obtain ⟨v, m', nx', h3, h4, h5⟩ := h c k h1
  exact ⟨v, m', nx', h3, h4, h2 _ h5⟩
theorem dc_onC {x : Operand} : Dc (onC fr x) := by
  unfold onC
  cases ev fr x with
  | none => exact Dc.no
  | some v => cases v <;> first | exact Dc.no | exact Dc.k _
theorem dc_onB {x : Operand} : Dc (onB fr x) := by
  unfold onB
  cases ev fr x with
  | none => exact Dc.no
  | some v =>
    cases v with
    | c c => cases c <;> first | exact Dc.no | exact Dc.k _
    | _ => exact Dc.no
theorem Dt.c {x : Operand} {F : DC → KVk → Prop} (h : ∀ c, Dt m nx (F c)) : Dt m nx fun k => onC fr x fun c => F c k := Dt.dc dc_onC h
theorem Dt.b {x : Operand} {F : Bool → KVk → Prop} (h : ∀ c, Dt m nx (F c)) : Dt m nx fun k => onB fr x fun c => F c k := Dt.dc dc_onB h
theorem Dt.i {x : Operand} {F : IntKind → Int → KVk → Prop} (h : ∀ q n, Dt m nx (F q n)) : Dt m nx fun k => onI fr x fun q n => F q n k := by
  unfold onI
  cases ev fr x with
  | none => exact Dt.no
  | some v =>
    cases v with
    | c c => cases c <;> first | exact Dt.no | exact h _ _
    | _ => exact Dt.no
theorem Dt.fk (c : Bool) {A B : KVk → Prop} (ha : Dt m nx A) (hb : Dt m nx B) : Dt m nx fun k => fk c (A k) (B k) := by
  cases c with
  | true => exact ha
  | false => exact hb
theorem Dt.bnd {d : Int} {o : Option Operand} {F : Int → KVk → Prop} (h : ∀ n, Dt m nx (F n)) : Dt m nx fun k => bnd fr d o fun n => F n k := by
  cases o with
  | none => exact h d
  | some x => exact Dt.i fun _ n => h n
theorem Dt.sp {F : Nat → KVk → Prop} {j : Int} (h : ∀ t, Dt m nx (F t)) : ∀ n i, Dt m nx fun k => splitI (fun t => F t k) j n i
  | 0, i => Dt.no
  | n + 1, i => Dt.fk _ (h i) (Dt.sp h n (i + 1))
theorem dt_convB {e : TypeId} {x : Operand} : Dt m nx fun k => convB P e fr m x fun c => k (.c c) m nx := by
  unfold convB
  split
  · refine Dt.c fun c => ?_
    split
    · exact Dt.fk _ (Dt.k _) Dt.no
    · exact Dt.no
  · exact Dt.no
theorem dop_det {op : Op} (hd : detB op = true) : Dt m nx (dop P call fr m nx op) := by
  cases op with
  | move x => exact Dt.o _ fun v => Dt.k v
  | assign x => exact Dt.o _ fun v => Dt.k v
  | pick c x y => exact Dt.b fun t => Dt.o _ fun u => Dt.o _ fun v => Dt.fk _ (Dt.k _) (Dt.k _)
  | alloc t =>
    unfold dop
    dsimp only
    cases zeroR P t with
    | some p => exact Dt.nw _ _
    | none => exact Dt.o _ fun c => Dt.nw _ _
  | box t x => exact Dt.o _ fun v => Dt.o _ fun b => Dt.nw _ _
  | build t ps =>
    unfold dop
    dsimp only
    cases P.underlying t with
    | none => exact Dt.no
    | some d =>
      cases d with
      | struct fs => exact Dt.o _ fun pl => Dt.o _ fun v => Dt.k v
      | array n e =>
        dsimp only
        cases aggT P e with
        | none => exact Dt.no
        | some p => exact Dt.o _ fun v => Dt.k v
      | _ => exact Dt.no
  | load t x =>
    unfold dop
    dsimp only
    cases aggT P t with
    | none => exact Dt.no
    | some p => exact Dt.c fun c => Dt.dc dc_loadAt fun v => Dt.k v
  | store t x y => cases hd
  | nilCheck x => exact Dt.c fun c => by cases c <;> first | exact Dt.k _ | exact Dt.no
  | binOp op t x y u =>
    unfold dop
    dsimp only
    have hn : isNilC y = false := by
      cases hb : isNilC y with
      | false => rfl
      | true => simp only [detB, hb] at hd; cases hd
    rw [hn]
    exact Dt.o _ fun a => Dt.o _ fun b => Dt.dc dc_binV fun c => Dt.k _
  | unOp uo t x =>
    cases uo with
    | not => exact Dt.b fun b => Dt.k _
    | neg => exact Dt.i fun _ n => Dt.k _
    | xor => exact Dt.i fun _ n => Dt.k _
    | _ => exact Dt.no
  | convert s d x =>
    unfold dop
    dsimp only
    cases P.underlying s with
    | none => exact Dt.no
    | some a =>
      cases P.underlying d with
      | none => cases a <;> exact Dt.no
      | some b => cases a <;> cases b <;> first | exact Dt.no | exact Dt.i fun _ n => Dt.k _ | exact (Dt.c fun c => by cases c <;> first | exact Dt.k _ | exact Dt.no) | exact dt_convB
  | fieldAddr t x f =>
    unfold dop
    dsimp only
    cases offOf P t f with
    | none => exact Dt.no
    | some p => exact Dt.fk _ (Dt.c fun c => by cases c <;> first | exact Dt.k _ | exact Dt.no) Dt.no
  | field t x f =>
    unfold dop
    dsimp only
    cases offOf P t f with
    | none => exact Dt.no
    | some p => exact Dt.o _ fun v => Dt.o _ fun u => Dt.k _
  | indexAddr t x i =>
    unfold dop
    dsimp only
    cases P.underlying t with
    | none => exact Dt.no
    | some d =>
      cases d with
      | slice e =>
        dsimp only
        cases aggT P e with
        | none => exact Dt.no
        | some p =>
          refine Dt.c fun c => Dt.i fun _ j => ?_
          have fin : Dt m nx fun k => match rowsOf m c with
              | some (s, l) => fk (Nat.beq s.length p.2) (fk (inR j (ln l)) (match c with
                | .ow y => k (.c (.pw y s (tn j) 0)) m nx
                | _ => k (.c (.pf s (rw' l (tn j)) 0)) m nx) False) False
              | none => False := by
            cases rowsOf m c with
            | none => exact Dt.no
            | some q => exact Dt.fk _ (Dt.fk _ (by cases c <;> exact Dt.k _) Dt.no) Dt.no
          cases c <;> first | exact fin | exact Dt.fk _ (Dt.fk _ (Dt.sp (fun t => Dt.k _) _ _) Dt.no) Dt.no
      | array q e =>
        dsimp only
        cases aggT P e with
        | none => exact Dt.no
        | some p => exact Dt.c fun c => Dt.i fun _ j => Dt.fk _ (Dt.sp (fun t => by cases c <;> first | exact Dt.k _ | exact Dt.no) _ _) Dt.no
      | _ => exact Dt.no
  | index t x i =>
    unfold dop
    dsimp only
    cases P.underlying t with
    | none => exact Dt.no
    | some d =>
      cases d with
      | array q e =>
        dsimp only
        cases aggT P e with
        | none => exact Dt.no
        | some p => exact Dt.o _ fun v => Dt.i fun _ j => Dt.fk _ (Dt.sp (fun t => Dt.o _ fun u => Dt.k _) _ _) Dt.no
      | string => exact Dt.c fun c => Dt.i fun _ j => by cases c <;> first | exact Dt.fk _ (Dt.k _) Dt.no | exact Dt.no
      | _ => exact Dt.no
  | extract x i => exact Dt.o _ fun v => Dt.o _ fun l => Dt.o _ fun u => Dt.k _
  | makeFunc f first caps =>
    cases f with
    | func f =>
      unfold dop
      dsimp only
      cases first.toList with
      | nil => exact Dt.o _ fun vs => Dt.o _ fun l => Dt.k _
      | cons x l =>
        cases l with
        | cons y l => exact Dt.no
        | nil =>
          cases caps.toList with
          | cons y l => exact Dt.no
          | nil =>
            refine Dt.c fun c => ?_
            cases c with
            | pv x off => cases off <;> first | exact Dt.k _ | exact Dt.no
            | _ => exact Dt.no
    | _ => exact Dt.no
  | slice t x lo hi mx =>
    unfold dop
    dsimp only
    cases P.underlying t with
    | none => exact Dt.no
    | some d =>
      cases d with
      | slice e =>
        cases mx with
        | some u =>
          dsimp only
          cases aggT P e with
          | none => exact Dt.no
          | some p =>
            refine Dt.c fun c => Dt.i fun _ q => ?_
            have fin : Dt m nx fun k => match partOf m c with
                | some (y, e, o, u, _, l) => fk (hi.isSome) (bnd fr 0 lo fun a => bnd fr 0 hi fun b => fk (an (ile 0 a) (an (ile a b) (an (ile b q) (ile q (xsub (jcap l) o))))) (k (.c .un) m nx) False) False
                | none => False := by
              cases partOf m c with
              | none => exact Dt.no
              | some q => exact Dt.fk _ (Dt.bnd fun a => Dt.bnd fun b => Dt.fk _ (Dt.k _) Dt.no) Dt.no
            cases c <;> first | exact fin | exact Dt.fk _ (Dt.bnd fun a => Dt.bnd fun b => Dt.fk _ (Dt.k _) Dt.no) Dt.no
        | none =>
          dsimp only
          cases aggT P e with
          | none => exact Dt.no
          | some p =>
            refine Dt.c fun c => ?_
            have fin : Dt m nx fun k => match partOf m c with
                | some (y, e, o, u, _, l) => fk (Nat.beq e.length p.2) (bnd fr 0 lo fun a => bnd fr (xsub u o) hi fun b => fk (an (ile 0 a) (an (ile a b) (ile b (xsub (jcap l) o)))) (k (.c (.bp y e (xadd o a) (xadd o b))) m nx) False) False
                | none => False := by
              cases partOf m c with
              | none => exact Dt.no
              | some q => exact Dt.fk _ (Dt.bnd fun a => Dt.bnd fun b => Dt.fk _ (Dt.k _) Dt.no) Dt.no
            cases c <;> first | exact fin | exact Dt.fk _ (Dt.bnd fun a => Dt.bnd fun b => Dt.fk _ (Dt.k _) Dt.no) Dt.no
      | string =>
        cases mx with
        | some u => exact Dt.no
        | none => exact Dt.c fun c => by cases c <;> first | exact Dt.bnd fun a => Dt.bnd fun b => Dt.fk _ (Dt.k _) Dt.no | exact Dt.no
      | _ => exact Dt.no
  | buildSlice t n ps =>
    unfold dop
    dsimp only
    cases P.underlying t with
    | none => exact Dt.no
    | some d =>
      cases d with
      | slice e =>
        dsimp only
        cases zeroR P e with
        | none =>
          have fin : Dt m nx fun k => match zeroC P e with
              | some [c] => fk (Nat.ble n 65536) (oP (partsE fr (fun i => some (i * 1, 1)) (List.replicate n c) ps.toList) fun cs => k (.c (.oe nx n)) ((nx, .E cs) :: m) (nx + 1)) False
              | _ => False := by
            cases zeroC P e with
            | none => exact Dt.no
            | some l =>
              cases l with
              | nil => exact Dt.no
              | cons x l =>
                cases l with
                | nil => exact Dt.fk _ (Dt.o _ fun rows => Dt.nw _ _) Dt.no
                | cons y l => exact Dt.no
          cases szT P e with
          | none => exact Dt.no
          | some q =>
            cases q with
            | zero => exact Dt.no
            | succ q => cases q <;> first | exact fin | exact Dt.no
        | some p =>
          cases szT P e with
          | none => exact Dt.no
          | some q => exact Dt.fk _ (Dt.o _ fun rows => Dt.nw _ _) Dt.no
      | _ => exact Dt.no
  | makeSlice t l c =>
    unfold dop
    dsimp only
    cases P.underlying t with
    | none => exact Dt.no
    | some d =>
      cases d with
      | slice e =>
        dsimp only
        cases zeroR P e with
        | none => exact Dt.no
        | some p =>
          cases P.info? e with
          | none => exact Dt.no
          | some q => exact Dt.i fun _ l => Dt.i fun _ c => Dt.fk _ (Dt.fk _ (Dt.nw _ _) Dt.no) Dt.no
      | _ => exact Dt.no
  | makeMap t r =>
    cases r with
    | some r => exact Dt.no
    | none =>
      unfold dop
      dsimp only
      cases mapT P t with
      | none => exact Dt.no
      | some p => exact Dt.nw _ _
  | insert t y i x => cases hd
  | mapUpdate t y i x => cases hd
  | lookup t y i ok =>
    refine Dt.c fun c => Dt.o _ fun iv => ?_
    unfold lookM
    cases mapT P t with
    | none => exact Dt.no
    | some p =>
      cases mapAt m (some p) c with
      | none => exact Dt.no
      | some q =>
        dsimp only
        cases rowFor p.2.1 iv with
        | none => exact Dt.no
        | some ir =>
          cases zeroR P (elemT P t) with
          | none => exact Dt.no
          | some e => exact Dt.fk _ (Dt.o _ fun v => Dt.k _) Dt.no
  | call c =>
    unfold dop
    dsimp only
    cases hc : c.callee with
    | value x => simp only [detB, hc] at hd; cases hd
    | invoke r mth => simp only [detB, hc] at hd; cases hd
    | builtin b =>
      cases b with
      | append => simp only [detB, hc] at hd; cases hd
      | copy => simp only [detB, hc] at hd; cases hd
      | clear => simp only [detB, hc] at hd; cases hd
      | cap =>
        cases c.args.toList with
        | nil => exact Dt.no
        | cons x l =>
          cases l with
          | cons y l => exact Dt.no
          | nil =>
            cases c.argTypes.toList with
            | nil => exact Dt.no
            | cons t l =>
              cases l with
              | cons y l => exact Dt.no
              | nil =>
                dsimp only
                cases P.underlying t with
                | none => exact Dt.no
                | some d =>
                  cases d with
                  | slice e =>
                    refine Dt.c fun c => ?_
                    cases partOf m c with
                    | none => exact Dt.no
                    | some q => exact Dt.k _
                  | _ => exact Dt.no
      | len =>
        cases c.args.toList with
        | nil => exact Dt.no
        | cons x l =>
          cases l with
          | cons y l => exact Dt.no
          | nil =>
            cases c.argTypes.toList with
            | nil => exact Dt.no
            | cons t l =>
              cases l with
              | cons u l => exact Dt.no
              | nil =>
                dsimp only
                cases P.underlying t with
                | none => exact Dt.no
                | some d =>
                  cases d with
                  | slice e =>
                    refine Dt.c fun c => ?_
                    have rest : Dt m nx fun k => (match rowsOf m c with | some (_, l) => k (.c (.i .i64 (ln l))) m nx | none => match partOf m c with
                        | some (_, _, lo, hi, _, _) => k (.c (.i .i64 (xsub hi lo))) m nx
                        | none => False : Prop) := by
                      cases rowsOf m c with
                      | none =>
                        cases partOf m c with
                        | none => exact Dt.no
                        | some q => exact Dt.k _
                      | some q => exact Dt.k _
                    cases c <;> first | exact Dt.k _ | exact rest
                  | string => exact Dt.c fun c => by cases c <;> first | exact Dt.k _ | exact Dt.no
                  | array n e => exact Dt.k _
                  | _ => exact Dt.no
      | min =>
        cases c.args.toList with
        | nil => exact Dt.no
        | cons x l =>
          cases l with
          | nil => exact Dt.no
          | cons y l =>
            cases l with
            | nil => exact Dt.i fun q a => Dt.i fun q' b => Dt.fk _ (Dt.k _) Dt.no
            | cons y l => exact Dt.no
      | max =>
        cases c.args.toList with
        | nil => exact Dt.no
        | cons x l =>
          cases l with
          | nil => exact Dt.no
          | cons y l =>
            cases l with
            | nil => exact Dt.i fun q a => Dt.i fun q' b => Dt.fk _ (Dt.k _) Dt.no
            | cons y l => exact Dt.no
      | _ => exact Dt.no
  | _ => exact Dt.no
end
end Go.Proofs.YtgjindhjgmplgaaGreat
end
section
set_option linter.constructorNameAsVariable false
namespace Go.Proofs.YtgjindhjgmplgaaGreat
open Go.RowKit
theorem inB_iff {i : Nat} {l : List Nat} : inB i l = true ↔ i ∈ l := by
  unfold inB
  rw [List.any_eq_true]
  constructor
  · rintro ⟨j, h1, h2⟩; rw [← Nat.eq_of_beq_eq_true h2]; exact h1
  · intro h; exact ⟨i, h, by simp⟩
theorem inB_no {i : Nat} {l : List Nat} (h : inB i l = false) : i ∉ l := fun hi => by rw [inB_iff.2 hi] at h; cases h
theorem not_true {b : Bool} (h : (!b) = true) : b = false := by cases b <;> first | rfl | cases h
theorem look_frSel : ∀ {fr : Frs} {l : List Nat} {t : Nat}, t ∈ l → look t (frSel fr l) = look t fr
  | fr, x :: l, t, h => by
    simp only [frSel]
    by_cases e : x = t
    · subst e
      cases hx : look x fr with
      | some v => exact look_same ..
      | none =>
        dsimp only
        by_cases h2 : x ∈ l
        · rw [look_frSel h2, hx]
        · have : ∀ (l : List Nat), x ∉ l → look x (frSel fr l) = none := by
            intro l
            induction l with
            | nil => intro _; rfl
            | cons q l ih =>
              intro hq
              simp only [frSel]
              have hne : q ≠ x := fun e => hq (by simp [e])
              have := ih fun h => hq (by simp [h])
              cases look q fr with
              | some v => dsimp only; rw [look_ne hne]; exact this
              | none => exact this
          exact this l h2
    · have h2 : t ∈ l := by
        rcases List.mem_cons.1 h with h | h
        · exact absurd h.symm e
        · exact h
      cases look x fr with
      | some v => dsimp only; rw [look_ne e]; exact look_frSel h2
      | none => exact look_frSel h2
theorem look_frSel_some : ∀ {fr : Frs} {l : List Nat} {t : Nat} {v : V}, look t (frSel fr l) = some v → t ∈ l ∧ look t fr = some v
  | fr, [], t, v, h => by cases h
  | fr, x :: l, t, v, h => by
    simp only [frSel] at h
    split at h
    · rename_i u hu
      by_cases e : x = t
      · subst e; rw [look_same] at h; cases h; exact ⟨by simp, hu⟩
      · rw [look_ne e] at h
        have := look_frSel_some h
        exact ⟨by simp [this.1], this.2⟩
    · have := look_frSel_some h
      exact ⟨by simp [this.1], this.2⟩
theorem dcOf_ids {v : Value} {c : DC} (e : dcOf v = some c) : idsC c = [] := by
  unfold dcOf at e
  split at e <;> first | (cases e; rfl) | cases e
theorem dcsOf_ids : ∀ {vs : List Value} {l : List DC}, dcsOf vs = some l → l.flatMap idsC = []
  | [], l, e => by cases e; rfl
  | v :: vs, l, e => by
    simp only [dcsOf] at e
    split at e
    · rename_i c cs h1 h2
      cases e
      rw [List.flatMap_cons, dcOf_ids h1, dcsOf_ids h2]; rfl
    · cases e
theorem vOf_ids {v : Value} {x : V} (e : vOf v = some x) : idsV x = [] := by
  unfold vOf at e
  split at e
  · obtain ⟨l, h1, rfl⟩ := map_some e
    exact dcsOf_ids h1
  · rename_i vs
    cases hb : Nat.beq vs.size 0 with
    | false => rw [hb] at e; cases e
    | true => rw [hb] at e; cases e; rfl
  · obtain ⟨c, h1, rfl⟩ := map_some e
    exact dcOf_ids h1
theorem idsOf_ok {fr : Frs} {p : Operand} {x : Nat} (h : x ∈ idsOf fr p) : ∃ t v, look t fr = some v ∧ x ∈ idsV v := by
  unfold idsOf at h
  split at h
  · rename_i v hv
    cases p with
    | tmp t => exact ⟨t, v, hv, h⟩
    | const u => rw [vOf_ids hv] at h; cases h
    | global g => cases hv
    | func f => cases hv; cases h
  · cases h
theorem cutM_sub {fr : Frs} {m : Mem} {op : Op} {x : Nat} {B : Blk} (h : look x (cutM fr m op) = some B) : look x m = some B := by
  unfold cutM at h
  split at h
  · exact (look_pickM h).2
  · exact (look_pickM h).2
  · exact (look_pickM h).2
  · exact (look_pickM h).2
  · exact (look_pickM h).2
  · exact (look_pickM h).2
  · exact (look_pickM h).2
  · rename_i c
    cases hd : detB (.call c) with
    | true => rw [hd] at h; exact (look_pickM h).2
    | false => rw [hd] at h; exact look_reach _ _ _ _ _ h
  · cases h
theorem cutM_ids {fr : Frs} {m : Mem} {op : Op} (hd : detB op = true) {x : Nat} {B : Blk} (h : look x (cutM fr m op) = some B) : ∃ t v, look t fr = some v ∧ x ∈ idsV v := by
  unfold cutM at h
  split at h
  · exact idsOf_ok (look_pickM h).1
  · exact idsOf_ok (look_pickM h).1
  · exact idsOf_ok (look_pickM h).1
  · exact idsOf_ok (look_pickM h).1
  · exact idsOf_ok (look_pickM h).1
  · exact idsOf_ok (look_pickM h).1
  · exact idsOf_ok (look_pickM h).1
  · rename_i c
    rw [hd] at h
    obtain ⟨p, _, hp⟩ := List.mem_flatMap.1 (look_pickM h).1
    exact idsOf_ok hp
  · cases h
section
variable {P : Program} {G : Gd} {φ φ' φ0 : Emb} {z z' z0 : Fz} {fr : Frs} {m : Mem} {nx n0 N : Nat} {a : Act} {W : List Nat} {a0 : Act} {w w' : World} {k : KVk} {call : CallF}
theorem CV.ids {c : DC} {v : Value} (h : CV φ z c v) {x : Nat} (hx : x ∈ idsC c) : ∃ q, φ x = some q := by
  cases c with
  | pv y off => simp [idsC] at hx; subst hx; obtain ⟨b, h1, _⟩ := h; exact ⟨_, h1⟩
  | pw y e i off => simp [idsC] at hx; subst hx; obtain ⟨b, o, n, cap, h1, _⟩ := h; exact ⟨_, h1⟩
  | bp y e lo hi => simp [idsC] at hx; subst hx; obtain ⟨p, n, cap, l, u, h1, _⟩ := h; exact ⟨_, h1⟩
  | mp y => simp [idsC] at hx; subst hx; exact ⟨_, h.1⟩
  | oe y n => simp [idsC] at hx; subst hx; obtain ⟨b, h1, _⟩ := h; exact ⟨_, h1⟩
  | fb f y => simp [idsC] at hx; subst hx; obtain ⟨b, h1, _⟩ := h; exact ⟨_, h1⟩
  | ow y => simp [idsC] at hx; subst hx; exact ⟨_, h.1⟩
  | fn f l =>
    obtain ⟨xs, h1, h2⟩ := h
    obtain ⟨j, hj, rfl⟩ := List.getElem_of_mem (show x ∈ l from hx)
    obtain ⟨u, _, b, h3, _⟩ := h2.get (List.getElem?_eq_getElem hj)
    exact ⟨_, h3⟩
  | _ => cases hx
theorem CVs.ids {l : List DC} {vs : List Value} (h : All2 (CV φ z) l vs) {x : Nat} (hx : x ∈ l.flatMap idsC) : ∃ q, φ x = some q := by
  obtain ⟨c, h1, h2⟩ := List.mem_flatMap.1 hx
  obtain ⟨j, hj, rfl⟩ := List.getElem_of_mem h1
  obtain ⟨u, _, h3⟩ := h.get (List.getElem?_eq_getElem hj)
  exact h3.ids h2
theorem VS.ids {v : V} {u : Value} (h : VS φ z v u) {x : Nat} (hx : x ∈ idsP v) : ∃ q, φ x = some q := by
  cases v with
  | c c => exact CV.ids h hx
  | r s r => cases hx
  | a l => obtain ⟨vs, _, h2⟩ := h; exact CVs.ids h2 hx
  | t l => cases hx
theorem VR.ids {v : V} {u : Value} (h : VR φ z v u) {x : Nat} (hx : x ∈ idsV v) : ∃ q, φ x = some q := by
  cases v with
  | t l =>
    obtain ⟨vs, _, h2⟩ := h
    obtain ⟨c, h1, h3⟩ := List.mem_flatMap.1 (show x ∈ l.flatMap idsP from hx)
    obtain ⟨j, hj, rfl⟩ := List.getElem_of_mem h1
    obtain ⟨u, _, h4⟩ := h2.get (List.getElem?_eq_getElem hj)
    exact h4.ids h3
  | c c => exact VS.ids (v := .c c) h hx
  | r s r => cases hx
  | a l => exact VS.ids (v := .a l) h hx
theorem putK_cases {d : Option Tmp} {v : V} {K : Frs → Prop} (h : putK N d v fr K) : ∃ fr', K fr' ∧ (∀ t, d = some t → t < N) ∧ ∀ t u, look t fr' = some u → (d = some t ∧ u = v) ∨ (d ≠ some t ∧ look t fr = some u) := by
  cases d with
  | none => exact ⟨fr, h, (fun _ h => nomatch h), fun t u hu => .inr ⟨(fun h => nomatch h), hu⟩⟩
  | some t0 =>
    have h : cond (Nat.blt t0 N) (K ((t0, v) :: fr)) False := h
    cases hb : Nat.blt t0 N with
    | false => rw [hb] at h; exact h.elim
    | true =>
      rw [hb] at h
      refine ⟨_, h, fun t e => ?_, fun t u hu => ?_⟩
      · cases e; have hlt : t0 < N := by simpa using hb
        exact hlt
      · by_cases e : t0 = t
        · subst e; rw [look_same] at hu; cases hu; exact .inl ⟨rfl, rfl⟩
        · rw [look_ne e] at hu; exact .inr ⟨fun h => e (Option.some.inj h), hu⟩
theorem gate_cases {ops : Array Oper} {o : Oper} {yes no : Frs → Prop} (h : gate ops fr o yes no) : ∃ fr' on, (∀ t, look t fr' = look t fr) ∧ ((on = true ∧ yes fr') ∨ (on = false ∧ no fr')) ∧ ∀ φ z f tmps, FR φ z f tmps → (∀ t ∈ o.looksAt ops, look t f = look t fr') → Region.wanted o (yielded ops tmps) = on := by
  unfold gate at h
  split at h
  · rename_i hg; exact ⟨fr, true, fun _ => rfl, .inl ⟨rfl, h⟩, fun _ _ _ _ _ _ => by simp [Region.wanted, hg]⟩
  · rename_i j want hg
    split at h
    · rename_i t ht
      have hin : t ∈ o.looksAt ops := by
        unfold Oper.looksAt; rw [hg]; dsimp only; rw [ht]; simp
      have same : ∀ (b : Bool), look t fr = some (.c (.b b)) → ∀ t', look t' ((t, V.c (.b b)) :: fr) = look t' fr := by
        intro b hb t'
        by_cases e : t = t'
        · subst e; rw [look_same, hb]
        · rw [look_ne e]
      have wnt : ∀ (fr' : Frs) (b : Bool), look t fr' = some (.c (.b b)) → ∀ φ z f tmps, FR φ z f tmps → (∀ t ∈ o.looksAt ops, look t f = look t fr') → Region.wanted o (yielded ops tmps) = (some b == some want) := by
        intro fr' b hb φ z f tmps hf hl
        have hq := hl t hin
        rw [hb] at hq
        obtain ⟨hlt, hv⟩ := hf t _ hq
        have hv : tmps.getD t undef = .bool b := hv
        have hy : yielded ops tmps j = some b := by
          unfold yielded; rw [ht]
          have : tmps[t]? = some (tmps.getD t undef) := by simp [hlt]
          simp only [Option.bind_some, this, hv]
        simp only [Region.wanted, hg, hy]
      split at h
      · rename_i b hb
        rcases fk_ok h with ⟨rfl, h⟩ | ⟨rfl, h⟩
        · refine ⟨_, want, same _ hb, ?_, fun φ z f tmps hf hl => (wnt _ true (look_same ..) φ z f tmps hf hl).trans ?_⟩
          · cases want with
            | true => exact .inl ⟨rfl, h⟩
            | false => exact .inr ⟨rfl, h⟩
          · cases want <;> rfl
        · refine ⟨_, !want, same _ hb, ?_, fun φ z f tmps hf hl => (wnt _ false (look_same ..) φ z f tmps hf hl).trans ?_⟩
          · cases want with
            | true => exact .inr ⟨rfl, h⟩
            | false => exact .inl ⟨rfl, h⟩
          · cases want <;> rfl
      · rename_i hb
        refine ⟨fr, false, fun _ => rfl, .inr ⟨rfl, h⟩, fun φ z f tmps hf hl => ?_⟩
        have hq := hl t hin
        rw [hb] at hq
        obtain ⟨hlt, vs, hv, _⟩ := hf t _ hq
        have hy : yielded ops tmps j = none := by
          unfold yielded; rw [ht]
          have : tmps[t]? = some (tmps.getD t undef) := by simp [hlt]
          simp only [Option.bind_some, this, hv]
        simp only [Region.wanted, hg, hy]
        rfl
      · exact h.elim
    · exact h.elim
theorem put_get {u : Value} {t : Nat} (h : t < a.tmps.size) : (a.put (some t) u).tmps.getD t undef = u := by
  simp [Act.put, h]
structure Pd where
  i : Nat
  o : Oper
  on : Bool
  v : V
  fr : Frs
  m : Mem
  m' : Mem
  nx : Nat
  nx' : Nat
def Pd.rng (y : Pd) (x : Nat) : Prop := y.nx ≤ x ∧ x < y.nx'
structure PdOk (P : Program) (call : CallF) (ops : Array Oper) (N : Nat) (y : Pd) : Prop where
  op : ops[y.i]? = some y.o
  dst : ∀ t, y.o.dst = some t → t < N
  keys : ∀ t v, look t y.fr = some v → t ∈ y.o.looksAt ops
  want : ∀ φ z tmps, FR φ z y.fr tmps → Region.wanted y.o (yielded ops tmps) = y.on
  run : y.on = true → dop P call y.fr y.m y.nx y.o.op fun v1 m1 n1 => v1 = y.v ∧ m1 = y.m' ∧ n1 = y.nx'
  shape : (y.m' = y.m ∧ y.nx' = y.nx) ∨ ∃ B, y.m' = (y.nx, B) :: y.m ∧ y.nx' = y.nx + 1
  ids : ∀ x B, look x y.m = some B → ∃ t v, look t y.fr = some v ∧ x ∈ idsV v
  off : y.on = false → y.v = .t [] ∧ y.nx' = y.nx
def FP (D : List Pd) (φ : Emb) (z : Fz) (f : Frs) (tmps : Array Value) : Prop :=
  ∀ t v, look t f = some v → (∃ y ∈ D, y.o.dst = some t ∧ y.v = v) ∨ ((∀ y ∈ D, y.o.dst ≠ some t) ∧ t < tmps.size ∧ VR φ z v (tmps.getD t undef))
theorem FP.frm {D : List Pd} {f : Frs} {tmps : Array Value} (h : FP D φ z f tmps) (hn : ∀ t v, look t f = some v → ∀ q ∈ D, q.o.dst ≠ some t) : FR φ z f tmps := by
  intro t v hv
  rcases h t v hv with ⟨y, h1, h2, _⟩ | ⟨_, h2, h3⟩
  · exact absurd h2 (hn t v hv y h1)
  · exact ⟨h2, h3⟩
def restD (D : List Pd) (i : Nat) : List Pd := D.filter fun q => !(Nat.beq q.i i)
theorem mem_restD {D : List Pd} {i : Nat} {q : Pd} : q ∈ restD D i ↔ q ∈ D ∧ q.i ≠ i := by
  unfold restD
  rw [List.mem_filter]
  constructor
  · rintro ⟨h1, h2⟩; exact ⟨h1, Nat.ne_of_beq_eq_false (not_true h2)⟩
  · rintro ⟨h1, h2⟩
    refine ⟨h1, ?_⟩
    cases hb : Nat.beq q.i i with
    | false => rfl
    | true => exact absurd (Nat.eq_of_beq_eq_true hb) h2
theorem FP.exec {D : List Pd} {f : Frs} (h : FP D φ z f a.tmps) {y : Pd} (hy : y ∈ D) (uni : ∀ q ∈ D, q.i = y.i → q = y) (dst : ∀ q ∈ D, q.i ≠ y.i → ∀ d, y.o.dst = some d → q.o.dst ≠ some d) (hN : ∀ t, y.o.dst = some t → t < a.tmps.size) {u : Value} (hu : VR φ' z' y.v u) (hφ : Emb.le φ φ') (hz : Fz.le z z') : FP (restD D y.i) φ' z' f (a.put y.o.dst u).tmps := by
  intro t v hv
  rcases h t v hv with ⟨q, h1, h2, h3⟩ | ⟨h1, h2, h3⟩
  · by_cases e : q.i = y.i
    · have := uni q h1 e
      subst this
      refine .inr ⟨fun q' hq' => dst q' (mem_restD.1 hq').1 (mem_restD.1 hq').2 t h2, by rw [put_size]; exact hN t h2, ?_⟩
      rw [h2, put_get (hN t h2), ← h3]; exact hu
    · exact .inl ⟨q, mem_restD.2 ⟨h1, e⟩, h2, h3⟩
  · refine .inr ⟨fun q' hq' => h1 q' (mem_restD.1 hq').1, by rw [put_size]; exact h2, ?_⟩
    rw [put_get_ne (h1 y hy)]; exact h3.le hφ hz
theorem FP.act {D : List Pd} {f : Frs} (h : FP D φ z f a.tmps) {d : Option Tmp} (hd : ∀ t v, look t f = some v → d ≠ some t) {u : Value} (hφ : Emb.le φ φ') (hz : Fz.le z z') : FP D φ' z' f (a.put d u).tmps := by
  intro t v hv
  rcases h t v hv with h1 | ⟨h1, h2, h3⟩
  · exact .inl h1
  · refine .inr ⟨h1, by rw [put_size]; exact h2, ?_⟩
    rw [put_get_ne (hd t v hv)]; exact h3.le hφ hz
def Topo (ops : Array Oper) : List Nat → Prop
  | [] => True
  | i :: l => (∃ o, ops[i]? = some o ∧ rdyO l o = true) ∧ Topo ops l
structure Sm (P : Program) (call : CallF) (ops : Array Oper) (N : Nat) (W : List Nat) (a0 : Act) (G : Gd) (φ0 : Emb) (z0 : Fz) (n0 : Nat) (D : List Pd) (ev : List (Nat × List Nat)) (fr : Frs) (m : Mem) (nx : Nat) (listed : Array Bool) (a : Act) (w : World) : Prop where
  ex : ∃ φ z ma, FP D φ z fr a.tmps ∧ (∀ y ∈ D, FP D φ z y.fr a.tmps) ∧ MR G φ z ma w ∧ (∀ x B, look x ma = some B ↔ (look x m = some B ∧ ∀ y ∈ D, ¬ y.rng x)) ∧ Lt φ nx ∧ (∀ x, x < n0 → φ x = φ0 x) ∧ Fz.le z0 z ∧ ∀ y ∈ D, ∀ x, y.rng x → φ x = none
  ok : ∀ y ∈ D, PdOk P call ops N y
  hi : ∀ y ∈ D, y.nx' ≤ nx ∧ n0 ≤ y.nx
  mem : ∀ y ∈ D, ∀ x B, look x y.m' = some B → look x m = some B
  key : ∀ x B, look x m = some B → x < nx
  dis : ∀ y ∈ D, ∀ y2 ∈ D, y.i ≠ y2.i → ∀ x, y.rng x → ¬ y2.rng x
  uni : ∀ y ∈ D, ∀ y2 ∈ D, y.i = y2.i → y = y2
  dst : ∀ y ∈ D, ∀ y2 ∈ D, y.i ≠ y2.i → ∀ d, y.o.dst = some d → y2.o.dst ≠ some d
  edg : ∀ y ∈ D, ∀ x ∈ D, ∀ d, x.o.dst = some d → d ∈ y.o.looksAt ops → edgeB y.o x.i = true
  evs : ∀ y ∈ D, ∃ ids, (y.i, ids) ∈ ev ∧ ∀ x B, look x y.m' = some B → x ∈ ids
  unl : ∀ y ∈ D, listed.getD y.i true = false
  cov : ∀ i ∈ ev.map (·.1), listed.getD i false = true ∨ ∃ y ∈ D, y.i = i
  lin : ∀ i, listed.getD i false = true → i ∈ ev.map (·.1)
  topo : Topo ops (ev.map (·.1))
  cl : ∀ (i : Nat) o, ops[i]? = some o → listed.getD i false = true → ∀ e ∈ o.after, Region.binds .any e = true → listed.getD e.on false = true
  eff : ∀ i ∈ ev.map (·.1), ∀ o, ops[i]? = some o → detB o.op = false → listed.getD i false = true
  len : listed.size = ops.size
  n : n0 ≤ nx
  sz : N ≤ a.tmps.size
  d : a.defers = []
  kp : a.tmps.size = a0.tmps.size ∧ ∀ t, t ∉ W → a.tmps.getD t undef = a0.tmps.getD t undef
  wr : ∀ (i : Nat) o, ops[i]? = some o → ∀ t, o.dst = some t → t ∈ W
theorem listed_no {listed : Array Bool} {i : Nat} (h1 : listed.getD i false = true) (h2 : listed.getD i true = false) : False := by
  by_cases h : i < listed.size
  · simp [h] at h1 h2; rw [h1] at h2; cases h2
  · simp [h] at h1
theorem edge_listed {ops : Array Oper} {listed : Array Bool} {i j : Nat} {o : Oper} (hr : i ∈ Region.ready .any ops listed) (ho : ops[i]? = some o) (he : edgeB o j = true) : listed.getD j false = true := by
  obtain ⟨_, o', ho', h⟩ := mem_ready.1 hr
  rw [ho] at ho'; cases ho'
  obtain ⟨e, h1, h2⟩ := List.any_eq_true.1 he
  obtain ⟨h3, h4⟩ := and2 h2
  rw [← Nat.eq_of_beq_eq_true h4]
  exact h e (by simpa using h1) h3
theorem rng_look {y : Pd} (hs : (y.m' = y.m ∧ y.nx' = y.nx) ∨ ∃ B, y.m' = (y.nx, B) :: y.m ∧ y.nx' = y.nx + 1) {x : Nat} (h : y.rng x) : x = y.nx ∧ ∃ B, look x y.m' = some B := by
  obtain ⟨h1, h2⟩ := h
  rcases hs with ⟨_, h4⟩ | ⟨B, h3, h4⟩
  · omega
  · have : x = y.nx := by omega
    subst this
    exact ⟨rfl, B, by rw [h3]; exact look_same ..⟩
theorem shape_sub {y : Pd} (hs : (y.m' = y.m ∧ y.nx' = y.nx) ∨ ∃ B, y.m' = (y.nx, B) :: y.m ∧ y.nx' = y.nx + 1) {x : Nat} (h : ¬ y.rng x) : look x y.m' = look x y.m := by
  rcases hs with ⟨h3, h4⟩ | ⟨B, h3, h4⟩
  · rw [h3]
  · rw [h3, look_ne]
    rintro rfl
    exact h ⟨Nat.le_refl _, by omega⟩
theorem getD_set_mono {listed : Array Bool} {i j : Nat} (h : listed.getD j false = true) : (listed.setIfInBounds i true).getD j false = true := by
  by_cases e : i = j
  · subst e
    by_cases hl : i < listed.size
    · simp [hl]
    · simp [hl] at h
  · rw [getD_set_ne _ e]; exact h
theorem cl_set {ops : Array Oper} {listed : Array Bool} {i : Nat} (cl : ∀ (i : Nat) o, ops[i]? = some o → listed.getD i false = true → ∀ e ∈ o.after, Region.binds .any e = true → listed.getD e.on false = true) (hr : i ∈ Region.ready .any ops listed) : ∀ (j : Nat) o, ops[j]? = some o → (listed.setIfInBounds i true).getD j false = true → ∀ e ∈ o.after, Region.binds .any e = true → (listed.setIfInBounds i true).getD e.on false = true := by
  intro j o ho hj e he hb
  by_cases hij : i = j
  · subst hij
    obtain ⟨_, o', ho', h3⟩ := mem_ready.1 hr
    rw [ho] at ho'; cases ho'
    exact getD_set_mono (h3 e he hb)
  · rw [getD_set_ne _ hij] at hj
    exact getD_set_mono (cl j o ho hj e he hb)
theorem ahead_listed {ops : Array Oper} {listed : Array Bool} (cl : ∀ (i : Nat) o, ops[i]? = some o → listed.getD i false = true → ∀ e ∈ o.after, Region.binds .any e = true → listed.getD e.on false = true) : ∀ (n i : Nat), listed.getD i false = true → ∀ j ∈ aheadOf ops n i, listed.getD j false = true
  | 0, i, _, j, hj => by cases hj
  | n + 1, i, hi, j, hj => by
    simp only [aheadOf] at hj
    split at hj
    · rename_i o ho
      obtain ⟨e, h1, h2⟩ := List.mem_flatMap.1 hj
      cases hb : Region.binds .any e with
      | false => rw [hb] at h2; cases h2
      | true =>
        rw [hb] at h2
        have hl := cl i o ho hi e (by simpa using h1) hb
        rcases List.mem_cons.1 h2 with h3 | h3
        · rw [h3]; exact hl
        · exact ahead_listed cl n e.on hl j h3
    · cases hj
theorem past_listed {ops : Array Oper} {listed : Array Bool} (cl : ∀ (i : Nat) o, ops[i]? = some o → listed.getD i false = true → ∀ e ∈ o.after, Region.binds .any e = true → listed.getD e.on false = true) {E : List Nat} (eff : ∀ i ∈ E, ∀ o, ops[i]? = some o → detB o.op = false → listed.getD i false = true) {j : Nat} (h : pastB ops E j = true) : listed.getD j false = true := by
  obtain ⟨i, hi, h1⟩ := List.any_eq_true.1 h
  split at h1
  · rename_i o ho
    obtain ⟨h2, h3⟩ := and2 h1
    exact ahead_listed cl 6 i (eff i hi o ho (not_true h2)) j (inB_iff.1 h3)
  · cases h1
theorem getD_set_same {listed : Array Bool} {i : Nat} (h : i < listed.size) (b : Bool) : (listed.setIfInBounds i true).getD i b = true := by simp [h]
theorem Sm.exec (hC : CallOk P call) {ops : Array Oper} {D : List Pd} {ev : List (Nat × List Nat)} {listed : Array Bool} (s : Sm P call ops N W a0 G φ0 z0 n0 D ev fr m nx listed a w) {y : Pd} (hy : y ∈ D) (hr : y.i ∈ Region.ready .any ops listed) {Q : Exit → Act → World → Prop} {Kn : Act → World → Prop}
    (hn : ∀ a' w', Sm P call ops N W a0 G φ0 z0 n0 (restD D y.i) ev fr m nx (listed.setIfInBounds y.i true) a' w' → Kn a' w') : wpOp P ops Q y.i Kn a w := by
  obtain ⟨φ, z, ma, f1, f2, f3, f4, f5, f6, f7, f8⟩ := s.ex
  have ok := s.ok y hy
  have uni : ∀ q ∈ D, q.i = y.i → q = y := fun q hq e => s.uni q hq y hy e
  have dst : ∀ q ∈ D, q.i ≠ y.i → ∀ d, y.o.dst = some d → q.o.dst ≠ some d := fun q hq e d hd => s.dst y hy q hq (fun e' => e e'.symm) d hd
  have hN : ∀ t, y.o.dst = some t → t < a.tmps.size := fun t ht => Nat.lt_of_lt_of_le (ok.dst t ht) s.sz
  have hfr : FR φ z y.fr a.tmps := (f2 y hy).frm fun t v hv q hq hd => by
    have := edge_listed hr ok.op (s.edg y hy q hq t hd (ok.keys t v hv))
    exact listed_no this (s.unl q hq)
  have hil : y.i < listed.size := by
    rw [s.len]; exact (Array.getElem?_eq_some_iff.1 ok.op).1
  have static : ∀ (φ' : Emb) (z' : Fz) (ma' : Mem) (u : Value) (w' : World), VR φ' z' y.v u → Emb.le φ φ' → Fz.le z z' → MR G φ' z' ma' w' → (∀ x B, look x ma' = some B ↔ (look x m = some B ∧ ∀ q ∈ restD D y.i, ¬ q.rng x)) → Lt φ' nx → (∀ x, x < n0 → φ' x = φ0 x) → (∀ q ∈ restD D y.i, ∀ x, q.rng x → φ' x = none) → Sm P call ops N W a0 G φ0 z0 n0 (restD D y.i) ev fr m nx (listed.setIfInBounds y.i true) (a.put y.o.dst u) w' := by
    intro φ' z' ma' u w' k1 k2 k3 k4 k5 k6 k7 k8
    refine ⟨⟨φ', z', ma', f1.exec hy uni dst hN k1 k2 k3, fun q hq => (f2 q (mem_restD.1 hq).1).exec hy uni dst hN k1 k2 k3, k4, k5, k6, k7, f7.trans k3, k8⟩, fun q hq => s.ok q (mem_restD.1 hq).1, fun q hq => s.hi q (mem_restD.1 hq).1, fun q hq => s.mem q (mem_restD.1 hq).1, s.key, fun q hq q2 hq2 => s.dis q (mem_restD.1 hq).1 q2 (mem_restD.1 hq2).1, fun q hq q2 hq2 => s.uni q (mem_restD.1 hq).1 q2 (mem_restD.1 hq2).1, fun q hq q2 hq2 => s.dst q (mem_restD.1 hq).1 q2 (mem_restD.1 hq2).1, fun q hq q2 hq2 => s.edg q (mem_restD.1 hq).1 q2 (mem_restD.1 hq2).1, fun q hq => s.evs q (mem_restD.1 hq).1, fun q hq => ?_, fun i hi => ?_, fun i hi => ?_, s.topo, cl_set s.cl hr, fun i hi o ho hd => getD_set_mono (s.eff i hi o ho hd), by simp [s.len], s.n, by rw [put_size]; exact s.sz, by rw [put_defers]; exact s.d, kp_put (s.wr _ _ ok.op) s.kp u, s.wr⟩
    · rw [getD_set_ne _ (fun e => (mem_restD.1 hq).2 e.symm)]; exact s.unl q (mem_restD.1 hq).1
    · by_cases e : y.i = i
      · subst e; exact .inl (getD_set_same hil _)
      · rcases s.cov i hi with h | ⟨q, h1, h2⟩
        · exact .inl (by rw [getD_set_ne _ e]; exact h)
        · exact .inr ⟨q, mem_restD.2 ⟨h1, fun e' => e (e'.symm.trans h2)⟩, h2⟩
    · by_cases e : y.i = i
      · subst e
        obtain ⟨ids, h1, _⟩ := s.evs y hy
        exact List.mem_map.2 ⟨_, h1, rfl⟩
      · rw [getD_set_ne _ e] at hi; exact s.lin i hi
  unfold wpOp
  rw [ok.op]
  dsimp only
  have hw := ok.want φ z a.tmps hfr
  cases hon : y.on with
  | false =>
    rw [if_neg (by rw [hw, hon]; simp)]
    obtain ⟨h1, h2⟩ := ok.off hon
    refine hn _ _ (static φ z ma undef w (by rw [h1]; exact undef_ok) (.refl φ) (.refl z) f3 (fun x B => ?_) f5 f6 fun q hq => f8 q (mem_restD.1 hq).1)
    rw [f4]
    constructor
    · rintro ⟨h3, h4⟩; exact ⟨h3, fun q hq => h4 q (mem_restD.1 hq).1⟩
    · rintro ⟨h3, h4⟩
      refine ⟨h3, fun q hq hx => ?_⟩
      by_cases e : q.i = y.i
      · rw [uni q hq e] at hx; have := hx.1; have := hx.2; omega
      · exact h4 q (mem_restD.2 ⟨hq, e⟩) hx
  | true =>
    rw [if_pos (by rw [hw, hon])]
    refine .inl ?_
    have keyφ : ∀ x B, look x y.m = some B → ∃ q, φ x = some q := fun x B hx => by
      obtain ⟨t, v, h1, h2⟩ := ok.ids x B hx
      exact (hfr t v h1).2.ids h2
    have hsub : ∀ x B, look x y.m = some B → look x ma = some B := fun x B hx => by
      obtain ⟨q, hq⟩ := keyφ x B hx
      have nr : ∀ q' ∈ D, ¬ q'.rng x := fun q' hq' hx' => by rw [f8 q' hq' x hx'] at hq; cases hq
      exact (f4 x B).2 ⟨s.mem y hy x B (by rw [shape_sub ok.shape (nr y hy)]; exact hx), nr⟩
    have hcut := f3.cut (φ' := φ) hsub fun _ _ => rfl
    refine dop_ok hC ⟨hfr, hcut, ?_⟩ (ok.run hon) Kn Q ?_
    · rintro v1 m1 n1 ⟨rfl, rfl, rfl⟩ x h1 h2
      exact f8 y hy x ⟨h1, h2⟩
    · rintro w' v1 m1 n1 φ' z' u ⟨rfl, rfl, rfl⟩ h2 h3 h4 h5 h6 h7
      have hj := f3.join (φr := φ) hsub h4 h3 (.refl φ') h2
      refine hn _ _ (static φ' z' _ u w' h7 h2 h3 hj (fun x B => ?_) (fun x v hv => ?_) (fun x hx => ?_) fun q hq x hx => ?_)
      · rw [look_append, look_without]
        constructor
        · intro h
          cases hm : look x y.m' with
          | some B' =>
            rw [hm] at h; cases h
            refine ⟨s.mem y hy x _ hm, fun q hq hx => ?_⟩
            by_cases hxy : y.rng x
            · exact s.dis y hy q (mem_restD.1 hq).1 (fun e => (mem_restD.1 hq).2 e.symm) x hxy hx
            · rw [shape_sub ok.shape hxy] at hm
              obtain ⟨p, hp⟩ := keyφ x _ hm
              rw [f8 q (mem_restD.1 hq).1 x hx] at hp; cases hp
          | none =>
            rw [hm] at h
            dsimp only at h
            cases hm2 : look x y.m with
            | some B' => rw [hm2] at h; cases h
            | none =>
              rw [hm2] at h
              obtain ⟨h8, h9⟩ := (f4 x B).1 h
              exact ⟨h8, fun q hq => h9 q (mem_restD.1 hq).1⟩
        · rintro ⟨h8, h9⟩
          cases hm : look x y.m' with
          | some B' =>
            have := s.mem y hy x _ hm
            rw [h8] at this; cases this; rfl
          | none =>
            dsimp only
            have hxy : ¬ y.rng x := fun hxy => by
              obtain ⟨_, B', hB'⟩ := rng_look ok.shape hxy
              rw [hm] at hB'; cases hB'
            rw [shape_sub ok.shape hxy] at hm
            rw [hm]
            refine (f4 x B).2 ⟨h8, fun q hq hx => ?_⟩
            by_cases e : q.i = y.i
            · rw [uni q hq e] at hx; exact hxy hx
            · exact h9 q (mem_restD.2 ⟨hq, e⟩) hx
      · rcases h5 x v hv with h8 | h8
        · exact f5 x v h8
        · have := (s.hi y hy).1; omega
      · rw [← f6 x hx]
        cases hq : φ x with
        | some q => exact h2 x q hq
        | none =>
          cases hq' : φ' x with
          | none => rfl
          | some q =>
            rcases h5 x q hq' with h8 | h8
            · rw [hq] at h8; cases h8
            · have := (s.hi y hy).2; omega
      · cases hq' : φ' x with
        | none => rfl
        | some p =>
          rcases h5 x p hq' with h8 | h8
          · rw [f8 q (mem_restD.1 hq).1 x hx] at h8; cases h8
          · exact (s.dis y hy q (mem_restD.1 hq).1 (fun e => (mem_restD.1 hq).2 e.symm) x h8 hx).elim
end
end Go.Proofs.YtgjindhjgmplgaaGreat
end
section
set_option linter.constructorNameAsVariable false
namespace Go.Proofs.YtgjindhjgmplgaaGreat
open Go.RowKit
structure StepF (ops : Array Oper) (E : List Nat) (i : Nat) (o : Oper) : Prop where
  nin : i ∉ E
  rdy : rdyO E o = true
  act : detB o.op = true ∨ ∀ j, j < ops.size → j ∈ E ∨ j = i ∨ rdyE ops E j = false
  slf : ∀ d, o.dst = some d → d ∉ o.looksAt ops
  oth : ∀ j ∈ E, ∃ x, ops[j]? = some x ∧ ((∀ d, o.dst = some d → d ∉ x.looksAt ops) ∨ pastB ops E j = true) ∧ (∀ d, x.dst = some d → o.dst ≠ some d) ∧ ∀ d, x.dst = some d → d ∈ o.looksAt ops → edgeB o j = true
theorem or2 {x y : Bool} (e : (x || y) = true) : x = true ∨ y = true := by rwa [Bool.or_eq_true] at e
theorem dstIn_no {o : Oper} {l : List Nat} (h : dstIn o l = false) : ∀ d, o.dst = some d → d ∉ l := by
  intro d hd
  unfold dstIn at h
  rw [hd] at h
  exact inB_no h
theorem stepF_of {ops : Array Oper} {E : List Nat} {i : Nat} {o : Oper} (h : stepOk ops E i o = true) : StepF ops E i o := by
  unfold stepOk at h
  obtain ⟨h1, h⟩ := and2 h
  obtain ⟨h2, h⟩ := and2 h
  obtain ⟨h3, h⟩ := and2 h
  obtain ⟨h4, h5⟩ := and2 h
  refine ⟨inB_no (not_true h1), h2, ?_, dstIn_no (not_true h4), fun j hj => ?_⟩
  · rcases or2 h3 with h | h
    · exact .inl h
    · refine .inr fun j hj => ?_
      have := List.all_eq_true.1 h j (List.mem_range.2 hj)
      rcases or2 this with h | h
      · exact .inl (inB_iff.1 h)
      · rcases or2 h with h | h
        · exact .inr (.inl (Nat.eq_of_beq_eq_true h))
        · exact .inr (.inr (not_true h))
  · have := List.all_eq_true.1 h5 j hj
    split at this
    · rename_i x hx
      obtain ⟨k1, k2⟩ := and2 this
      obtain ⟨k2, k3⟩ := and2 k2
      refine ⟨x, hx, (or2 k1).imp (fun h => dstIn_no (not_true h)) id, fun d hd e => ?_, fun d hd hin => ?_⟩
      · have := not_true k2
        unfold dstSame at this
        rw [hd, e] at this
        simp at this
      · rcases or2 k3 with h | h
        · exact absurd hin (dstIn_no (not_true h) d hd)
        · exact h
    · cases this
theorem predO_mem {o : Oper} {j : Nat} (h : j ∈ predO o) : ∃ e ∈ o.after, Region.binds .any e = true ∧ e.on = j := by
  obtain ⟨e, h1, h2⟩ := List.mem_flatMap.1 h
  cases hb : Region.binds .any e with
  | false => rw [hb] at h2; cases h2
  | true =>
    rw [hb] at h2
    exact ⟨e, by simpa using h1, hb, (List.mem_singleton.1 h2).symm⟩
theorem pred_listed {ops : Array Oper} {listed : Array Bool} {i j : Nat} {o : Oper} (hr : i ∈ Region.ready .any ops listed) (ho : ops[i]? = some o) (hj : j ∈ predO o) : listed.getD j false = true := by
  obtain ⟨_, o', ho', h⟩ := mem_ready.1 hr
  rw [ho] at ho'; cases ho'
  obtain ⟨e, h1, h2, rfl⟩ := predO_mem hj
  exact h e h1 h2
theorem pnGo_mem {ops : Array Oper} {listed : Array Bool} (cl : ∀ (i : Nat) o, ops[i]? = some o → listed.getD i false = true → ∀ e ∈ o.after, Region.binds .any e = true → listed.getD e.on false = true) : ∀ {ev : List (Nat × List Nat)} {anc : List Nat}, (∀ j ∈ anc, listed.getD j false = true) → ∀ {i : Nat} {ids : List Nat}, (i, ids) ∈ ev → listed.getD i false = true ∨ ∀ x ∈ ids, x ∈ pnGo ops ev anc
  | [], _, _, _, _, h => by cases h
  | p :: l, anc, ha, i, ids, h => by
    unfold pnGo
    cases hb : inB p.1 anc with
    | true =>
      have hp := ha _ (inB_iff.1 hb)
      have ha2 : ∀ j ∈ predI ops p.1 ++ anc, listed.getD j false = true := by
        intro j hj
        rcases List.mem_append.1 hj with hj | hj
        · unfold predI at hj
          split at hj
          · rename_i o ho
            obtain ⟨e, h1, h2, rfl⟩ := predO_mem hj
            exact cl _ o ho hp e h1 h2
          · cases hj
        · exact ha j hj
      rcases List.mem_cons.1 h with e | h
      · subst e; exact .inl hp
      · exact pnGo_mem cl ha2 h
    | false =>
      rcases List.mem_cons.1 h with e | h
      · subst e; exact .inr fun x hx => List.mem_append_left _ hx
      · exact (pnGo_mem cl ha h).imp id fun k x hx => List.mem_append_right _ (k x hx)
theorem unl_of {listed : Array Bool} {i : Nat} (hi : i < listed.size) (h : listed.getD i false ≠ true) : listed.getD i true = false := by
  simp [hi] at h ⊢; exact h
theorem keysM_mem {m : Mem} {x : Nat} {B : Blk} (h : look x m = some B) : x ∈ keysM m := List.mem_map.2 ⟨_, look_mem h, rfl⟩
section
variable {P : Program} {G : Gd} {φ φ' φ0 : Emb} {z z' z0 : Fz} {fr : Frs} {m : Mem} {nx n0 N : Nat} {a : Act} {W : List Nat} {a0 : Act} {w w' : World} {k : KVk} {call : CallF} {ops : Array Oper} {D : List Pd} {ev : List (Nat × List Nat)} {listed : Array Bool}
theorem Sm.inE (s : Sm P call ops N W a0 G φ0 z0 n0 D ev fr m nx listed a w) {q : Pd} (hq : q ∈ D) : q.i ∈ ev.map (·.1) := by
  obtain ⟨ids, h1, _⟩ := s.evs q hq
  exact List.mem_map.2 ⟨_, h1, rfl⟩
theorem Sm.oth (s : Sm P call ops N W a0 G φ0 z0 n0 D ev fr m nx listed a w) {i : Nat} {o : Oper} (hs : StepF ops (ev.map (·.1)) i o) {q : Pd} (hq : q ∈ D) : (∀ d, o.dst = some d → d ∉ q.o.looksAt ops) ∧ (∀ d, q.o.dst = some d → o.dst ≠ some d) ∧ ∀ d, q.o.dst = some d → d ∈ o.looksAt ops → edgeB o q.i = true := by
  obtain ⟨x, h1, h2, h3⟩ := hs.oth _ (s.inE hq)
  rw [(s.ok q hq).op] at h1
  cases h1
  rcases h2 with h2 | h2
  · exact ⟨h2, h3⟩
  · exact (listed_no (past_listed s.cl s.eff h2) (s.unl q hq)).elim
theorem Sm.ahead (s : Sm P call ops N W a0 G φ0 z0 n0 D ev fr m nx listed a w) {y : Pd} (hs : StepF ops (ev.map (·.1)) y.i y.o) (hy : PdOk P call ops N y) (hdt : detB y.o.op = true) (hnx : y.nx = nx) (hmc : ∀ x B, look x y.m = some B → look x m = some B) (hf : ∀ t v, look t y.fr = some v → look t fr = some v)
    {fr2 : Frs} (h2 : ∀ t u, look t fr2 = some u → (y.o.dst = some t ∧ u = y.v) ∨ (y.o.dst ≠ some t ∧ look t fr = some u)) : Sm P call ops N W a0 G φ0 z0 n0 (y :: D) ((y.i, keysM y.m') :: ev) fr2 (y.m' ++ without m y.m) y.nx' listed a w := by
  obtain ⟨φ, z, ma, f1, f2, f3, f4, f5, f6, f7, f8⟩ := s.ex
  have hle : nx ≤ y.nx' := by
    rcases hy.shape with ⟨_, h⟩ | ⟨_, _, h⟩ <;> omega
  have lm : ∀ x, ¬ y.rng x → look x (y.m' ++ without m y.m) = look x m := by
    intro x hx
    rw [look_append, look_without, shape_sub hy.shape hx]
    cases hm : look x y.m with
    | some B => exact (hmc x B hm).symm
    | none => rfl
  have notD : ∀ x, x < nx → ¬ y.rng x := fun x hx hr => by have := hr.1; omega
  have rngD : ∀ q ∈ D, ∀ x, q.rng x → x < nx := fun q hq x hx => by have := (s.hi q hq).1; have := hx.2; omega
  have niq : ∀ q ∈ D, q.i ≠ y.i := fun q hq e => hs.nin (e ▸ s.inE hq)
  refine ⟨⟨φ, z, ma, ?_, ?_, f3, ?_, fun x v hv => Nat.lt_of_lt_of_le (f5 x v hv) hle, f6, f7, ?_⟩, ?_, ?_, ?_, ?_, ?_, ?_, ?_, ?_, ?_, ?_, ?_, ?_, ⟨⟨y.o, hy.op, hs.rdy⟩, s.topo⟩, s.cl, fun i hi o ho hd => ?_, s.len, Nat.le_trans s.n hle, s.sz, s.d, s.kp, s.wr⟩
  · intro t u hu
    rcases h2 t u hu with ⟨h3, h4⟩ | ⟨h3, h4⟩
    · exact .inl ⟨y, List.mem_cons_self, h3, h4.symm⟩
    · rcases f1 t u h4 with ⟨q, h5, h6⟩ | ⟨h5, h6⟩
      · exact .inl ⟨q, List.mem_cons_of_mem _ h5, h6⟩
      · refine .inr ⟨fun q hq => ?_, h6⟩
        rcases List.mem_cons.1 hq with e | e
        · rw [e]; exact h3
        · exact h5 q e
  · intro q hq t v hv
    rcases List.mem_cons.1 hq with e | e
    · subst e
      rcases f1 t v (hf t v hv) with ⟨q', h5, h6⟩ | ⟨h5, h6⟩
      · exact .inl ⟨q', List.mem_cons_of_mem _ h5, h6⟩
      · refine .inr ⟨fun q' hq' => ?_, h6⟩
        rcases List.mem_cons.1 hq' with e' | e'
        · rw [e']; exact fun hd => hs.slf t hd (hy.keys t v hv)
        · exact h5 q' e'
    · rcases f2 q e t v hv with ⟨q', h5, h6⟩ | ⟨h5, h6⟩
      · exact .inl ⟨q', List.mem_cons_of_mem _ h5, h6⟩
      · refine .inr ⟨fun q' hq' => ?_, h6⟩
        rcases List.mem_cons.1 hq' with e' | e'
        · rw [e']; exact fun hd => (s.oth hs e).1 t hd ((s.ok q e).keys t v hv)
        · exact h5 q' e'
  · intro x B
    constructor
    · intro h
      obtain ⟨v, hv⟩ := (f3.blk x B h).has
      have hx := f5 x v hv
      obtain ⟨h3, h4⟩ := (f4 x B).1 h
      refine ⟨by rw [lm x (notD x hx)]; exact h3, fun q hq => ?_⟩
      rcases List.mem_cons.1 hq with e | e
      · rw [e]; exact notD x hx
      · exact h4 q e
    · rintro ⟨h3, h4⟩
      rw [lm x (h4 y List.mem_cons_self)] at h3
      exact (f4 x B).2 ⟨h3, fun q hq => h4 q (List.mem_cons_of_mem _ hq)⟩
  · intro q hq x hx
    rcases List.mem_cons.1 hq with e | e
    · rw [e] at hx; exact f5.none (by have := hx.1; omega)
    · exact f8 q e x hx
  · intro q hq
    rcases List.mem_cons.1 hq with e | e
    · rw [e]; exact hy
    · exact s.ok q e
  · intro q hq
    rcases List.mem_cons.1 hq with e | e
    · rw [e, hnx]; exact ⟨Nat.le_refl _, s.n⟩
    · exact ⟨Nat.le_trans (s.hi q e).1 hle, (s.hi q e).2⟩
  · intro q hq x B hx
    rcases List.mem_cons.1 hq with e | e
    · rw [e] at hx; rw [look_append, hx]
    · have := s.mem q e x B hx
      rw [lm x (notD x (s.key x B this))]; exact this
  · intro x B hx
    by_cases hr : y.rng x
    · exact hr.2
    · rw [lm x hr] at hx; exact Nat.lt_of_lt_of_le (s.key x B hx) hle
  · intro q hq q2 hq2 hne x hx hx2
    rcases List.mem_cons.1 hq with e | e <;> rcases List.mem_cons.1 hq2 with e2 | e2
    · rw [e, e2] at hne; exact hne rfl
    · rw [e] at hx; exact notD x (rngD q2 e2 x hx2) hx
    · rw [e2] at hx2; exact notD x (rngD q e x hx) hx2
    · exact s.dis q e q2 e2 hne x hx hx2
  · intro q hq q2 hq2 heq
    rcases List.mem_cons.1 hq with e | e <;> rcases List.mem_cons.1 hq2 with e2 | e2
    · rw [e, e2]
    · rw [e] at heq; exact absurd heq.symm (niq q2 e2)
    · rw [e2] at heq; exact absurd heq (niq q e)
    · exact s.uni q e q2 e2 heq
  · intro q hq q2 hq2 hne d hd hd2
    rcases List.mem_cons.1 hq with e | e <;> rcases List.mem_cons.1 hq2 with e2 | e2
    · rw [e, e2] at hne; exact hne rfl
    · rw [e] at hd; exact (s.oth hs e2).2.1 d hd2 hd
    · rw [e2] at hd2; exact (s.oth hs e).2.1 d hd hd2
    · exact s.dst q e q2 e2 hne d hd hd2
  · intro q hq q2 hq2 d hd hin
    rcases List.mem_cons.1 hq with e | e <;> rcases List.mem_cons.1 hq2 with e2 | e2
    · rw [e2] at hd; rw [e] at hin; exact absurd hin (hs.slf d hd)
    · rw [e] at hin ⊢; exact (s.oth hs e2).2.2 d hd hin
    · rw [e2] at hd; exact absurd hin ((s.oth hs e).1 d hd)
    · exact s.edg q e q2 e2 d hd hin
  · intro q hq
    rcases List.mem_cons.1 hq with e | e
    · rw [e]; exact ⟨_, List.mem_cons_self, fun x B hx => keysM_mem hx⟩
    · obtain ⟨ids, h3, h4⟩ := s.evs q e
      exact ⟨ids, List.mem_cons_of_mem _ h3, h4⟩
  · intro q hq
    rcases List.mem_cons.1 hq with e | e
    · rw [e]
      refine unl_of (by rw [s.len]; exact (Array.getElem?_eq_some_iff.1 hy.op).1) fun h => hs.nin (s.lin _ h)
    · exact s.unl q e
  · intro i hi
    rcases List.mem_cons.1 hi with e | e
    · exact .inr ⟨y, List.mem_cons_self, e.symm⟩
    · rcases s.cov i e with h | ⟨q, h3, h4⟩
      · exact .inl h
      · exact .inr ⟨q, List.mem_cons_of_mem _ h3, h4⟩
  · intro i hi
    exact List.mem_cons_of_mem _ (s.lin i hi)
  · rcases List.mem_cons.1 hi with e | e
    · have e : i = y.i := e
      rw [e, hy.op] at ho; cases ho
      rw [hdt] at hd; cases hd
    · exact s.eff i e o ho hd
theorem Sm.put (s : Sm P call ops N W a0 G φ0 z0 n0 D ev fr m nx listed a w) {i : Nat} {o : Oper} (hs : StepF ops (ev.map (·.1)) i o) (ho : ops[i]? = some o) (hr : i ∈ Region.ready .any ops listed) (hd : ∀ t, o.dst = some t → t < N) {fr2 : Frs} {v : V} (h2 : ∀ t u, look t fr2 = some u → (o.dst = some t ∧ u = v) ∨ (o.dst ≠ some t ∧ look t fr = some u)) {u : Value} {ids : List Nat} {m2 : Mem} {nx2 : Nat} {ma' : Mem}
    (f1 : FP D φ z fr a.tmps) (f2 : ∀ y ∈ D, FP D φ z y.fr a.tmps) (f7 : Fz.le z0 z) (k1 : VR φ' z' v u) (k2 : Emb.le φ φ') (k3 : Fz.le z z') (k4 : MR G φ' z' ma' w') (k5 : ∀ x B, look x ma' = some B ↔ (look x m2 = some B ∧ ∀ y ∈ D, ¬ y.rng x)) (k6 : Lt φ' nx2) (k7 : ∀ x, x < n0 → φ' x = φ0 x) (k8 : ∀ y ∈ D, ∀ x, y.rng x → φ' x = none)
    (hle : nx ≤ nx2) (hmem : ∀ y ∈ D, ∀ x B, look x y.m' = some B → look x m2 = some B) (hkey : ∀ x B, look x m2 = some B → x < nx2) : Sm P call ops N W a0 G φ0 z0 n0 D ((i, ids) :: ev) fr2 m2 nx2 (listed.setIfInBounds i true) (a.put o.dst u) w' := by
  have hil : i < listed.size := by rw [s.len]; exact (Array.getElem?_eq_some_iff.1 ho).1
  have niq : ∀ q ∈ D, i ≠ q.i := fun q hq e => hs.nin (e ▸ s.inE hq)
  refine ⟨⟨φ', z', ma', ?_, fun q hq => (f2 q hq).act (fun t v hv hdt => (s.oth hs hq).1 t hdt ((s.ok q hq).keys t v hv)) k2 k3, k4, k5, k6, k7, f7.trans k3, k8⟩, s.ok, fun q hq => ⟨Nat.le_trans (s.hi q hq).1 hle, (s.hi q hq).2⟩, hmem, hkey, s.dis, s.uni, s.dst, s.edg, fun q hq => ?_, fun q hq => ?_, fun j hj => ?_, fun j hj => ?_, ⟨⟨o, ho, hs.rdy⟩, s.topo⟩, cl_set s.cl hr, fun j hj o' ho' hd' => ?_, by simp [s.len], Nat.le_trans s.n hle, by rw [put_size]; exact s.sz, by rw [put_defers]; exact s.d, kp_put (s.wr _ _ ho) s.kp u, s.wr⟩
  · intro t x hx
    rcases h2 t x hx with ⟨h3, h4⟩ | ⟨h3, h4⟩
    · have hlt : t < a.tmps.size := Nat.lt_of_lt_of_le (hd t h3) s.sz
      refine .inr ⟨fun q hq e => (s.oth hs hq).2.1 t e h3, by rw [put_size]; exact hlt, ?_⟩
      rw [h3, put_get hlt, h4]; exact k1
    · rcases f1 t x h4 with h5 | ⟨h5, h6, h7⟩
      · exact .inl h5
      · refine .inr ⟨h5, by rw [put_size]; exact h6, ?_⟩
        rw [put_get_ne h3]; exact h7.le k2 k3
  · obtain ⟨ids, h3, h4⟩ := s.evs q hq
    exact ⟨ids, List.mem_cons_of_mem _ h3, h4⟩
  · rw [getD_set_ne _ (niq q hq)]; exact s.unl q hq
  · rcases List.mem_cons.1 hj with e | e
    · subst e; exact .inl (getD_set_same hil _)
    · by_cases e' : i = j
      · subst e'; exact .inl (getD_set_same hil _)
      · rcases s.cov j e with h | h
        · exact .inl (by rw [getD_set_ne _ e']; exact h)
        · exact .inr h
  · by_cases e : i = j
    · subst e; exact List.mem_cons_self
    · rw [getD_set_ne _ e] at hj; exact List.mem_cons_of_mem _ (s.lin j hj)
  · rcases List.mem_cons.1 hj with e | e
    · have e : j = i := e
      rw [e]; exact getD_set_same hil _
    · exact getD_set_mono (s.eff j e o' ho' hd')
theorem BR.ids {x : Nat} {B : Blk} (h : BR φ z w x B) {i : Nat} (hi : i ∈ idsB B) : ∃ q, φ i = some q := by
  cases B with
  | E l =>
    obtain ⟨b, arr, T, h1, h2, h3⟩ := h
    exact CVs.ids h3 hi
  | _ => cases hi
theorem reach_phi : ∀ (n : Nat) (m : Mem) (ids : List Nat), (∀ i ∈ ids, ∃ q, φ i = some q) → (∀ y B, look y m = some B → (∃ q, φ y = some q) → ∀ i ∈ idsB B, ∃ q, φ i = some q) → ∀ {x B}, look x (reach m n ids) = some B → ∃ q, φ x = some q
  | 0, m, ids, _, _, x, B, h => by cases h
  | n + 1, m, [], _, _, x, B, h => by cases h
  | n + 1, m, y :: l, hi, hm, x, B, h => by
    simp only [reach] at h
    split at h
    · rename_i b hb
      by_cases hx : y = x
      · subst hx; exact hi _ (by simp)
      · rw [look_ne hx] at h
        refine reach_phi n _ _ (fun i h1 => ?_) (fun y' B' h1 => hm y' B' (look_drp_some h1).2) h
        rcases List.mem_append.1 h1 with h1 | h1
        · exact hi i (by simp [h1])
        · exact hm y b hb (hi y (by simp)) i h1
    · exact reach_phi n _ _ (fun i h1 => hi i (by simp [h1])) hm h
theorem pickM_mem {m : Mem} : ∀ {l : List Nat} {x : Nat} {B : Blk}, look x (pickM m l) = some B → x ∈ l
  | [], x, B, h => by cases h
  | y :: l, x, B, h => by
    simp only [pickM] at h
    split at h
    · by_cases hx : y = x
      · simp [hx]
      · rw [look_ne hx] at h; simp [pickM_mem h]
    · simp [pickM_mem h]
theorem cutM_phi {fr : Frs} {m : Mem} {op : Op} (hf : ∀ t v, look t fr = some v → ∀ i ∈ idsV v, ∃ q, φ i = some q) (hm : ∀ y B, look y m = some B → (∃ q, φ y = some q) → ∀ i ∈ idsB B, ∃ q, φ i = some q) {x : Nat} {B : Blk} (h : look x (cutM fr m op) = some B) : ∃ q, φ x = some q := by
  have one : ∀ p, (∀ i ∈ idsOf fr p, ∃ q, φ i = some q) := fun p i hi => by
    obtain ⟨t, v, h1, h2⟩ := idsOf_ok hi
    exact hf t v h1 i h2
  have pk : ∀ p, look x (pickM m (idsOf fr p)) = some B → ∃ q, φ x = some q := fun p h => one p x (pickM_mem h)
  have many : ∀ l : List Operand, ∀ i ∈ l.flatMap (idsOf fr), ∃ q, φ i = some q := fun l i hi => by
    obtain ⟨p, _, h2⟩ := List.mem_flatMap.1 hi
    exact one p i h2
  cases op with
  | call c =>
    simp only [cutM] at h
    cases hb : detB (.call c) with
    | true => rw [hb] at h; exact many _ x (pickM_mem h)
    | false => rw [hb] at h; exact reach_phi 40 m _ (many _) hm h
  | _ => first | exact pk _ h | cases h
theorem bSame_eq {b c : Blk} (h : bSame b c) : b = c := by
  cases b <;> cases c <;> first | exact h.elim | (rcases fk_ok h with ⟨h1, h2⟩ | ⟨_, h2⟩ <;> first | exact h2.elim | rw [shEq_eq _ _ h1, h2])
theorem stillE_ok {l : List Nat} {m' : Mem} {X : Prop} : ∀ {E : Mem}, stillE l m' X E → X ∧ ∀ x B, x ∈ l → look x E = some B → look x m' = some B
  | [], h => ⟨h, fun x B _ hx => by cases hx⟩
  | p :: E, h => by
    simp only [stillE] at h
    cases hp : inB p.1 l with
    | true =>
      rw [hp] at h
      dsimp only [cond] at h
      split at h
      · rename_i c hc
        obtain ⟨h1, h2⟩ := stillE_ok h.2
        refine ⟨h1, fun x B hx hB => ?_⟩
        by_cases e : p.1 = x
        · subst e
          have : look p.1 (p :: E) = some p.2 := look_same ..
          rw [this] at hB
          cases hB
          rw [hc, ← bSame_eq h.1]
        · rw [show look x (p :: E) = look x E from look_ne e _ _] at hB
          exact h2 x B hx hB
      · exact h.elim
    | false =>
      rw [hp] at h
      obtain ⟨h1, h2⟩ := stillE_ok h
      refine ⟨h1, fun x B hx hB => ?_⟩
      by_cases e : p.1 = x
      · subst e; exact absurd hx (inB_no hp)
      · rw [show look x (p :: E) = look x E from look_ne e _ _] at hB
        exact h2 x B hx hB
theorem look_key {E : Mem} {x : Nat} (h : x ∈ keysM E) : ∃ B, look x E = some B := by
  induction E with
  | nil => cases h
  | cons p E ih =>
    by_cases e : p.1 = x
    · subst e; exact ⟨p.2, look_same ..⟩
    · rw [show look x (p :: E) = look x E from look_ne e _ _]
      rcases List.mem_cons.1 h with h | h
      · exact absurd h.symm e
      · exact ih h
theorem stillM_ok {l : List Nat} {E m' : Mem} {X : Prop} (h : stillM l E m' X) : X ∧ (∀ x B, x ∈ l → look x E = some B → look x m' = some B) ∧ ∀ x B, x ∈ l → look x m' = some B → ∃ B', look x E = some B' := by
  unfold stillM at h
  cases hb : (m'.all fun p => !(inB p.1 l) || inB p.1 (keysM E)) with
  | false => rw [hb] at h; exact h.elim
  | true =>
    rw [hb] at h
    obtain ⟨h1, h2⟩ := stillE_ok h
    refine ⟨h1, h2, fun x B hx hB => ?_⟩
    have := List.all_eq_true.1 hb (x, B) (look_mem hB)
    rcases or2 this with h3 | h3
    · exact absurd hx (inB_no (not_true h3))
    · exact look_key (inB_iff.1 h3)
theorem Sm.act (hC : CallOk P call) (s : Sm P call ops N W a0 G φ0 z0 n0 D ev fr m nx listed a w) {i : Nat} {o : Oper} (hs : StepF ops (ev.map (·.1)) i o) (ho : ops[i]? = some o) (hr : i ∈ Region.ready .any ops listed) {R : List (Nat × List Nat) → Frs → Mem → Nat → Prop} (hdet : detB o.op = false)
    (h : gate ops fr o
      (fun fr => dop P call (frSel fr (o.looksAt ops)) (cutM (frSel fr (o.looksAt ops)) m o.op) nx o.op fun v m' nx' => cond (detB o.op)
        (putK N o.dst v fr fun fr' => R ((i, keysM m') :: ev) fr' (m' ++ without m (cutM (frSel fr (o.looksAt ops)) m o.op)) nx')
        (stillM (pnOf ops ev o) (cutM (frSel fr (o.looksAt ops)) m o.op) m' (putK N o.dst v fr fun fr' => R ((i, keysM m') :: ev) fr' (m' ++ without m (cutM (frSel fr (o.looksAt ops)) m o.op)) nx')))
      (fun fr => putK N o.dst (.t []) fr fun fr => R ((i, []) :: ev) fr m nx))
    {Q : Exit → Act → World → Prop} {Kn : Act → World → Prop} (hn : ∀ ev2 fr2 m2 nx2 a' w', ev2.map (·.1) = i :: ev.map (·.1) → R ev2 fr2 m2 nx2 → Sm P call ops N W a0 G φ0 z0 n0 D ev2 fr2 m2 nx2 (listed.setIfInBounds i true) a' w' → Kn a' w') : wpOp P ops Q i Kn a w := by
  obtain ⟨fr', on, g1, g2, g3⟩ := gate_cases h
  obtain ⟨φ, z, ma, f1, f2, f3, f4, f5, f6, f7, f8⟩ := s.ex
  generalize hfc : frSel fr' (o.looksAt ops) = f at g2
  have hff : ∀ t v, look t f = some v → t ∈ o.looksAt ops ∧ look t fr = some v := by
    intro t v hv
    rw [← hfc] at hv
    obtain ⟨h1, h2⟩ := look_frSel_some hv
    exact ⟨h1, by rw [← g1]; exact h2⟩
  have hfr : FR φ z f a.tmps := by
    intro t v hv
    obtain ⟨h1, h2⟩ := hff t v hv
    rcases f1 t v h2 with ⟨q, h3, h4, _⟩ | ⟨_, h4⟩
    · exact (listed_no (edge_listed hr ho ((s.oth hs h3).2.2 t h4 h1)) (s.unl q h3)).elim
    · exact h4
  have hw := g3 φ z f a.tmps hfr fun t ht => by rw [← hfc]; exact look_frSel ht
  unfold wpOp
  rw [ho]
  dsimp only
  rcases g2 with ⟨hon, h⟩ | ⟨hon, h⟩
  · rw [if_pos (by rw [hw, hon])]
    refine .inl ?_
    have hEm : ∀ x B, look x (cutM f m o.op) = some B → look x m = some B := fun x B hx => cutM_sub hx
    have hEp : ∀ x B, look x (cutM f m o.op) = some B → ∃ q, φ x = some q := fun x B hx => cutM_phi (fun t v hv i hi => (hfr t v hv).2.ids hi) (fun y B hy hp i hi => by
      refine BR.ids (f3.blk y B ((f4 y B).2 ⟨hy, fun q hq hr => ?_⟩)) hi
      obtain ⟨p, hp⟩ := hp
      rw [f8 q hq y hr] at hp; cases hp) hx
    generalize cutM f m o.op = E at h hEm hEp
    have inPn : ∀ q ∈ D, ∀ x B, look x q.m' = some B → x ∈ pnOf ops ev o := by
      intro q hq x B hx
      obtain ⟨ids, h3, h4⟩ := s.evs q hq
      rcases pnGo_mem s.cl (ev := ev) (anc := predO o) (fun j hj => pred_listed hr ho hj) h3 with h5 | h5
      · exact (listed_no h5 (s.unl q hq)).elim
      · exact h5 x (h4 x B hx)
    rw [hdet] at h
    have h : dop P call f E nx o.op fun v m' nx' => stillM (pnOf ops ev o) E m' (putK N o.dst v fr' fun fr' => R ((i, keysM m') :: ev) fr' (m' ++ without m E) nx') := h
    have hsub : ∀ x B, look x E = some B → look x ma = some B := fun x B hx => by
      refine (f4 x B).2 ⟨hEm x B hx, fun q hq hxr => ?_⟩
      obtain ⟨p, hp⟩ := hEp x B hx
      rw [f8 q hq x hxr] at hp; cases hp
    have hcut := f3.cut (φ' := φ) hsub fun _ _ => rfl
    refine dop_ok hC ⟨hfr, hcut, fun _ _ _ _ x h1 _ => f5.none h1⟩ h Kn Q ?_
    intro w' v m' nx' φ' z' u h1 h2 h3 h4 h5 h6 h7
    obtain ⟨h1, st1, st2⟩ := stillM_ok h1
    obtain ⟨fr2, k1, k2, k3⟩ := putK_cases h1
    have hj := f3.join (φr := φ) hsub h4 h3 (.refl φ') h2
    have stay : ∀ q ∈ D, ∀ x B, look x q.m' = some B → (look x m' = some B ∧ look x E = some B) ∨ (look x m' = none ∧ look x E = none) := by
      intro q hq x B hx
      have hp := inPn q hq x B hx
      cases hE : look x E with
      | some B' =>
        have : B' = B := by
          have a := hEm x B' hE
          rw [s.mem q hq x B hx] at a
          exact (Option.some.inj a).symm
        subst this
        exact .inl ⟨st1 x B' hp hE, rfl⟩
      | none =>
        refine .inr ⟨?_, rfl⟩
        cases hm : look x m' with
        | none => rfl
        | some B' =>
          obtain ⟨B2, hB2⟩ := st2 x B' hp hm
          rw [hE] at hB2; cases hB2
    have notm' : ∀ q ∈ D, ∀ x, q.rng x → look x m' = none := by
      intro q hq x hx
      obtain ⟨_, B1, hB1⟩ := rng_look (s.ok q hq).shape hx
      rcases stay q hq x B1 hB1 with ⟨_, h9⟩ | ⟨h9, _⟩
      · obtain ⟨p, hp⟩ := hEp x B1 h9
        rw [f8 q hq x hx] at hp; cases hp
      · exact h9
    have rngD : ∀ q ∈ D, ∀ x, q.rng x → x < nx := fun q hq x hx => by have := (s.hi q hq).1; have := hx.2; omega
    have lt' : Lt φ' nx' := f5.dom h5 h6
    refine hn _ _ _ _ _ w' (by simp) k1 (s.put hs ho hr k2 (v := v) (fun t u hu => ?_) (u := u) (ids := keysM m') f1 f2 f7 h7 h2 h3 hj ?_ lt' ?_ ?_ h6 ?_ ?_)
    · rcases k3 t u hu with h8 | ⟨h8, h9⟩
      · exact .inl h8
      · exact .inr ⟨h8, by rw [← g1]; exact h9⟩
    · intro x B
      rw [look_append, look_without, look_append, look_without]
      cases hm : look x m' with
      | some B' =>
        dsimp only
        refine ⟨fun h => ⟨h, fun q hq hx => ?_⟩, fun h => h.1⟩
        rw [notm' q hq x hx] at hm; cases hm
      | none =>
        dsimp only
        cases hm2 : look x E with
        | some B' => dsimp only; exact ⟨(fun h => nomatch h), (fun h => nomatch h.1)⟩
        | none => exact f4 x B
    · intro x hx
      rw [← f6 x hx]
      cases hq : φ x with
      | some q => exact h2 x q hq
      | none =>
        cases hq' : φ' x with
        | none => rfl
        | some q =>
          rcases h5 x q hq' with h8 | h8
          · rw [hq] at h8; cases h8
          · have := s.n; omega
    · intro q hq x hx
      cases hq' : φ' x with
      | none => rfl
      | some p =>
        rcases h5 x p hq' with h8 | h8
        · rw [f8 q hq x hx] at h8; cases h8
        · have := rngD q hq x hx; omega
    · intro q hq x B hx
      rw [look_append, look_without]
      rcases stay q hq x B hx with ⟨h8, _⟩ | ⟨h8, h9⟩
      · rw [h8]
      · rw [h8, h9]
        exact s.mem q hq x B hx
    · intro x B hx
      rw [look_append, look_without] at hx
      cases hm : look x m' with
      | some B' =>
        obtain ⟨p, hp⟩ := (h4.blk x B' hm).has
        exact lt' x p hp
      | none =>
        rw [hm] at hx
        dsimp only at hx
        cases hm2 : look x E with
        | some B' => rw [hm2] at hx; cases hx
        | none => rw [hm2] at hx; exact Nat.lt_of_lt_of_le (s.key x B hx) h6
  · rw [if_neg (by rw [hw, hon]; simp)]
    obtain ⟨fr2, k1, k2, k3⟩ := putK_cases h
    refine hn _ _ _ _ _ w (by simp) k1 (s.put hs ho hr k2 (v := .t []) (fun t u hu => ?_) (u := undef) (ids := []) f1 f2 f7 undef_ok (.refl φ) (.refl z) f3 f4 f5 f6 f8 (Nat.le_refl _) s.mem s.key)
    rcases k3 t u hu with h8 | ⟨h8, h9⟩
    · exact .inl h8
    · exact .inr ⟨h8, by rw [← g1]; exact h9⟩
end
end Go.Proofs.YtgjindhjgmplgaaGreat
end
section
set_option linter.constructorNameAsVariable false
namespace Go.Proofs.YtgjindhjgmplgaaGreat
open Go.RowKit
section
variable {P : Program} {G : Gd} {φ φ' φ0 : Emb} {z z' z0 : Fz} {fr : Frs} {m : Mem} {nx n0 N : Nat} {a : Act} {W : List Nat} {a0 : Act} {w w' : World} {k : KVk} {call : CallF} {ops : Array Oper} {D : List Pd} {ev : List (Nat × List Nat)} {listed : Array Bool}
theorem rep_no (n i : Nat) : (Array.replicate n false).getD i false = false := by
  by_cases h : i < n <;> simp [h]
theorem rdy_of {E : List Nat} {o : Oper} (h : ∀ e ∈ o.after, Region.binds .any e = true → e.on ∈ E) : rdyO E o = true := by
  refine List.all_eq_true.2 fun e he => ?_
  cases hb : Region.binds .any e with
  | false => rfl
  | true => simp only [Bool.not_true, Bool.false_or]; exact inB_iff.2 (h e (by simpa using he) hb)
theorem rdy_get {E : List Nat} {o : Oper} (h : rdyO E o = true) : ∀ e ∈ o.after, Region.binds .any e = true → e.on ∈ E := by
  intro e he hb
  have := List.all_eq_true.1 h e (by simpa using he)
  rw [hb] at this
  simp only [Bool.not_true, Bool.false_or] at this
  exact inB_iff.1 this
theorem sim_step (hC : CallOk P call) {K : Frs → Mem → Nat → Prop} {Q : Exit → Act → World → Prop} {Kn : Act → World → Prop} {i : Nat} : ∀ (l : List Nat) (D : List Pd) (ev : List (Nat × List Nat)) (fr : Frs) (m : Mem) (nx : Nat), dregC P call N ops l ev fr m nx K → planOk ops (ev.map (·.1)) l = true → Sm P call ops N W a0 G φ0 z0 n0 D ev fr m nx listed a w → i ∈ Region.ready .any ops listed →
    (∀ D' l' ev' fr' m' nx' a' w', dregC P call N ops l' ev' fr' m' nx' K → planOk ops (ev'.map (·.1)) l' = true → Sm P call ops N W a0 G φ0 z0 n0 D' ev' fr' m' nx' (listed.setIfInBounds i true) a' w' → Kn a' w') → wpOp P ops Q i Kn a w := by
  intro l
  induction l with
  | nil =>
    intro D ev fr m nx h hp s hr hn
    obtain ⟨h1, o, ho, _⟩ := mem_ready.1 hr
    have := List.all_eq_true.1 hp i (List.mem_range.2 (Array.getElem?_eq_some_iff.1 ho).1)
    rcases s.cov i (inB_iff.1 this) with h2 | ⟨y, hy, rfl⟩
    · exact (listed_no h2 h1).elim
    · exact s.exec hC hy hr fun a' w' s' => hn _ _ _ _ _ _ a' w' h hp s'
  | cons j l ih =>
    intro D ev fr m nx h hp s hr hn
    by_cases hD : ∃ y ∈ D, y.i = i
    · obtain ⟨y, hy, rfl⟩ := hD
      exact s.exec hC hy hr fun a' w' s' => hn _ _ _ _ _ _ a' w' h hp s'
    · simp only [planOk] at hp
      simp only [dregC] at h
      obtain ⟨o, ho, h⟩ := oP_ok h
      rw [ho] at hp
      obtain ⟨hp1, hp2⟩ := and2 hp
      have hs := stepF_of hp1
      cases hdet : detB o.op with
      | true =>
        obtain ⟨fr', on, g1, g2, g3⟩ := gate_cases h
        have kf : ∀ t v, look t (frSel fr' (o.looksAt ops)) = some v → t ∈ o.looksAt ops ∧ look t fr = some v := by
          intro t v hv
          obtain ⟨h1, h2⟩ := look_frSel_some hv
          exact ⟨h1, by rw [← g1]; exact h2⟩
        have want : ∀ φ z tmps, FR φ z (frSel fr' (o.looksAt ops)) tmps → Region.wanted o (yielded ops tmps) = on := fun φ z tmps hf => g3 φ z _ tmps hf fun t ht => look_frSel ht
        rcases g2 with ⟨rfl, h⟩ | ⟨rfl, h⟩
        · rw [hdet] at h
          have h : dop P call (frSel fr' (o.looksAt ops)) (cutM (frSel fr' (o.looksAt ops)) m o.op) nx o.op fun v m' nx' => putK N o.dst v fr' fun fr'' => dregC P call N ops l ((j, keysM m') :: ev) fr'' (m' ++ without m (cutM (frSel fr' (o.looksAt ops)) m o.op)) nx' K := h
          obtain ⟨v, m', nx', h1, h2, h3⟩ := dop_det hdet _ h
          obtain ⟨fr2, k1, k2, k3⟩ := putK_cases h1
          have hy : PdOk P call ops N ⟨j, o, true, v, frSel fr' (o.looksAt ops), cutM (frSel fr' (o.looksAt ops)) m o.op, m', nx, nx'⟩ :=
            ⟨ho, k2, fun t v hv => (kf t v hv).1, want, fun _ => h3, h2, fun x B hx => cutM_ids hdet hx, fun h => nomatch h⟩
          refine ih _ _ _ _ _ k1 (by simpa using hp2) (s.ahead hs hy hdet rfl (fun x B hx => cutM_sub hx) (fun t v hv => (kf t v hv).2) fun t u hu => ?_) hr hn
          rcases k3 t u hu with h8 | ⟨h8, h9⟩
          · exact .inl h8
          · exact .inr ⟨h8, by rw [← g1]; exact h9⟩
        · obtain ⟨fr2, k1, k2, k3⟩ := putK_cases h
          have hy : PdOk P call ops N ⟨j, o, false, .t [], frSel fr' (o.looksAt ops), [], [], nx, nx⟩ :=
            ⟨ho, k2, fun t v hv => (kf t v hv).1, want, (fun h => nomatch h), .inl ⟨rfl, rfl⟩, (fun x B hx => nomatch hx), fun _ => ⟨rfl, rfl⟩⟩
          refine ih _ _ _ _ _ k1 (by simpa using hp2) (s.ahead hs hy hdet rfl (fun x B hx => nomatch hx) (fun t v hv => (kf t v hv).2) fun t u hu => ?_) hr hn
          rcases k3 t u hu with h8 | ⟨h8, h9⟩
          · exact .inl h8
          · exact .inr ⟨h8, by rw [← g1]; exact h9⟩
      | false =>
        have hij : i = j := by
          rcases hs.act with h1 | h1
          · rw [hdet] at h1; cases h1
          · obtain ⟨h2, o', ho', h3⟩ := mem_ready.1 hr
            rcases h1 i (Array.getElem?_eq_some_iff.1 ho').1 with h4 | h4 | h4
            · rcases s.cov i h4 with h5 | h5
              · exact (listed_no h5 h2).elim
              · exact (hD h5).elim
            · exact h4
            · unfold rdyE at h4
              rw [ho'] at h4
              dsimp only at h4
              have : rdyO (ev.map (·.1)) o' = true := rdy_of fun e he hb => s.lin _ (h3 e he hb)
              rw [this] at h4; cases h4
        subst hij
        refine s.act hC hs ho hr (R := fun ev fr m nx => dregC P call N ops l ev fr m nx K) hdet h ?_
        intro ev2 fr2 m2 nx2 a' w' he hk s'
        exact hn _ _ _ _ _ _ a' w' hk (by rw [he]; exact hp2) s'
theorem topo_listed : ∀ {E : List Nat}, Topo ops E → Region.ready .any ops listed = [] → listed.size = ops.size → ∀ i ∈ E, listed.getD i false = true
  | [], _, _, _, i, hi => by cases hi
  | j :: E, h, hr, hl, i, hi => by
    obtain ⟨⟨o, ho, h1⟩, h2⟩ := h
    have ih := topo_listed h2 hr hl
    rcases List.mem_cons.1 hi with rfl | hi
    · by_cases hb : listed.getD i false = true
      · exact hb
      · have hlt := (Array.getElem?_eq_some_iff.1 ho).1
        have : i ∈ Region.ready .any ops listed := mem_ready.2 ⟨unl_of (by omega) hb, o, ho, fun e he hb => ih _ (rdy_get h1 e he hb)⟩
        rw [hr] at this; cases this
    · exact ih i hi
theorem sim_end {K : Frs → Mem → Nat → Prop} {l : List Nat} (h : dregC P call N ops l ev fr m nx K) (hp : planOk ops (ev.map (·.1)) l = true) (s : Sm P call ops N W a0 G φ0 z0 n0 D ev fr m nx listed a w) (hr : Region.ready .any ops listed = []) : K fr m nx ∧ At G φ0 z0 n0 W a0 N ⟨fr, m, nx⟩ a w := by
  have hE := topo_listed s.topo hr s.len
  have hD : ∀ q ∈ D, False := fun q hq => listed_no (hE _ (s.inE hq)) (s.unl q hq)
  constructor
  · cases l with
    | nil => exact h
    | cons j l =>
      simp only [planOk] at hp
      split at hp
      · rename_i o ho
        have hs := stepF_of (and2 hp).1
        have hlt := (Array.getElem?_eq_some_iff.1 ho).1
        have : j ∈ Region.ready .any ops listed := mem_ready.2 ⟨unl_of (by rw [s.len]; exact hlt) fun hb => hs.nin (s.lin _ hb), o, ho, fun e he hb => hE _ (rdy_get hs.rdy e he hb)⟩
        rw [hr] at this; cases this
      · cases hp
  · obtain ⟨φ, z, ma, f1, f2, f3, f4, f5, f6, f7, f8⟩ := s.ex
    refine ⟨⟨φ, z, f1.frm fun t v hv q hq => (hD q hq).elim, f3.forget fun x B hx => (f4 x B).2 ⟨hx, fun q hq => (hD q hq).elim⟩, f5, f6, f7⟩, s.n, s.sz, s.d, s.kp⟩
theorem count_set : ∀ (l : List Bool) (i : Nat), l[i]? = some false → (l.set i true).countP (!·) + 1 = l.countP (!·)
  | b :: l, 0, h => by
    simp at h
    subst h
    simp
  | b :: l, i + 1, h => by
    have := count_set l i (by simpa using h)
    simp only [List.set_cons_succ, List.countP_cons]
    omega
theorem sim (hC : CallOk P call) {K : Frs → Mem → Nat → Prop} {Q : Exit → Act → World → Prop} (hq : ∀ fr m nx a w, K fr m nx → At G φ0 z0 n0 W a0 N ⟨fr, m, nx⟩ a w → Q .normal a w) : ∀ (fuel : Nat) (D : List Pd) (l : List Nat) (ev : List (Nat × List Nat)) (fr : Frs) (m : Mem) (nx : Nat) (listed : Array Bool) (a : Act) (w : World), dregC P call N ops l ev fr m nx K → planOk ops (ev.map (·.1)) l = true → Sm P call ops N W a0 G φ0 z0 n0 D ev fr m nx listed a w → listed.toList.countP (!·) ≤ fuel → wpAny P .any ops Q fuel listed a w
  | 0, D, l, ev, fr, m, nx, listed, a, w, h, hp, s, hf => by
    have hr : Region.ready .any ops listed = [] := by
      cases hq : Region.ready .any ops listed with
      | nil => rfl
      | cons j r =>
        have : j ∈ Region.ready .any ops listed := by rw [hq]; exact List.mem_cons_self
        obtain ⟨h1, o, ho, _⟩ := mem_ready.1 this
        have hlt : j < listed.size := by rw [s.len]; exact (Array.getElem?_eq_some_iff.1 ho).1
        simp [hlt] at h1
        have h2 := List.countP_eq_zero.1 (Nat.le_zero.1 hf) listed[j] (by simp)
        rw [h1] at h2
        simp at h2
    obtain ⟨h1, h2⟩ := sim_end h hp s hr
    exact ⟨hr, hq _ _ _ _ _ h1 h2⟩
  | fuel + 1, D, l, ev, fr, m, nx, listed, a, w, h, hp, s, hf => by
    refine ⟨fun hr => ?_, fun i hi => ?_⟩
    · obtain ⟨h1, h2⟩ := sim_end h hp s hr
      exact hq _ _ _ _ _ h1 h2
    · refine sim_step hC l D ev fr m nx h hp s hi ?_
      intro D' l' ev' fr' m' nx' a' w' h' hp' s'
      refine sim hC hq fuel D' l' ev' fr' m' nx' _ a' w' h' hp' s' ?_
      obtain ⟨h1, o, ho, _⟩ := mem_ready.1 hi
      have hlt : i < listed.size := by rw [s.len]; exact (Array.getElem?_eq_some_iff.1 ho).1
      simp [hlt] at h1
      have := count_set listed.toList i (by simp [hlt, h1])
      rw [Array.toList_setIfInBounds]
      omega
theorem draw_ok (hC : CallOk P call) {lp : Lp} {id : Nat} {st : St} {K : Ex → St → Prop} (h : dwp P call lp N (.region id ops true) st K) (hW : ∀ t ∈ wrT (.region id ops true), t ∈ W) (hA : At G φ0 z0 n0 W a0 N st a w) : (Code.region id ops true).wp P (fun e a w => ∃ e' st', e = (match e' with | Ex.nrm => Exit.normal | .ex i => .exit i | .ret => .ret) ∧ K e' st' ∧ At G φ0 z0 n0 W a0 N st' a w) a w := by
  have h : cond (P.follows .mixedOrders && planOk ops [] (planOf ops)) (dregC P call N ops (planOf ops) [] (thawFr st.m st.fr) st.m st.nx fun fr m nx => K .nrm ⟨fr, m, nx⟩) False := by simpa only [dwp] using h
  cases hb : (P.follows .mixedOrders && planOk ops [] (planOf ops)) with
  | false => rw [hb] at h; exact h.elim
  | true =>
    rw [hb] at h
    obtain ⟨hm, hp⟩ := and2 hb
    obtain ⟨⟨φ, z, hf, hmr, hlt, hlo, hz⟩, hn1, hsz, hd, hkp⟩ := hA
    refine wp_region_any hm (sim hC (fun fr m nx a w hk hA' => ⟨.nrm, _, rfl, hk, hA'⟩) ops.size [] (planOf ops) [] (thawFr st.m st.fr) st.m st.nx _ a _ h hp ?_ ?_)
    · have hmr' : MR G φ z st.m { w with drawn := w.drawn + 1 } := hmr.same rfl rfl rfl rfl
      refine ⟨⟨φ, z, st.m, fun t v hv => .inr ⟨(fun _ h => nomatch h), thawFr_ok hmr hf t v hv⟩, (fun _ h => nomatch h), hmr', fun x B => ⟨fun h => ⟨h, (fun _ h => nomatch h)⟩, fun h => h.1⟩, hlt, hlo, hz, (fun _ h => nomatch h)⟩, (fun _ h => nomatch h), (fun _ h => nomatch h), (fun _ h => nomatch h), fun x B hx => ?_, (fun _ h => nomatch h), (fun _ h => nomatch h), (fun _ h => nomatch h), (fun _ h => nomatch h), (fun _ h => nomatch h), (fun _ h => nomatch h), (fun _ h => nomatch h), fun i hi => ?_, trivial, (fun i o ho h => by rw [rep_no] at h; cases h), (fun i hi => by cases hi), by simp, hn1, hsz, hd, hkp, fun i o ho t ht => hW t (List.mem_filterMap.2 ⟨o, by simpa using List.mem_of_getElem? (by simpa using ho : ops.toList[i]? = some o), ht⟩)⟩
      · obtain ⟨v, hv⟩ := (hmr.blk x B hx).has
        exact hlt x v hv
      · by_cases hi2 : i < ops.size
        · simp [hi2] at hi
        · simp [hi2] at hi
    · refine Nat.le_trans List.countP_le_length ?_
      simp
end
end Go.Proofs.YtgjindhjgmplgaaGreat
end
