/-
  Symbolic runs of the service: what is asked of logs, lists, locks and the bytes of pages (predicates), new names, contracts with code behind them. No function of the program is named here.
-/
import Derived.Test.YtjnfgapfhpihmaaGreatSymF
import Derived.Test.YtjnfgapfhpihmaaGreatTriC
import Derived.Test.YtjnfgapfhpihmaaGreatSymI
import Derived.Test.YtjnfgapfhpihmaaGreatNat1
set_option linter.unusedVariables false
set_option linter.unusedSimpArgs false
namespace Go.Proofs.YtjnfgapfhpihmaaGreat
open Go.RowKit
def VCell (b : Bool) (s : ByteArray) : Prop := s.size ≤ 12 ∧ (b = false → s = ⟨#[]⟩)
def ChgOk (pg sl : Int) (bs : Bool) (bd : ByteArray) (az : Bool) (ad : ByteArray) : Prop := 0 ≤ pg ∧ pg ≤ 63 ∧ 0 ≤ sl ∧ sl ≤ 15 ∧ VCell bs bd ∧ VCell az ad
def ChgNo (pg sl : Int) (bs : Bool) (bd : ByteArray) (az : Bool) (ad : ByteArray) : Prop := pg = 0 ∧ sl = 0 ∧ bs = false ∧ bd = ⟨#[]⟩ ∧ az = false ∧ ad = ⟨#[]⟩
def enR (lsn kind tx ptx pp ref pg sl : Int) (bs : Bool) (bd : ByteArray) (az : Bool) (ad : ByteArray) : List DV := [.i lsn, .i kind, .i tx, .i ptx, .i pp, .i ref, .i pg, .i sl, .b bs, .s bd, .b az, .s ad, .s ⟨#[]⟩]
def EnOk (i : Nat) (row : List DV) : Prop := ∃ (kind tx ptx pp ref pg sl : Int) (bs : Bool) (bd : ByteArray) (az : Bool) (ad : ByteArray), row = enR (i + 1) kind tx ptx pp ref pg sl bs bd az ad ∧ 0 ≤ ptx ∧ ptx ≤ i ∧ 0 ≤ pp ∧ pp ≤ i ∧ 0 ≤ ref ∧ ref ≤ i ∧
  ((kind = 1 ∧ tx = 1 ∧ ref = 0 ∧ ChgOk pg sl bs bd az ad) ∨ (kind = 7 ∧ tx = 0 ∧ ptx = 0 ∧ pp = 0 ∧ 0 ≤ pg ∧ pg ≤ 63 ∧ ChgNo 0 sl bs bd az ad))
def JV (d : List (List DV)) : Prop := d.length ≤ 4000 ∧ ∀ (i : Nat) row, d[i]? = some row → EnOk i row
def Asc (d : List (List DV)) (m : Int) : Prop := d.length ≤ 4000 ∧ m ≤ 4000 ∧ ∃ ns : List Int, d = ns.map (fun n => [DV.i n]) ∧ ns.Pairwise (· < ·) ∧ ∀ n ∈ ns, 1 ≤ n ∧ n ≤ m
def IsAt (d : List (List DV)) (x at' : Int) : Prop := 0 ≤ at' ∧ d[at'.toNat]? = some [DV.i x] ∧ ∃ m, Asc d m
def ofL (l : List (Int × Int)) : List (List DV) := l.map fun x => [.i 1, .i x.1, .i 7, .i x.2]
def HV (d : List (List DV)) (n : Int) : Prop := n ≤ 7 ∧ ∃ l : List (Int × Int), d = ofL l ∧ l.Pairwise (fun x y => x.1 < y.1) ∧ ∀ x ∈ l, 0 ≤ x.1 ∧ x.1 < n ∧ 1 ≤ x.2 ∧ x.2 ≤ 2
def insL : List (Int × Int) → Int → Int → List (Int × Int)
  | [], p, m => [(p, m)]
  | x :: l, p, m => if x.1 < p then x :: insL l p m else if x.1 = p then (p, max x.2 m) :: l else (p, m) :: x :: l
def toL (d : List (List DV)) : List (Int × Int) := d.map fun r => match r with
  | [.i _, .i p, .i _, .i m] => (p, m)
  | _ => (0, 0)
def insD (d : List (List DV)) (p m : Int) : List (List DV) := ofL (insL (toL d) p m)
theorem toL_ofL (l : List (Int × Int)) : toL (ofL l) = l := by
  unfold toL ofL
  rw [List.map_map]
  exact (List.map_congr_left fun x _ => rfl).trans (List.map_id _)
def noC : List UInt8 := 255 :: List.replicate 12 0
def noCs (k : Nat) : List UInt8 := (List.replicate k noC).flatten
def preL (id lsn : Int) (c : List UInt8) : List UInt8 := putL lsn 8 ++ putL id 4 ++ noCs 7 ++ (1 :: c ++ List.replicate 11 0) ++ noCs 8 ++ List.replicate 24 0
def encL (id lsn : Int) (c : List UInt8) : List UInt8 := preL id lsn c ++ putL (crcF (preL id lsn c) : Nat) 4 ++ putL lsn 8
def encB (id lsn : Int) (c : ByteArray) : ByteArray := ⟨(encL id lsn c.data.toList).toArray⟩
def blankB : ByteArray := ⟨(List.replicate 256 (0 : UInt8)).toArray⟩
def PgB (v : ByteArray) (id x : Int) (b : Bool) (d : ByteArray) : Prop := 0 ≤ id ∧ id ≤ 63 ∧ ((x = 0 ∧ b = false ∧ d = ⟨#[]⟩ ∧ v = blankB) ∨ (1 ≤ x ∧ x ≤ 4000 ∧ b = true ∧ d.size = 1 ∧ v = encB id x d))
def PgC (x : Int) (b : Bool) (d : ByteArray) : Prop := (0 ≤ x ∧ x ≤ 4000 ∧ b = false ∧ d = ⟨#[]⟩) ∨ (1 ≤ x ∧ x ≤ 4000 ∧ b = true ∧ d.size = 1)
def BytesD (d : List (List DV)) : Prop := d.length ≤ 200 ∧ ∀ row ∈ d, ∃ x, row = [.i x] ∧ 0 ≤ x ∧ x ≤ 255
def nxtF (d : List (List DV)) (i : Int) (n : Nat) : Int := match d[i.toNat]? with
  | some (.i x :: _) => x % n
  | _ => 0
def advF (d : List (List DV)) (i : Int) : Int := if i < d.length then i + 1 else i
def QR : Nat → List MV → Prop
  | 1, [y] => JV y.d
  | 2, [b, s] => VCell b.b s.s
  | 3, [q, m] => Asc q.d m.i
  | 4, [q, x, a] => IsAt q.d x.i a.i
  | 10, [v, id, x, b, d] => PgB v.s id.i x.i b.b d.s
  | 11, [h, n] => HV h.d n.i
  | 12, [c] => BytesD c.d
  | 13, [x, b, d] => PgC x.i b.b d.s
  | _, _ => True
def getL : List UInt8 → Nat
  | [] => 0
  | b :: l => b.toNat + 256 * getL l
def gtF (s : ByteArray) (at' size : Nat) : Int := (getL ((s.data.toList.drop at').take size) : Nat)
def fxP (f : Nat) (a c : MV) : MV :=
  if f = 2001 then { s := ⟨(a.s.data.toList ++ putL c.i c.d.length).toArray⟩ } else if f = 2002 then { i := a.i, d := List.replicate c.i.toNat [] } else
  if f = 2003 then { s := ⟨(Lib.repeatL [0] a.i.toNat).toArray⟩ } else if f = 2004 then { i := ((crcF a.s.data.toList : Nat) : Int) } else
  if f = 3000 then { s := a.s.extract c.i.toNat c.d.length } else if f = 3010 then { i := gtF a.s c.i.toNat c.d.length } else
  if f = 3100 then { s := encB a.d.length a.i c.s } else if f = 3200 then { d := insD a.d c.i c.d.length } else
  if f = 4000 then { i := nxtF a.d c.i c.d.length } else if f = 4001 then { i := advF a.d c.i } else {}
structure PP (ρ : Vn) : Prop where
  put : ∀ s n k, ρ.s (.f2 2001 s (.f2 2002 n (.num k))) = ⟨((ρ.s s).data.toList ++ putL (ρ.i n) k.toNat).toArray⟩
  rep : ∀ n, ρ.s (.f1 2003 n) = ⟨(Lib.repeatL [0] (ρ.i n).toNat).toArray⟩
  sum : ∀ s, ρ.i (.f1 2004 s) = ((crcF (ρ.s s).data.toList : Nat) : Int)
  sub : ∀ s lo hi, ρ.s (.f2 3000 s (.f2 2002 (.num lo) (.num hi))) = (ρ.s s).extract lo.toNat hi.toNat
  gt : ∀ s at' k, ρ.i (.f2 3010 s (.f2 2002 (.num at') (.num k))) = gtF (ρ.s s) at'.toNat k.toNat
  enc : ∀ x id d, ρ.s (.f2 3100 (.f2 2002 x id) d) = encB ((ρ.i id).toNat : Nat) (ρ.i x) (ρ.s d)
  ins : ∀ h p m, ρ.d (.f2 3200 h (.f2 2002 p m)) = insD (ρ.d h) (ρ.i p) ((ρ.i m).toNat : Nat)
  nx : ∀ q i n, ρ.i (.f2 4000 q (.f2 2002 i (.num n))) = nxtF (ρ.d q) (ρ.i i) n.toNat
  adv : ∀ q i, ρ.i (.f2 4001 q i) = advF (ρ.d q) (ρ.i i)
  ifs : IfStd ρ
theorem mx_run {P : Program} {f : Operand → Value} {c : Call} {x y : Operand} {ty : TypeId} {k : IntKind} {a b : Int} (hc : c.callee = .builtin .max) (ha : c.args = #[x, y]) (hx : f x = .int k a) (hy : f y = .int k b) (w : World) : (opR f (.call c) ty).run P w = .ok (.value (.int k (if b > a then b else a))) w := by
  rw [opR_builtin hc, ha]
  simp [builtin, Builtin.max_, Builtin.max2, hx, hy]
def isMx (c : Call) : Bool := match c.callee with
  | .builtin .max => true
  | _ => false
theorem isMx_ok {c : Call} (h : isMx c = true) : c.callee = .builtin .max := by
  unfold isMx at h
  split at h
  · assumption
  · cases h
def mxG (F : List Fc) (o : Op) (l : List (Option AV)) : Option AV := match o, l with
  | .call c, [some (.c u), some (.c v)] => bif isMx c then (match nmI u, nmI v with
    | some x, some y => bif eqK x.1 y.1 then (match cmpF F .leq x.2 y.2 with
      | some true => some (.c v)
      | some false => some (.c u)
      | none => none) else none
    | _, _ => none) else none
  | _, _ => none
theorem mxG_ok {F : List Fc} {ρ : Vn} {Q : Nat → List MV → Prop} {φ : Emb} (hs : StdF ρ) (h : ∀ f ∈ F, f.holds Q ρ) {o : Op} {l : List (Option AV)} {v : AV} (e : mxG F o l = some v) (P : Program) (f : Operand → Value) (ty : TypeId) (w : World)
    (hl : All2 (fun (a : Option AV) x => ∀ b, a = some b → VV ρ φ b (f x)) l o.operands.toList) : ∃ u, (opR f o ty).run P w = .ok (.value u) w ∧ VV ρ φ v u := by
  unfold mxG at e
  split at e
  · rename_i c u v'
    cases hm : isMx c with
    | false => rw [hm] at e; cases e
    | true =>
      rw [hm] at e
      simp only [cond_true] at e
      have hc := isMx_ok hm
      have hops : (Op.call c).operands = c.args := by simp [Op.operands, Call.operands, hc]
      rw [hops] at hl
      obtain ⟨x, y, hxy⟩ : ∃ x y, c.args.toList = [x, y] := by
        cases hq : c.args.toList with
        | nil => rw [hq] at hl; cases hl
        | cons x t =>
          rw [hq] at hl
          cases hl with
          | cons _ h2 =>
            cases h2 with
            | cons _ h3 => cases h3; exact ⟨_, _, rfl⟩
      rw [hxy] at hl
      cases hl with
      | cons a1 t1 =>
        cases t1 with
        | cons a2 t2 =>
          split at e
          · rename_i m n hm' hn
            cases hk : eqK m.1 n.1 with
            | false => rw [hk] at e; cases e
            | true =>
              rw [hk] at e
              simp only [cond_true] at e
              have hk' : m.1 = n.1 := of_decide_eq_true hk
              have e1 : f x = .int m.1 (ρ.i m.2) := nmI_ok hs.toStdA hm' (a1 _ rfl)
              have e2 : f y = .int m.1 (ρ.i n.2) := by rw [hk']; exact nmI_ok hs.toStdA hn (a2 _ rfl)
              have ha : c.args = #[x, y] := by
                cases hca : c.args with
                | mk l => rw [hca] at hxy; simpa using hxy
              refine ⟨_, mx_run hc ha e1 e2 w, ?_⟩
              split at e
              · rename_i g
                have g' := cmpF_ok hs h g
                simp only [icmp, Option.some.injEq, decide_eq_true_eq] at g'
                cases e
                have : (if ρ.i n.2 > ρ.i m.2 then ρ.i n.2 else ρ.i m.2) = ρ.i n.2 := by split <;> omega
                rw [this]
                have := a2 _ rfl
                rw [e2] at this
                exact this
              · rename_i g
                have g' := cmpF_ok hs h g
                simp only [icmp, Option.some.injEq, decide_eq_false_iff_not] at g'
                cases e
                have : (if ρ.i n.2 > ρ.i m.2 then ρ.i n.2 else ρ.i m.2) = ρ.i m.2 := by split <;> omega
                rw [this]
                have := a1 _ rfl
                rw [e1] at this
                exact this
              · cases e
          · cases e
  · cases e
theorem mn_run {P : Program} {f : Operand → Value} {c : Call} {x y : Operand} {ty : TypeId} {k : IntKind} {a b : Int} (hc : c.callee = .builtin .min) (ha : c.args = #[x, y]) (hx : f x = .int k a) (hy : f y = .int k b) (w : World) : (opR f (.call c) ty).run P w = .ok (.value (.int k (if b < a then b else a))) w := by
  rw [opR_builtin hc, ha]
  simp [builtin, Builtin.min_, Builtin.min2, hx, hy]
def isMn (c : Call) : Bool := match c.callee with
  | .builtin .min => true
  | _ => false
theorem isMn_ok {c : Call} (h : isMn c = true) : c.callee = .builtin .min := by
  unfold isMn at h
  split at h
  · assumption
  · cases h
def mnG (F : List Fc) (o : Op) (l : List (Option AV)) : Option AV := match o, l with
  | .call c, [some (.c u), some (.c v)] => bif isMn c then (match nmI u, nmI v with
    | some x, some y => bif eqK x.1 y.1 then (match cmpF F .leq x.2 y.2 with
      | some true => some (.c u)
      | some false => some (.c v)
      | none => none) else none
    | _, _ => none) else none
  | _, _ => none
theorem mnG_ok {F : List Fc} {ρ : Vn} {Q : Nat → List MV → Prop} {φ : Emb} (hs : StdF ρ) (h : ∀ f ∈ F, f.holds Q ρ) {o : Op} {l : List (Option AV)} {v : AV} (e : mnG F o l = some v) (P : Program) (f : Operand → Value) (ty : TypeId) (w : World)
    (hl : All2 (fun (a : Option AV) x => ∀ b, a = some b → VV ρ φ b (f x)) l o.operands.toList) : ∃ u, (opR f o ty).run P w = .ok (.value u) w ∧ VV ρ φ v u := by
  unfold mnG at e
  split at e
  · rename_i c u v'
    cases hm : isMn c with
    | false => rw [hm] at e; cases e
    | true =>
      rw [hm] at e
      simp only [cond_true] at e
      have hc := isMn_ok hm
      have hops : (Op.call c).operands = c.args := by simp [Op.operands, Call.operands, hc]
      rw [hops] at hl
      obtain ⟨x, y, hxy⟩ : ∃ x y, c.args.toList = [x, y] := by
        cases hq : c.args.toList with
        | nil => rw [hq] at hl; cases hl
        | cons x t =>
          rw [hq] at hl
          cases hl with
          | cons _ h2 =>
            cases h2 with
            | cons _ h3 => cases h3; exact ⟨_, _, rfl⟩
      rw [hxy] at hl
      cases hl with
      | cons a1 t1 =>
        cases t1 with
        | cons a2 t2 =>
          split at e
          · rename_i m n hm' hn
            cases hk : eqK m.1 n.1 with
            | false => rw [hk] at e; cases e
            | true =>
              rw [hk] at e
              simp only [cond_true] at e
              have hk' : m.1 = n.1 := of_decide_eq_true hk
              have e1 : f x = .int m.1 (ρ.i m.2) := nmI_ok hs.toStdA hm' (a1 _ rfl)
              have e2 : f y = .int m.1 (ρ.i n.2) := by rw [hk']; exact nmI_ok hs.toStdA hn (a2 _ rfl)
              have ha : c.args = #[x, y] := by
                cases hca : c.args with
                | mk l => rw [hca] at hxy; simpa using hxy
              refine ⟨_, mn_run hc ha e1 e2 w, ?_⟩
              split at e
              · rename_i g
                have g' := cmpF_ok hs h g
                simp only [icmp, Option.some.injEq, decide_eq_true_eq] at g'
                cases e
                have : (if ρ.i n.2 < ρ.i m.2 then ρ.i n.2 else ρ.i m.2) = ρ.i m.2 := by split <;> omega
                rw [this]
                have := a1 _ rfl
                rw [e1] at this
                exact this
              · rename_i g
                have g' := cmpF_ok hs h g
                simp only [icmp, Option.some.injEq, decide_eq_false_iff_not] at g'
                cases e
                have : (if ρ.i n.2 < ρ.i m.2 then ρ.i n.2 else ρ.i m.2) = ρ.i n.2 := by split <;> omega
                rw [this]
                have := a2 _ rfl
                rw [e2] at this
                exact this
              · cases e
          · cases e
  · cases e
def isStrT (P : Program) (t : TypeId) : Bool := match P.underlying t with
  | some .string => true
  | _ => false
theorem isStrT_ok {P : Program} {t : TypeId} (h : isStrT P t = true) : P.underlying t = some .string := by
  unfold isStrT at h
  split at h
  · assumption
  · cases h
def slN (F : List Fc) (y : Nm) (a b : Int) : Option AV := match rngF F (.f1 6 y) with
  | some r => bif decide (0 ≤ a) && (decide (a ≤ b) && decide (b ≤ r.1)) then some (.c (.ss (.f2 3000 y (.f2 2002 (.num a) (.num b))))) else none
  | none => none
def slTo (F : List Fc) (y : Nm) : Int := match rngF F (.f1 6 y) with
  | some r => bif decide (r.1 = r.2) then r.1 else -1
  | none => -1
def slG (F : List Fc) (P : Program) (o : Op) (l : List (Option AV)) : Option AV := match o, l with
  | .slice t _ none (some _) none, [some (.c (.ss y)), some (.c (.i .i64 b))] => bif isStrT P t then slN F y 0 b else none
  | .slice t _ (some _) none none, [some (.c (.ss y)), some (.c (.i .i64 a))] => bif isStrT P t then slN F y a (slTo F y) else none
  | .slice t _ (some _) (some _) none, [some (.c (.ss y)), some (.c (.i .i64 a)), some (.c (.i .i64 b))] => bif isStrT P t then slN F y a b else none
  | _, _ => none
theorem slN_ok {F : List Fc} {ρ : Vn} {Q : Nat → List MV → Prop} (hs : StdF ρ) (hp : PP ρ) (h : ∀ f ∈ F, f.holds Q ρ) {y : Nm} {a b : Int} {v : AV} (e : slN F y a b = some v) (φ : Emb) : 0 ≤ a ∧ a ≤ b ∧ b ≤ (ρ.s y).size ∧ VV ρ φ v (.string ((ρ.s y).extract a.toNat b.toNat)) := by
  unfold slN at e
  split at e
  · rename_i r hr
    have h1 := (rngF_ok hs h hr).1
    rw [hs.slen] at h1
    cases hb : (decide (0 ≤ a) && (decide (a ≤ b) && decide (b ≤ r.1))) with
    | false => rw [hb] at e; cases e
    | true =>
      rw [hb] at e
      cases e
      simp only [Bool.and_eq_true, decide_eq_true_eq] at hb
      exact ⟨hb.1, hb.2.1, by omega, by show Value.string _ = .string (ρ.s _); rw [hp.sub]⟩
  · cases e
theorem slTo_ok {F : List Fc} {ρ : Vn} {Q : Nat → List MV → Prop} (hs : StdF ρ) (h : ∀ f ∈ F, f.holds Q ρ) {y : Nm} (h0 : 0 ≤ slTo F y) : slTo F y = (ρ.s y).size := by
  unfold slTo at h0 ⊢
  split at h0
  · rename_i r hr
    have h1 := rngF_ok hs h hr
    rw [hs.slen] at h1
    cases hd : decide (r.1 = r.2) with
    | false => rw [hd] at h0; exact absurd (show (0 : Int) ≤ -1 from h0) (by decide)
    | true =>
      have := of_decide_eq_true hd
      show r.1 = _
      omega
  · exact absurd h0 (by decide)
theorem run_sb (P : Program) {n : Int} {y : Nat} (h0 : 0 ≤ n) (h1 : n ≤ y) (code : BoundsCode) (w : World) : (Instr.sliceBound (.int .i64 n) y code).run P w = .ok n.toNat w := by
  simp [Instr.sliceBound, asIntOf, h0, h1]
theorem slG_ok {F : List Fc} {ρ : Vn} {Q : Nat → List MV → Prop} {φ : Emb} (hs : StdF ρ) (hp : PP ρ) (h : ∀ f ∈ F, f.holds Q ρ) {P : Program} {o : Op} {l : List (Option AV)} {v : AV} (e : slG F P o l = some v) (f : Operand → Value) (ty : TypeId) (w : World)
    (hl : All2 (fun (a : Option AV) x => ∀ b, a = some b → VV ρ φ b (f x)) l o.operands.toList) : ∃ u, (opR f o ty).run P w = .ok (.value u) w ∧ VV ρ φ v u := by
  unfold slG at e
  split at e
  · rename_i t x hi y b
    cases hst : isStrT P t with
    | false => rw [hst] at e; cases e
    | true =>
      rw [hst] at e
      have hu := isStrT_ok hst
      obtain ⟨g1, g2, g3, g4⟩ := slN_ok hs hp h e φ
      have hall : All2 (fun (a : Option AV) x => ∀ b, a = some b → VV ρ φ b (f x)) [some (.c (.ss y)), some (.c (.i .i64 b))] [x, hi] := by simpa [Op.operands] using hl
      cases hall with
      | cons h1 h2 =>
        cases h2 with
        | cons h2 _ =>
          have e1 : f x = .string (ρ.s y) := h1 _ rfl
          have e2 : f hi = .int .i64 b := h2 _ rfl
          refine ⟨_, ?_, g4⟩
          simp [opR, execOp, Instr.sliceAt, Instr.slice, Instr.sliceBounds, run_under hu, hu, e1, e2, run_sb P (by omega) g3]
  · rename_i t x lo y a
    cases hst : isStrT P t with
    | false => rw [hst] at e; cases e
    | true =>
      rw [hst] at e
      have hu := isStrT_ok hst
      obtain ⟨g1, g2, g3, g4⟩ := slN_ok hs hp h e φ
      have hto := slTo_ok hs h (show 0 ≤ slTo F y by omega)
      have hall : All2 (fun (a : Option AV) x => ∀ b, a = some b → VV ρ φ b (f x)) [some (.c (.ss y)), some (.c (.i .i64 a))] [x, lo] := by simpa [Op.operands] using hl
      cases hall with
      | cons h1 h2 =>
        cases h2 with
        | cons h2 _ =>
          have e1 : f x = .string (ρ.s y) := h1 _ rfl
          have e2 : f lo = .int .i64 a := h2 _ rfl
          rw [hto] at g4 g2
          refine ⟨_, ?_, g4⟩
          simp [opR, execOp, Instr.sliceAt, Instr.slice, Instr.sliceBounds, run_under hu, hu, e1, e2, run_sb P g1 g2]
  · rename_i t x lo hi y a b
    cases hst : isStrT P t with
    | false => rw [hst] at e; cases e
    | true =>
      rw [hst] at e
      have hu := isStrT_ok hst
      obtain ⟨g1, g2, g3, g4⟩ := slN_ok hs hp h e φ
      have hall : All2 (fun (a : Option AV) x => ∀ b, a = some b → VV ρ φ b (f x)) [some (.c (.ss y)), some (.c (.i .i64 a)), some (.c (.i .i64 b))] [x, lo, hi] := by simpa [Op.operands] using hl
      cases hall with
      | cons h1 h2 =>
        cases h2 with
        | cons h2 h3 =>
          cases h3 with
          | cons h3 _ =>
            have e1 : f x = .string (ρ.s y) := h1 _ rfl
            have e2 : f lo = .int .i64 a := h2 _ rfl
            have e3 : f hi = .int .i64 b := h3 _ rfl
            refine ⟨_, ?_, g4⟩
            simp [opR, execOp, Instr.sliceAt, Instr.slice, Instr.sliceBounds, run_under hu, hu, e1, e2, e3, run_sb P (show (0:Int) ≤ b by omega) g3, run_sb P g1 (show a ≤ ((b.toNat : Nat) : Int) by omega)]
  · cases e
def orG (a : Option AV) (b : Option AV) : Option AV := Option.casesOn (motive := fun _ => Option AV) a b some
noncomputable def mxE (F : List Fc) (P : Program) (o : Op) (l : List (Option AV)) : Option AV := orG (ifGen P o l) (orG (mxG F o l) (orG (mnG F o l) (orG (slG F P o l) ((envF QR F).gen P o l))))
theorem mxE_ok {F : List Fc} {ρ : Vn} (hs : StdF ρ) (hp : PP ρ) (h : ∀ f ∈ F, f.holds QR ρ) (k : EnvOk (envF QR F) ρ) (P : Program) (o : Op) (l : List (Option AV)) (v : AV) (e : mxE F P o l = some v) (φ : Emb) (f : Operand → Value) (ty : TypeId) (w : World)
    (hl : All2 (fun (a : Option AV) x => ∀ b, a = some b → VV ρ φ b (f x)) l o.operands.toList) : ∃ u, (opR f o ty).run P w = .ok (.value u) w ∧ VV ρ φ v u := by
  unfold mxE at e
  cases h1 : ifGen P o l with
  | some v' => rw [h1] at e; cases e; exact ifGen_ok hp.ifs h1 φ f ty w hl
  | none =>
    rw [h1] at e
    cases h2 : mxG F o l with
    | some v' => rw [h2] at e; cases e; exact mxG_ok hs h h2 P f ty w hl
    | none =>
      rw [h2] at e
      cases h3 : mnG F o l with
      | some v' => rw [h3] at e; cases e; exact mnG_ok hs h h3 P f ty w hl
      | none =>
        rw [h3] at e
        cases h4 : slG F P o l with
        | some v' => rw [h4] at e; cases e; exact slG_ok hs hp h h4 f ty w hl
        | none => rw [h4] at e; exact k.gen P o l v e φ f ty w hl
def gIf : Nm → Value
  | .f2 300 (.num (.ofNat t)) (.lit []) => .iface t (.agg #[])
  | .f2 300 (.num (.ofNat t)) (.num n) => .iface t (.agg #[.int .i64 n])
  | _ => .bool false
theorem gIf_std {ρ : Vn} (h : ρ.g = gIf) : IfStd ρ := by
  intro t x
  rw [h]
  cases x <;> rfl
noncomputable def envR (F : List Fc) : Env := { envF QR F with gen := mxE F, prop := fun ρ => (StdF ρ ∧ ∀ f ∈ F, f.holds QR ρ) ∧ PP ρ }
noncomputable def vb (b : Nat → MV) (g : Nm → Value) (z : Nat → Option Obj) : Vn := vnF b fxP gIf z
theorem vb_std (b : Nat → MV) (g : Nm → Value) (z : Nat → Option Obj) : StdF (vb b g z) := vnF_std _ _ _ _
theorem vb_pp (b : Nat → MV) (g : Nm → Value) (z : Nat → Option Obj) : PP (vb b g z) where
  put := fun s n k => by simp [vb, vnF, vnA, mval, fxF, fxP]
  rep := fun n => by simp [vb, vnF, vnA, mval, fxF, fxP]
  sum := fun s => by simp [vb, vnF, vnA, mval, fxF, fxP]
  sub := fun s lo hi => by simp [vb, vnF, vnA, mval, fxF, fxP]
  gt := fun s at' k => by simp [vb, vnF, vnA, mval, fxF, fxP]
  enc := fun x id d => by simp [vb, vnF, vnA, mval, fxF, fxP]
  ins := fun h p m => by simp [vb, vnF, vnA, mval, fxF, fxP]
  nx := fun q i n => by simp [vb, vnF, vnA, mval, fxF, fxP]
  adv := fun q i => by simp [vb, vnF, vnA, mval, fxF, fxP]
  ifs := gIf_std rfl
theorem envR_prop {F : List Fc} {ρ : Vn} (he : EnvOk (envR F) ρ) : StdF ρ ∧ ∀ f ∈ F, f.holds QR ρ := he.prop.1
theorem envR_pp {F : List Fc} {ρ : Vn} (he : EnvOk (envR F) ρ) : PP ρ := he.prop.2
structure Rn where
  i : List (Nat × Nm) := []
  s : List (Nat × Nm) := []
  b : List (Nat × Nm) := []
  d : List (Nat × Nm) := []
  g : List Nm := []
def prs (l : List (Nat × Nm)) : List (Nm × Nm) := l.map fun x => (x.2, .v x.1)
def Rn.nms (r : Rn) : Nms := ⟨prs r.i, prs r.s, prs r.b, prs r.d, r.g.map fun t => (t, t)⟩
def lk : List (Nat × Nm) → Nat → Option Nm
  | [], _ => none
  | x :: l, j => bif Nat.beq x.1 j then some x.2 else lk l j
noncomputable def nb (b : Nat → MV) (r : Rn) (j : Nat) : MV :=
  ⟨match lk r.i j with | some t => (mval b (fxF fxP) t).i | none => (b j).i, match lk r.s j with | some t => (mval b (fxF fxP) t).s | none => (b j).s,
   match lk r.b j with | some t => (mval b (fxF fxP) t).b | none => (b j).b, match lk r.d j with | some t => (mval b (fxF fxP) t).d | none => (b j).d⟩
def dup (l : List (Nat × Nm)) : Bool := l.all fun x => decide (lk l x.1 = some x.2)
def Rn.ok (r : Rn) : Bool := dup r.i && dup r.s && dup r.b && dup r.d
theorem dup_ok {l : List (Nat × Nm)} (h : dup l = true) {x : Nm × Nm} (hx : x ∈ prs l) : ∃ j, x.2 = .v j ∧ lk l j = some x.1 := by
  obtain ⟨y, hy, rfl⟩ := List.mem_map.1 hx
  exact ⟨y.1, rfl, of_decide_eq_true (List.all_eq_true.1 h y hy)⟩
theorem ren_nb {b : Nat → MV} {g : Nm → Value} {z : Nat → Option Obj} {r : Rn} (h : r.ok = true) : Ren (vb b g z) (vb (nb b r) g z) r.nms := by
  unfold Rn.ok at h
  rw [Bool.and_eq_true, Bool.and_eq_true, Bool.and_eq_true] at h
  refine ⟨fun _ => rfl, fun _ => rfl, fun x hx => ?_, fun x hx => ?_, fun x hx => ?_, fun x hx => ?_, fun x hx => ?_, rfl, (vb_std b g z).bt, (vb_std b g z).nil⟩
  · obtain ⟨j, h1, h2⟩ := dup_ok h.1.1.1 hx
    rw [h1]
    show (nb b r j).i = _
    unfold nb
    simp only [h2]
    rfl
  · obtain ⟨j, h1, h2⟩ := dup_ok h.1.1.2 hx
    rw [h1]
    show (nb b r j).s = _
    unfold nb
    simp only [h2]
    rfl
  · obtain ⟨j, h1, h2⟩ := dup_ok h.1.2 hx
    rw [h1]
    show (nb b r j).b = _
    unfold nb
    simp only [h2]
    rfl
  · obtain ⟨j, h1, h2⟩ := dup_ok h.2 hx
    rw [h1]
    show (nb b r j).d = _
    unfold nb
    simp only [h2]
    rfl
  · obtain ⟨y, hy, rfl⟩ := List.mem_map.1 hx
    rfl
def idL (S : List Nat) (l : List (Nat × Nm)) : Bool := l.all fun x => S.contains x.1 || decide (x.2 = .v x.1)
def Rn.idEx (S : List Nat) (r : Rn) : Bool := idL S r.i && idL S r.s && idL S r.b && idL S r.d
theorem lk_mem : ∀ {l : List (Nat × Nm)} {j : Nat} {t : Nm}, lk l j = some t → (j, t) ∈ l
  | [], j, t, h => by cases h
  | x :: l, j, t, h => by
    have h' : (bif Nat.beq x.1 j then some x.2 else lk l j) = some t := h
    cases hb : Nat.beq x.1 j with
    | true =>
      rw [hb] at h'
      cases h'
      cases Nat.eq_of_beq_eq_true hb
      exact List.mem_cons_self
    | false => rw [hb] at h'; exact List.mem_cons_of_mem _ (lk_mem h')
theorem idL_ok {S : List Nat} {l : List (Nat × Nm)} (h : idL S l = true) {n : Nat} (hn : S.contains n = false) {t : Nm} (e : lk l n = some t) : t = .v n := by
  have := List.all_eq_true.1 h _ (lk_mem e)
  rw [Bool.or_eq_true, decide_eq_true_eq] at this
  rcases this with h1 | h1
  · rw [hn] at h1; cases h1
  · exact h1
theorem nb_id {b : Nat → MV} {r : Rn} {S : List Nat} (h : r.idEx S = true) {n : Nat} (hn : S.contains n = false) : nb b r n = b n := by
  unfold Rn.idEx at h
  rw [Bool.and_eq_true, Bool.and_eq_true, Bool.and_eq_true] at h
  unfold nb
  have h1 : (match lk r.i n with | some t => (mval b (fxF fxP) t).i | none => (b n).i) = (b n).i := by
    split
    · rename_i t e; rw [idL_ok h.1.1.1 hn e]; rfl
    · rfl
  have h2 : (match lk r.s n with | some t => (mval b (fxF fxP) t).s | none => (b n).s) = (b n).s := by
    split
    · rename_i t e; rw [idL_ok h.1.1.2 hn e]; rfl
    · rfl
  have h3 : (match lk r.b n with | some t => (mval b (fxF fxP) t).b | none => (b n).b) = (b n).b := by
    split
    · rename_i t e; rw [idL_ok h.1.2 hn e]; rfl
    · rfl
  have h4 : (match lk r.d n with | some t => (mval b (fxF fxP) t).d | none => (b n).d) = (b n).d := by
    split
    · rename_i t e; rw [idL_ok h.2 hn e]; rfl
    · rfl
  rw [h1, h2, h3, h4]
theorem envR_ok {F : List Fc} {b : Nat → MV} {g : Nm → Value} {z : Nat → Option Obj} (h : ∀ f ∈ F, f.holds QR (vb b g z)) : EnvOk (envR F) (vb b g z) := by
  have k := envF_ok (vb_std b g z) h
  exact ⟨⟨⟨vb_std b g z, h⟩, vb_pp b g z⟩, k.cmp, k.bin, k.len, k.cv, mxE_ok (vb_std b g z) (vb_pp b g z) h k, k.dlen, k.dix, k.dld, k.dsl, k.dap, k.dcat, k.dbig, k.sof⟩
noncomputable def natOr (g : List AV → Option AV) (call : CallF) (f : Bid) (vs : List AV) (h : Hp) : RO := Option.casesOn (motive := fun _ => RO) (g vs) (call f vs h) fun v => .ok v h
def NatOk (P : Program) (E : Env) (n : FuncId) (g : List AV → Option AV) : Prop := ∀ vs v, g vs = some v → ∀ ρ φ h w us, EnvOk E ρ → Rel ρ φ h w → All2 (VV ρ φ) vs us → Calls P n us.toArray w fun e w' => ∃ u φ', e = .returned u ∧ VV ρ φ' v u ∧ Stp ρ φ h w φ' h w'
theorem natOr_ok {P : Program} {E : Env} {call : CallF} (hC : CallOk P E call) {f : Bid} (ent : ∀ args w, (callFunc f.num args).run P w = .ok (.enter f.num args) w) {g : List AV → Option AV} (hg : NatOk P E f.num g) : EntOk P E f (.natm (natOr g call f)) := by
  refine ⟨ent, ?_⟩
  intro vs v h h' e ρ φ w us he hr hu
  have e' : natOr g call f vs h = .ok v h' := e
  unfold natOr at e'
  cases hv : g vs with
  | none => rw [hv] at e'; exact (hC f vs h v h' e').2 ρ φ w us he hr hu
  | some v' =>
    rw [hv] at e'
    have e2 : RO.ok v' h = .ok v h' := e'
    injection e2 with e3 e4
    subst e3 e4
    exact hg vs _ hv ρ φ h w us he hr hu
theorem nat_ok {P : Program} {E : Env} {f : Bid} (ent : ∀ args w, (callFunc f.num args).run P w = .ok (.enter f.num args) w) {g : List AV → Option AV} (hg : NatOk P E f.num g) : EntOk P E f (.nat g) := ⟨ent, hg⟩
theorem true_of {P : Program} {f : FuncId} {fn : Func} {ac : ACd} {res : List AR} (hf : P.funcs[f]? = some fn) (hc : cFn P fn = some (.code ac res)) {args : List AV} {us : List Value} {s0 : Lit} (hs : ∃ fr, frameOf args places Fr.nil = some fr ∧ s0.frame = fr) (h0 : s0.hp = hp0)
    {ρ : Vn} {φ : Emb} {h : Hp} {w : World} (hr : Rel ρ φ h w) {b : Nat → MV} {g : Nm → Value} (hargs : All2 (VV (vb b g φ.z) (Emb.nil φ.z)) args us)
    (ht : Tri P fn.ntmps ac (At w fn.ntmps (vb b g φ.z) s0) fun e a w' => e = .ret ∧ ∃ ρ' s', saysTrue res s' = true ∧ At w fn.ntmps ρ' s' a w') : Calls P f us.toArray w fun e w' => ∃ u φ', e = .returned u ∧ VV ρ φ' (.c (.b true)) u ∧ Stp ρ φ h w φ' h w' := by
  refine (law_tri hf hc hs h0 hargs w (fun b x hb => (hr.frz.at_ b x hb).1) ht).mono ?_
  rintro e w' ⟨rfl, b⟩
  exact ⟨_, φ, rfl, rfl, hr.keepS b⟩
theorem true_run {P : Program} {F : List Fc} {call : CallF} (hC : CallOk P (envR F) call) {b : Nat → MV} {g : Nm → Value} {f : Bid} {args : List AV} {us : List Value} (hrun : isTrue (call f args hp0) = true) {ρ : Vn} {φ : Emb} {h : Hp} {w : World} (hr : Rel ρ φ h w) (hF : ∀ f ∈ F, f.holds QR (vb b g φ.z)) (hargs : All2 (VV (vb b g φ.z) (Emb.nil φ.z)) args us) : Calls P f.num us.toArray w fun e w' => ∃ u φ', e = .returned u ∧ VV ρ φ' (.c (.b true)) u ∧ Stp ρ φ h w φ' h w' := by
  refine (law_run hC (envR_ok hF) hrun hargs w (fun b x hb => (hr.frz.at_ b x hb).1)).mono ?_
  rintro e w' ⟨rfl, b⟩
  exact ⟨_, φ, rfl, rfl, hr.keepS b⟩
theorem facts_nil {Q : Nat → List MV → Prop} {ρ : Vn} : ∀ f ∈ ([] : List Fc), f.holds Q ρ := fun _ h => (nomatch h)
theorem facts_cons {Q : Nat → List MV → Prop} {ρ : Vn} {f : Fc} {F : List Fc} (h : f.holds Q ρ) (t : ∀ f ∈ F, f.holds Q ρ) : ∀ g ∈ f :: F, g.holds Q ρ := List.forall_mem_cons.2 ⟨h, t⟩
theorem facts_app {Q : Nat → List MV → Prop} {ρ : Vn} {F G : List Fc} (h : ∀ f ∈ F, f.holds Q ρ) (t : ∀ f ∈ G, f.holds Q ρ) : ∀ g ∈ F ++ G, g.holds Q ρ := fun g hg => (List.mem_append.1 hg).elim (h g) (t g)
theorem cell_row {d : List (List DV)} {i : Nat} {row : List DV} (h : d[i]? = some row) (o : Nat) : cellD d (i : Int) o = row[o]? := by
  unfold cellD
  rw [show ((i : Int)).toNat = i from rfl, h]
  try rfl
def nmB : AC → Option Nm
  | .b x => some (.f1 9 (.num (bif x then 1 else 0)))
  | .sb t => some t
  | _ => none
def lenLe (F : List Fc) (t : Nm) (n : Int) : Bool := match rngF F (.f1 6 t) with
  | some r => decide (r.2 ≤ n)
  | none => false
def cellB (F : List Fc) (b d : AC) : Bool := match b, d with
  | .b x, .s l => Nat.ble l.length 12 && (x || l.isEmpty)
  | b, d => (match b, d with | .b true, .ss t => lenLe F t 12 | _, _ => false) || (match nmB b, nmS d with | some t, some u => fdP F 2 [t, u] | _, _ => false)
theorem nmB_ok {ρ : Vn} (hs : StdF ρ) {φ : Emb} {b : AC} {t : Nm} (e : nmB b = some t) {v : Value} (hv : VC ρ φ b v) : v = .bool (ρ.b t) := by
  cases b with
  | b x =>
    cases e
    rw [hs.bt]
    have hv' : v = .bool x := hv
    rw [hv']
    cases x <;> rfl
  | sb y => cases e; exact hv
  | _ => cases e
theorem cellB_ok {F : List Fc} {ρ : Vn} (hs : StdF ρ) (hF : ∀ f ∈ F, f.holds QR ρ) {φ : Emb} {b d : AC} (e : cellB F b d = true) {x y : Value} (hx : VC ρ φ b x) (hy : VC ρ φ d y) : ∃ bb ss, x = .bool bb ∧ y = .string ss ∧ VCell bb ss := by
  unfold cellB at e
  split at e
  · rename_i x' l
    obtain ⟨ss, rfl, hl⟩ := hy
    refine ⟨x', ss, hx, rfl, ?_⟩
    rw [Bool.and_eq_true] at e
    have h1 : l.length = ss.size := by rw [← hl, List.length_map]; rfl
    refine ⟨by have := Nat.le_of_ble_eq_true e.1; omega, fun hb => ?_⟩
    subst hb
    have h2 : l = [] := List.isEmpty_iff.1 (show l.isEmpty = true from e.2)
    subst h2
    have : ss.data.toList = [] := List.map_eq_nil_iff.1 hl
    cases ss with | mk a => cases a with | mk q => cases this; rfl
  · rw [Bool.or_eq_true] at e
    rcases e with e | e
    · split at e
      · rename_i t _
        unfold lenLe at e
        split at e
        · rename_i r hr
          have h1 := (rngF_ok hs hF hr).2
          rw [hs.slen] at h1
          have h2 := of_decide_eq_true e
          exact ⟨true, ρ.s t, hx, hy, by omega, fun h => (nomatch h)⟩
        · cases e
      · cases e
    · split at e
      · rename_i t u ht hu
        have h1 : QR 2 [mv ρ t, mv ρ u] := fdP_ok hF e
        exact ⟨ρ.b t, ρ.s u, nmB_ok hs ht hx, nmS_ok hs.toStdA hu hy, h1⟩
      · cases e
theorem tri_loop1 {P : Program} {N : Nat} {w0 : World} {g : Nm → Value} {z : Nat → Option Obj} {id : Nat} {B : ACd} (μ : (Nat → MV) → Nat) (Inv Fin : (Nat → MV) → Prop) (sH sX : Lit)
    (hr : ∀ b, Inv b → Tri P N B (At w0 N (vb b g z) sH) fun e a w => (e = .normal ∧ ∃ b', μ b' < μ b ∧ Inv b' ∧ At w0 N (vb b' g z) sH a w) ∨ (e = .exit id ∧ ∃ b', Fin b' ∧ At w0 N (vb b' g z) sX a w)) :
    Tri P N (.block id (.loop B)) (fun a w => ∃ b, Inv b ∧ At w0 N (vb b g z) sH a w) fun e a w => e = .normal ∧ ∃ b, Fin b ∧ At w0 N (vb b g z) sX a w := by
  refine Tri.block ?_
  refine ((Tri.loop (Post := fun e a w => e = .exit id ∧ ∃ b, Fin b ∧ At w0 N (vb b g z) sX a w) μ (fun b a w => Inv b ∧ At w0 N (vb b g z) sH a w) fun b => Tri.imp fun hb => (hr b hb).post fun e a w h => ?_)).post fun e a w h => .inl ⟨.inr h.1, rfl, h.2⟩
  rcases h with ⟨h1, b', h2, h3, h4⟩ | ⟨h1, h2⟩
  · exact .inl ⟨h1, b', h2, h3, h4⟩
  · exact .inr ⟨by rw [h1]; exact fun h => (nomatch h), h1, h2⟩
theorem list_cases {α : Type} {d : List α} {i : Nat} (h : i < d.length) : ∃ x, d[i]? = some x := ⟨_, List.getElem?_eq_getElem h⟩
theorem ci_row {b : Nat → MV} {g : Nm → Value} {z : Nat → Option Obj} {y t : Nm} {i : Nat} {row : List DV} (h : ((vb b g z).d y)[i]? = some row) (ht : (vb b g z).i t = i) (o : Nat) (ho : o < 900) {n : Int} (hn : row[o]? = some (.i n)) : (vb b g z).i (.f2 (100 + o) y t) = n := by
  rw [(vb_std b g z).ci o y t ho, ht, cell_row h, hn]; rfl
theorem cs_row {b : Nat → MV} {g : Nm → Value} {z : Nat → Option Obj} {y t : Nm} {i : Nat} {row : List DV} (h : ((vb b g z).d y)[i]? = some row) (ht : (vb b g z).i t = i) (o : Nat) (ho : o < 900) {n : ByteArray} (hn : row[o]? = some (.s n)) : (vb b g z).s (.f2 (100 + o) y t) = n := by
  rw [(vb_std b g z).cs o y t ho, ht, cell_row h, hn]; rfl
theorem cb_row {b : Nat → MV} {g : Nm → Value} {z : Nat → Option Obj} {y t : Nm} {i : Nat} {row : List DV} (h : ((vb b g z).d y)[i]? = some row) (ht : (vb b g z).i t = i) (o : Nat) (ho : o < 900) {n : Bool} (hn : row[o]? = some (.b n)) : (vb b g z).b (.f2 (100 + o) y t) = n := by
  rw [(vb_std b g z).cb o y t ho, ht, cell_row h, hn]; rfl
end Go.Proofs.YtjnfgapfhpihmaaGreat
