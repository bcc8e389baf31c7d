/-
  Symbolic runs of the kernel: what is asked of logs and lists (predicates), new names, contracts with code behind them. No function of the program is named here.
-/
import Derived.Test.YtnofmmceafkkoaaGreatSymF
import Derived.Test.YtnofmmceafkkoaaGreatTriC
import Derived.Test.YtnofmmceafkkoaaGreatSymA
import Derived.Test.YtnofmmceafkkoaaGreatNatR
set_option linter.unusedVariables false
set_option linter.unusedSimpArgs false
namespace Go.Proofs.YtnofmmceafkkoaaGreat
open Go.RowKit
def VCell (b : Bool) (s : ByteArray) : Prop := s.size ≤ 12 ∧ (b = false → s = ⟨#[]⟩)
def ChgOk (pg sl : Int) (bs : Bool) (bd : ByteArray) (az : Bool) (ad : ByteArray) : Prop := 0 ≤ pg ∧ pg ≤ 63 ∧ 0 ≤ sl ∧ sl ≤ 15 ∧ VCell bs bd ∧ VCell az ad
def ChgNo (pg sl : Int) (bs : Bool) (bd : ByteArray) (az : Bool) (ad : ByteArray) : Prop := pg = 0 ∧ sl = 0 ∧ bs = false ∧ bd = ⟨#[]⟩ ∧ az = false ∧ ad = ⟨#[]⟩
def enR (lsn kind tx ptx pp ref pg sl : Int) (bs : Bool) (bd : ByteArray) (az : Bool) (ad : ByteArray) : List DV := [.i lsn, .i kind, .i tx, .i ptx, .i pp, .i ref, .i pg, .i sl, .b bs, .s bd, .b az, .s ad, .s ⟨#[]⟩]
def EnOk (i : Nat) (row : List DV) : Prop := ∃ (kind tx ptx pp ref pg sl : Int) (bs : Bool) (bd : ByteArray) (az : Bool) (ad : ByteArray), row = enR (i + 1) kind tx ptx pp ref pg sl bs bd az ad ∧ 1 ≤ tx ∧ tx ≤ 1000 ∧ 0 ≤ ptx ∧ ptx ≤ i ∧ 0 ≤ pp ∧ pp ≤ i ∧ 0 ≤ ref ∧ ref ≤ i ∧
  ((kind = 1 ∧ ref = 0 ∧ ChgOk pg sl bs bd az ad) ∨ (kind = 2 ∧ 1 ≤ ref ∧ ref ≤ ptx ∧ ChgOk pg sl bs bd az ad) ∨ ((kind = 3 ∨ kind = 4 ∨ kind = 5) ∧ 1 ≤ ptx ∧ pp = 0 ∧ ref = 0 ∧ ChgNo pg sl bs bd az ad))
def JV (d : List (List DV)) : Prop := d.length ≤ 4000 ∧ ∀ (i : Nat) row, d[i]? = some row → EnOk i row
def Asc (d : List (List DV)) (m : Int) : Prop := d.length ≤ 4000 ∧ m ≤ 4000 ∧ ∃ ns : List Int, d = ns.map (fun n => [DV.i n]) ∧ ns.Pairwise (· < ·) ∧ ∀ n ∈ ns, 1 ≤ n ∧ n ≤ m
def IsAt (d : List (List DV)) (x at' : Int) : Prop := 0 ≤ at' ∧ d[at'.toNat]? = some [DV.i x] ∧ ∃ m, Asc d m
def nsD (ns : List Int) : List (List DV) := ns.map fun n => [DV.i n]
def nsOf (q : List (List DV)) : List Int := q.filterMap fun r => match r with | [.i n] => some n | _ => none
theorem nsOf_nsD : ∀ ns : List Int, nsOf (nsD ns) = ns
  | [] => rfl
  | n :: ns => by
    have ih := nsOf_nsD ns
    unfold nsOf nsD at *
    rw [List.map_cons, List.filterMap_cons]
    simp only
    rw [ih]
def slotD (y : List (List DV)) (n : Int) : Int := match cellD y (n - 1) 7 with
  | some (.i x) => x
  | _ => -1
def lastIx (y : List (List DV)) (s : Int) : List Int → Option Int
  | [] => none
  | n :: l => if slotD y n = s then some (n - 1) else lastIx y s l
def lastM (y q : List (List DV)) (s : Int) : Int := (lastIx y s (nsOf q).reverse).getD 0
structure Pend (y : List (List DV)) (ns : List Int) : Prop where
  jv : JV y
  len : ns.length ≤ 4000
  lo : ∀ n ∈ ns, 1 ≤ n
  hi : ∀ n ∈ ns, n ≤ y.length
  pg : ∀ n ∈ ns, cellD y (n - 1) 6 = some (.i 0)
def idxD (q : List (List DV)) (x : Int) : Int := ((nsOf q).findIdx fun n => decide (n = x) : Nat)
def PSet (y q : List (List DV)) (k : Nat) : Prop := k < 16 ∧ ∃ ns : List Int, q = nsD ns ∧ Pend y ns ∧ (∀ n ∈ ns, ∃ s : Nat, s < 4 ∧ slotD y n = s ∧ k.testBit s = true) ∧ ∀ s : Nat, s < 4 → k.testBit s = true → ∃ n ∈ ns, slotD y n = s
def QR : Nat → List MV → Prop
  | 1, [y] => JV y.d
  | 2, [b, s] => VCell b.b s.s
  | 3, [q, m] => Asc q.d m.i
  | 4, [q, x, a] => IsAt q.d x.i a.i
  | 5, [y, q, k] => PSet y.d q.d k.i.toNat
  | _, _ => True
def fxP (f : Nat) (a c : MV) : MV :=
  if f = 2001 then { s := ⟨(a.s.data.toList ++ putL c.i c.d.length).toArray⟩ } else if f = 2002 then { i := a.i, d := List.replicate c.i.toNat [] } else
  if f = 2003 then { s := ⟨(Lib.repeatL [0] a.i.toNat).toArray⟩ } else if f = 2004 then { i := ((crcF a.s.data.toList : Nat) : Int) } else
  if f = 2007 then { i := idxD a.d c.i } else if f = 2006 then { d := [[.sl a.d, .sl c.d]] } else if f = 2005 then { i := match a.d with | [[.sl y, .sl q]] => lastM y q c.i | _ => 0 } else {}
structure PP (ρ : Vn) : Prop where
  put : ∀ s n k, ρ.s (.f2 2001 s (.f2 2002 n (.num k))) = ⟨((ρ.s s).data.toList ++ putL (ρ.i n) k.toNat).toArray⟩
  rep : ∀ n, ρ.s (.f1 2003 n) = ⟨(Lib.repeatL [0] (ρ.i n).toNat).toArray⟩
  sum : ∀ s, ρ.i (.f1 2004 s) = ((crcF (ρ.s s).data.toList : Nat) : Int)
  idx : ∀ q t, ρ.i (.f2 2007 q t) = idxD (ρ.d q) (ρ.i t)
  lst : ∀ y q s, ρ.i (.f2 2005 (.f2 2006 y q) s) = lastM (ρ.d y) (ρ.d q) (ρ.i s)
noncomputable def envR (F : List Fc) : Env := { envF QR F with prop := fun ρ => (StdF ρ ∧ ∀ f ∈ F, f.holds QR ρ) ∧ PP ρ }
noncomputable def vb (b : Nat → MV) (g : Nm → Value) (z : Nat → Option Obj) : Vn := vnF b fxP g z
theorem vb_std (b : Nat → MV) (g : Nm → Value) (z : Nat → Option Obj) : StdF (vb b g z) := vnF_std _ _ _ _
theorem vb_pp (b : Nat → MV) (g : Nm → Value) (z : Nat → Option Obj) : PP (vb b g z) where
  put := fun s n k => by simp [vb, vnF, vnA, mval, fxF, fxP]
  rep := fun n => by simp [vb, vnF, vnA, mval, fxF, fxP]
  sum := fun s => by simp [vb, vnF, vnA, mval, fxF, fxP]
  lst := fun y q s => by simp [vb, vnF, vnA, mval, fxF, fxP]
  idx := fun q t => by simp [vb, vnF, vnA, mval, fxF, fxP]
theorem envR_prop {F : List Fc} {ρ : Vn} (he : EnvOk (envR F) ρ) : StdF ρ ∧ ∀ f ∈ F, f.holds QR ρ := he.prop.1
theorem envR_pp {F : List Fc} {ρ : Vn} (he : EnvOk (envR F) ρ) : PP ρ := he.prop.2
structure Rn where
  i : List (Nat × Nm) := []
  s : List (Nat × Nm) := []
  b : List (Nat × Nm) := []
  d : List (Nat × Nm) := []
  g : List Nm := []
def prs (l : List (Nat × Nm)) : List (Nm × Nm) := l.map fun x => (x.2, .v x.1)
def Rn.nms (r : Rn) : Nms := ⟨prs r.i, prs r.s, prs r.b, prs r.d, r.g.map fun t => (t, t)⟩
def lk : List (Nat × Nm) → Nat → Option Nm
  | [], _ => none
  | x :: l, j => bif Nat.beq x.1 j then some x.2 else lk l j
noncomputable def nb (b : Nat → MV) (r : Rn) (j : Nat) : MV :=
  ⟨match lk r.i j with | some t => (mval b (fxF fxP) t).i | none => (b j).i, match lk r.s j with | some t => (mval b (fxF fxP) t).s | none => (b j).s,
   match lk r.b j with | some t => (mval b (fxF fxP) t).b | none => (b j).b, match lk r.d j with | some t => (mval b (fxF fxP) t).d | none => (b j).d⟩
def dup (l : List (Nat × Nm)) : Bool := l.all fun x => decide (lk l x.1 = some x.2)
def Rn.ok (r : Rn) : Bool := dup r.i && dup r.s && dup r.b && dup r.d
theorem dup_ok {l : List (Nat × Nm)} (h : dup l = true) {x : Nm × Nm} (hx : x ∈ prs l) : ∃ j, x.2 = .v j ∧ lk l j = some x.1 := by
  obtain ⟨y, hy, rfl⟩ := List.mem_map.1 hx
  exact ⟨y.1, rfl, of_decide_eq_true (List.all_eq_true.1 h y hy)⟩
theorem ren_nb {b : Nat → MV} {g : Nm → Value} {z : Nat → Option Obj} {r : Rn} (h : r.ok = true) : Ren (vb b g z) (vb (nb b r) g z) r.nms := by
  unfold Rn.ok at h
  rw [Bool.and_eq_true, Bool.and_eq_true, Bool.and_eq_true] at h
  refine ⟨fun _ => rfl, fun _ => rfl, fun x hx => ?_, fun x hx => ?_, fun x hx => ?_, fun x hx => ?_, fun x hx => ?_, rfl, (vb_std b g z).bt, (vb_std b g z).nil⟩
  · obtain ⟨j, h1, h2⟩ := dup_ok h.1.1.1 hx
    rw [h1]
    show (nb b r j).i = _
    unfold nb
    simp only [h2]
    rfl
  · obtain ⟨j, h1, h2⟩ := dup_ok h.1.1.2 hx
    rw [h1]
    show (nb b r j).s = _
    unfold nb
    simp only [h2]
    rfl
  · obtain ⟨j, h1, h2⟩ := dup_ok h.1.2 hx
    rw [h1]
    show (nb b r j).b = _
    unfold nb
    simp only [h2]
    rfl
  · obtain ⟨j, h1, h2⟩ := dup_ok h.2 hx
    rw [h1]
    show (nb b r j).d = _
    unfold nb
    simp only [h2]
    rfl
  · obtain ⟨y, hy, rfl⟩ := List.mem_map.1 hx
    rfl
def idL (S : List Nat) (l : List (Nat × Nm)) : Bool := l.all fun x => S.contains x.1 || decide (x.2 = .v x.1)
def Rn.idEx (S : List Nat) (r : Rn) : Bool := idL S r.i && idL S r.s && idL S r.b && idL S r.d
theorem lk_mem : ∀ {l : List (Nat × Nm)} {j : Nat} {t : Nm}, lk l j = some t → (j, t) ∈ l
  | [], j, t, h => by cases h
  | x :: l, j, t, h => by
    have h' : (bif Nat.beq x.1 j then some x.2 else lk l j) = some t := h
    cases hb : Nat.beq x.1 j with
    | true =>
      rw [hb] at h'
      cases h'
      cases Nat.eq_of_beq_eq_true hb
      exact List.mem_cons_self
    | false => rw [hb] at h'; exact List.mem_cons_of_mem _ (lk_mem h')
theorem idL_ok {S : List Nat} {l : List (Nat × Nm)} (h : idL S l = true) {n : Nat} (hn : S.contains n = false) {t : Nm} (e : lk l n = some t) : t = .v n := by
  have := List.all_eq_true.1 h _ (lk_mem e)
  rw [Bool.or_eq_true, decide_eq_true_eq] at this
  rcases this with h1 | h1
  · rw [hn] at h1; cases h1
  · exact h1
theorem nb_id {b : Nat → MV} {r : Rn} {S : List Nat} (h : r.idEx S = true) {n : Nat} (hn : S.contains n = false) : nb b r n = b n := by
  unfold Rn.idEx at h
  rw [Bool.and_eq_true, Bool.and_eq_true, Bool.and_eq_true] at h
  unfold nb
  have h1 : (match lk r.i n with | some t => (mval b (fxF fxP) t).i | none => (b n).i) = (b n).i := by
    split
    · rename_i t e; rw [idL_ok h.1.1.1 hn e]; rfl
    · rfl
  have h2 : (match lk r.s n with | some t => (mval b (fxF fxP) t).s | none => (b n).s) = (b n).s := by
    split
    · rename_i t e; rw [idL_ok h.1.1.2 hn e]; rfl
    · rfl
  have h3 : (match lk r.b n with | some t => (mval b (fxF fxP) t).b | none => (b n).b) = (b n).b := by
    split
    · rename_i t e; rw [idL_ok h.1.2 hn e]; rfl
    · rfl
  have h4 : (match lk r.d n with | some t => (mval b (fxF fxP) t).d | none => (b n).d) = (b n).d := by
    split
    · rename_i t e; rw [idL_ok h.2 hn e]; rfl
    · rfl
  rw [h1, h2, h3, h4]
theorem envR_ok {F : List Fc} {b : Nat → MV} {g : Nm → Value} {z : Nat → Option Obj} (h : ∀ f ∈ F, f.holds QR (vb b g z)) : EnvOk (envR F) (vb b g z) := by
  have k := envF_ok (vb_std b g z) h
  exact ⟨⟨⟨vb_std b g z, h⟩, vb_pp b g z⟩, k.cmp, k.bin, k.len, k.cv, k.gen, k.dlen, k.dix, k.dld, k.dsl, k.dap, k.dcat, k.dbig, k.sof⟩
noncomputable def natOr (g : List AV → Option AV) (call : CallF) (f : Bid) (vs : List AV) (h : Hp) : RO := Option.casesOn (motive := fun _ => RO) (g vs) (call f vs h) fun v => .ok v h
def NatOk (P : Program) (E : Env) (n : FuncId) (g : List AV → Option AV) : Prop := ∀ vs v, g vs = some v → ∀ ρ φ h w us, EnvOk E ρ → Rel ρ φ h w → All2 (VV ρ φ) vs us → Calls P n us.toArray w fun e w' => ∃ u φ', e = .returned u ∧ VV ρ φ' v u ∧ Stp ρ φ h w φ' h w'
theorem natOr_ok {P : Program} {E : Env} {call : CallF} (hC : CallOk P E call) {f : Bid} (ent : ∀ args w, (callFunc f.num args).run P w = .ok (.enter f.num args) w) {g : List AV → Option AV} (hg : NatOk P E f.num g) : EntOk P E f (.natm (natOr g call f)) := by
  refine ⟨ent, ?_⟩
  intro vs v h h' e ρ φ w us he hr hu
  have e' : natOr g call f vs h = .ok v h' := e
  unfold natOr at e'
  cases hv : g vs with
  | none => rw [hv] at e'; exact (hC f vs h v h' e').2 ρ φ w us he hr hu
  | some v' =>
    rw [hv] at e'
    have e2 : RO.ok v' h = .ok v h' := e'
    injection e2 with e3 e4
    subst e3 e4
    exact hg vs _ hv ρ φ h w us he hr hu
theorem nat_ok {P : Program} {E : Env} {f : Bid} (ent : ∀ args w, (callFunc f.num args).run P w = .ok (.enter f.num args) w) {g : List AV → Option AV} (hg : NatOk P E f.num g) : EntOk P E f (.nat g) := ⟨ent, hg⟩
theorem true_of {P : Program} {f : FuncId} {fn : Func} {ac : ACd} {res : List AR} (hf : P.funcs[f]? = some fn) (hc : cFn P fn = some (.code ac res)) {args : List AV} {us : List Value} {s0 : Lit} (hs : ∃ fr, frameOf args places Fr.nil = some fr ∧ s0.frame = fr) (h0 : s0.hp = hp0)
    {ρ : Vn} {φ : Emb} {h : Hp} {w : World} (hr : Rel ρ φ h w) {b : Nat → MV} {g : Nm → Value} (hargs : All2 (VV (vb b g φ.z) (Emb.nil φ.z)) args us)
    (ht : Tri P fn.ntmps ac (At w fn.ntmps (vb b g φ.z) s0) fun e a w' => e = .ret ∧ ∃ ρ' s', saysTrue res s' = true ∧ At w fn.ntmps ρ' s' a w') : Calls P f us.toArray w fun e w' => ∃ u φ', e = .returned u ∧ VV ρ φ' (.c (.b true)) u ∧ Stp ρ φ h w φ' h w' := by
  refine (law_tri hf hc hs h0 hargs w (fun b x hb => (hr.frz.at_ b x hb).1) ht).mono ?_
  rintro e w' ⟨rfl, b⟩
  exact ⟨_, φ, rfl, rfl, hr.keepS b⟩
theorem true_run {P : Program} {F : List Fc} {call : CallF} (hC : CallOk P (envR F) call) {b : Nat → MV} {g : Nm → Value} {f : Bid} {args : List AV} {us : List Value} (hrun : isTrue (call f args hp0) = true) {ρ : Vn} {φ : Emb} {h : Hp} {w : World} (hr : Rel ρ φ h w) (hF : ∀ f ∈ F, f.holds QR (vb b g φ.z)) (hargs : All2 (VV (vb b g φ.z) (Emb.nil φ.z)) args us) : Calls P f.num us.toArray w fun e w' => ∃ u φ', e = .returned u ∧ VV ρ φ' (.c (.b true)) u ∧ Stp ρ φ h w φ' h w' := by
  refine (law_run hC (envR_ok hF) hrun hargs w (fun b x hb => (hr.frz.at_ b x hb).1)).mono ?_
  rintro e w' ⟨rfl, b⟩
  exact ⟨_, φ, rfl, rfl, hr.keepS b⟩
theorem facts_nil {Q : Nat → List MV → Prop} {ρ : Vn} : ∀ f ∈ ([] : List Fc), f.holds Q ρ := fun _ h => (nomatch h)
theorem facts_cons {Q : Nat → List MV → Prop} {ρ : Vn} {f : Fc} {F : List Fc} (h : f.holds Q ρ) (t : ∀ f ∈ F, f.holds Q ρ) : ∀ g ∈ f :: F, g.holds Q ρ := List.forall_mem_cons.2 ⟨h, t⟩
theorem facts_app {Q : Nat → List MV → Prop} {ρ : Vn} {F G : List Fc} (h : ∀ f ∈ F, f.holds Q ρ) (t : ∀ f ∈ G, f.holds Q ρ) : ∀ g ∈ F ++ G, g.holds Q ρ := fun g hg => (List.mem_append.1 hg).elim (h g) (t g)
theorem cell_row {d : List (List DV)} {i : Nat} {row : List DV} (h : d[i]? = some row) (o : Nat) : cellD d (i : Int) o = row[o]? := by
  unfold cellD
  rw [show ((i : Int)).toNat = i from rfl, h]
  try rfl
def nmB : AC → Option Nm
  | .b x => some (.f1 9 (.num (bif x then 1 else 0)))
  | .sb t => some t
  | _ => none
def lenLe (F : List Fc) (t : Nm) (n : Int) : Bool := match rngF F (.f1 6 t) with
  | some r => decide (r.2 ≤ n)
  | none => false
def cellB (F : List Fc) (b d : AC) : Bool := match b, d with
  | .b x, .s l => Nat.ble l.length 12 && (x || l.isEmpty)
  | b, d => (match b, d with | .b true, .ss t => lenLe F t 12 | _, _ => false) || (match nmB b, nmS d with | some t, some u => fdP F 2 [t, u] | _, _ => false)
theorem nmB_ok {ρ : Vn} (hs : StdF ρ) {φ : Emb} {b : AC} {t : Nm} (e : nmB b = some t) {v : Value} (hv : VC ρ φ b v) : v = .bool (ρ.b t) := by
  cases b with
  | b x =>
    cases e
    rw [hs.bt]
    have hv' : v = .bool x := hv
    rw [hv']
    cases x <;> rfl
  | sb y => cases e; exact hv
  | _ => cases e
theorem cellB_ok {F : List Fc} {ρ : Vn} (hs : StdF ρ) (hF : ∀ f ∈ F, f.holds QR ρ) {φ : Emb} {b d : AC} (e : cellB F b d = true) {x y : Value} (hx : VC ρ φ b x) (hy : VC ρ φ d y) : ∃ bb ss, x = .bool bb ∧ y = .string ss ∧ VCell bb ss := by
  unfold cellB at e
  split at e
  · rename_i x' l
    obtain ⟨ss, rfl, hl⟩ := hy
    refine ⟨x', ss, hx, rfl, ?_⟩
    rw [Bool.and_eq_true] at e
    have h1 : l.length = ss.size := by rw [← hl, List.length_map]; rfl
    refine ⟨by have := Nat.le_of_ble_eq_true e.1; omega, fun hb => ?_⟩
    subst hb
    have h2 : l = [] := List.isEmpty_iff.1 (show l.isEmpty = true from e.2)
    subst h2
    have : ss.data.toList = [] := List.map_eq_nil_iff.1 hl
    cases ss with | mk a => cases a with | mk q => cases this; rfl
  · rw [Bool.or_eq_true] at e
    rcases e with e | e
    · split at e
      · rename_i t _
        unfold lenLe at e
        split at e
        · rename_i r hr
          have h1 := (rngF_ok hs hF hr).2
          rw [hs.slen] at h1
          have h2 := of_decide_eq_true e
          exact ⟨true, ρ.s t, hx, hy, by omega, fun h => (nomatch h)⟩
        · cases e
      · cases e
    · split at e
      · rename_i t u ht hu
        have h1 : QR 2 [mv ρ t, mv ρ u] := fdP_ok hF e
        exact ⟨ρ.b t, ρ.s u, nmB_ok hs ht hx, nmS_ok hs.toStdA hu hy, h1⟩
      · cases e
theorem tri_loop1 {P : Program} {N : Nat} {w0 : World} {g : Nm → Value} {z : Nat → Option Obj} {id : Nat} {B : ACd} (μ : (Nat → MV) → Nat) (Inv Fin : (Nat → MV) → Prop) (sH sX : Lit)
    (hr : ∀ b, Inv b → Tri P N B (At w0 N (vb b g z) sH) fun e a w => (e = .normal ∧ ∃ b', μ b' < μ b ∧ Inv b' ∧ At w0 N (vb b' g z) sH a w) ∨ (e = .exit id ∧ ∃ b', Fin b' ∧ At w0 N (vb b' g z) sX a w)) :
    Tri P N (.block id (.loop B)) (fun a w => ∃ b, Inv b ∧ At w0 N (vb b g z) sH a w) fun e a w => e = .normal ∧ ∃ b, Fin b ∧ At w0 N (vb b g z) sX a w := by
  refine Tri.block ?_
  refine ((Tri.loop (Post := fun e a w => e = .exit id ∧ ∃ b, Fin b ∧ At w0 N (vb b g z) sX a w) μ (fun b a w => Inv b ∧ At w0 N (vb b g z) sH a w) fun b => Tri.imp fun hb => (hr b hb).post fun e a w h => ?_)).post fun e a w h => .inl ⟨.inr h.1, rfl, h.2⟩
  rcases h with ⟨h1, b', h2, h3, h4⟩ | ⟨h1, h2⟩
  · exact .inl ⟨h1, b', h2, h3, h4⟩
  · exact .inr ⟨by rw [h1]; exact fun h => (nomatch h), h1, h2⟩
theorem list_cases {α : Type} {d : List α} {i : Nat} (h : i < d.length) : ∃ x, d[i]? = some x := ⟨_, List.getElem?_eq_getElem h⟩
theorem ci_row {b : Nat → MV} {g : Nm → Value} {z : Nat → Option Obj} {y t : Nm} {i : Nat} {row : List DV} (h : ((vb b g z).d y)[i]? = some row) (ht : (vb b g z).i t = i) (o : Nat) (ho : o < 900) {n : Int} (hn : row[o]? = some (.i n)) : (vb b g z).i (.f2 (100 + o) y t) = n := by
  rw [(vb_std b g z).ci o y t ho, ht, cell_row h, hn]; rfl
theorem cs_row {b : Nat → MV} {g : Nm → Value} {z : Nat → Option Obj} {y t : Nm} {i : Nat} {row : List DV} (h : ((vb b g z).d y)[i]? = some row) (ht : (vb b g z).i t = i) (o : Nat) (ho : o < 900) {n : ByteArray} (hn : row[o]? = some (.s n)) : (vb b g z).s (.f2 (100 + o) y t) = n := by
  rw [(vb_std b g z).cs o y t ho, ht, cell_row h, hn]; rfl
theorem cb_row {b : Nat → MV} {g : Nm → Value} {z : Nat → Option Obj} {y t : Nm} {i : Nat} {row : List DV} (h : ((vb b g z).d y)[i]? = some row) (ht : (vb b g z).i t = i) (o : Nat) (ho : o < 900) {n : Bool} (hn : row[o]? = some (.b n)) : (vb b g z).b (.f2 (100 + o) y t) = n := by
  rw [(vb_std b g z).cb o y t ho, ht, cell_row h, hn]; rfl

theorem val_tri {P : Program} {f : FuncId} {fn : Func} {ac : ACd} {res : List AR} (hf : P.funcs[f]? = some fn) (hc : cFn P fn = some (.code ac res)) {args : List AV} {us : List Value} {s0 : Lit} (hs : ∃ fr, frameOf args places Fr.nil = some fr ∧ s0.frame = fr) (h0 : s0.hp = hp0)
    {ρ : Vn} (hargs : All2 (VV ρ (Emb.nil ρ.z)) args us) (w : World) (hz : ∀ b x, ρ.z b = some x → w.heap[b]? = some x) {R : Value → Prop}
    (ht : Tri P fn.ntmps ac (At w fn.ntmps ρ s0) fun e a w' => e = .ret ∧ ∃ ρ' s' v h', retOf res s'.frame s'.hp = .ok v h' ∧ (∀ φ u, (∀ b x, ρ.z b = some x → φ.z b = some x) → VV ρ' φ v u → R u) ∧ At w fn.ntmps ρ' s' a w' ∧ ρ'.z = ρ.z) : Calls P f us.toArray w fun e w' => ∃ u, e = .returned u ∧ R u ∧ Below w.heap.size w w' := by
  unfold cFn at hc
  cases hb : fn.body with
  | none => rw [hb] at hc; cases hc
  | some c =>
  rw [hb] at hc
  dsimp only at hc
  split at hc
  · rename_i b' r' h1 h2
    cases hc
    obtain ⟨fr, hfr, hsf⟩ := hs
    refine calls_of_wp hf hb ?_
    have hframe : FR ρ (Emb.nil ρ.z) fr (us.toArray ++ Array.replicate (fn.ntmps - us.toArray.size) undef) := by
      refine frame_ok (k := 0) hargs (fun i p hp => by rw [Nat.zero_add]; exact places_tn i p hp) (fun i u hiu => ?_) (fun i j x hx => by rw [getF_nil] at hx; cases hx) hfr
      have hlt := (List.getElem?_eq_some_iff.1 hiu).1
      rw [Nat.zero_add, Array.getElem?_append_left (by simpa using hlt)]
      simpa using hiu
    have hsz : fn.ntmps ≤ (us.toArray ++ Array.replicate (fn.ntmps - us.toArray.size) undef).size := by simp; omega
    refine wp_mono (ht c h1 { tmps := us.toArray ++ Array.replicate (fn.ntmps - us.toArray.size) undef, defers := [] } w ⟨Emb.nil ρ.z, by rw [hsf]; exact hframe, by rw [h0]; exact rel0 ρ w hz, ?_, rfl, hsz⟩) ?_
    · rw [h0]
      exact ⟨fun _ _ => rfl, Nat.le_refl _, rfl, rfl, rfl, fun id x hi => by rw [hp0_get] at hi; cases hi⟩
    · rintro e a' w' ⟨_, rfl, ρ', s', v, h', hret, hv, ⟨φ', q1, q2, q3, q4, q5⟩, hz'⟩
      obtain ⟨rfl, u, q6, q7⟩ := results_ok q1 q2 h2 hret
      exact ⟨q4, u, q6, u, rfl, hv φ' u (fun b x hb => q2.frz.zin b x (by rw [hz']; exact hb)) q7, q3.below⟩
  · cases hc
end Go.Proofs.YtnofmmceafkkoaaGreat
