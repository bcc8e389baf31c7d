/-
  A verified evaluator of the model: EvB.
-/
import Derived.Test.YtjnfgapfhpihmaaGreatEvA
import Derived.Laws.Entries
import Derived.Laws.StructEq
import Derived.Lib.SliceRun
import Derived.IntWalk
import Derived.Laws.BytesArg
import Derived.ChangeKeysEq
set_option linter.unusedVariables false
set_option linter.unusedSimpArgs false
namespace Go.Proofs.YtjnfgapfhpihmaaGreat
def opR (f : Operand → Value) (op : Op) (ty : TypeId) : Sem Next := execOp f ⟨none, op, ty, "", #[], none⟩
theorem execOp_eq (f : Operand → Value) (o : Oper) : execOp f o = opR f o.op o.type := by cases o; rfl
def nxv : Next → Option Value
  | .value v => some v
  | .skip => some undef
  | _ => none
def BndOk (ρ : Vn) (φ : Emb) (o : Option AC) (d n : Nat) : Prop := match o with
  | none => n = d
  | some c => ∀ v, VC ρ φ c v → ∃ k, v = .int k (Int.ofNat n)
structure EnvOk (E : Env) (ρ : Vn) : Prop where
  prop : E.prop ρ
  cmp : ∀ op u v b, E.cmp op u v = some b → ∀ φ x y, VC ρ φ u x → VC ρ φ v y → ∀ P t p q w, (do eqGuard op t p q x y; binOp op t x y : Sem Value).run P w = .ok (.bool b) w
  bin : ∀ op u v r, E.bin op u v = some r → ∀ φ x y, VC ρ φ u x → VC ρ φ v y → ∀ P t p q w, ∃ z, (do eqGuard op t p q x y; binOp op t x y : Sem Value).run P w = .ok z w ∧ VC ρ φ r z
  len : ∀ y c, E.len y = some c → ∀ φ, VC ρ φ c (.int .i64 (ρ.s y).size)
  cv : ∀ k q y c, E.cv k q y = some c → ∀ φ, VC ρ φ c (.int k (k.wrap (ρ.i y)))
  gen : ∀ P o l v, E.gen P o l = some v → ∀ φ (f : Operand → Value) ty w, All2 (fun (a : Option AV) x => ∀ b, a = some b → VV ρ φ b (f x)) l o.operands.toList → ∃ u, (opR f o ty).run P w = .ok (.value u) w ∧ VV ρ φ v u
  dlen : ∀ y c, E.dlen y = some c → ∀ φ, VC ρ φ c (.int .i64 (ρ.d y).length)
  dix : ∀ y c t, E.dix y c = some t → ∀ φ v, VC ρ φ c v → ∃ k n, v = .int k (Int.ofNat n) ∧ n < (ρ.d y).length ∧ ρ.i t = Int.ofNat n
  dld : ∀ sh y t p c, E.dld sh y t p = some c → ∀ φ row vs, (ρ.d y)[(ρ.i t).toNat]? = some row → RowD φ.z sh row vs → ∃ v, vs[p]? = some v ∧ VC ρ φ c v
  dsl : ∀ y lo hi t, E.dsl y lo hi = some t → ∀ φ, ∃ l u, BndOk ρ φ lo 0 l ∧ BndOk ρ φ hi (ρ.d y).length u ∧ l ≤ u ∧ u ≤ (ρ.d y).length ∧ ρ.d t = ((ρ.d y).drop l).take (u - l)
  dap : ∀ e y cs t, E.dap e y cs = some t → ∀ φ vs, All2 (VC ρ φ) cs vs → ∃ rows, ρ.d t = ρ.d y ++ rows ∧ rows.length * e.len = vs.length ∧ ∀ (i : Nat) row, rows[i]? = some row → RowD φ.z e row ((vs.drop (i * e.len)).take e.len)
  dcat : ∀ y y' t, E.dcat y y' = some t → ρ.d nmNil = [] ∧ ρ.d t = ρ.d y ++ ρ.d y'
  dbig : ∀ t b, E.dbig t b = true → (ρ.d t).length ≤ 1048576 ∧ (ρ.d t).length * b ≤ 1048576
  sof : ∀ l c, E.sof l = some c → ∀ φ vs, All2 (VC ρ φ) l vs → ∃ xs : List Int, vs = xs.map (Value.int .u8) ∧ VC ρ φ c (.string (strOfNums xs))
def Res (ρ : Vn) (φ : Emb) (h : Hp) (w : World) (v : AV) (h' : Hp) (r : Result Next) : Prop :=
  ∃ nx u w' φ', r = .ok nx w' ∧ nxv nx = some u ∧ VV ρ φ' v u ∧ Stp ρ φ h w φ' h' w'
section inv
variable {α : Type} {o : Option α} {v : AV} {h h' : Hp} {fr : Fr} {x y : AX}
theorem ro_ok {f : α → RO} (e : ro o f = .ok v h) : ∃ a, o = some a ∧ f a = .ok v h := by
  cases o with
  | none => cases e
  | some a => exact ⟨a, rfl, e⟩
theorem br_ok {c : Bool} {r : RO} (e : br c r = .ok v h) : c = true ∧ r = .ok v h := by
  cases c with
  | false => cases e
  | true => exact ⟨rfl, e⟩
theorem asC_some {u : AV} {c : AC} (e : asC u = some c) : u = .c c := by cases u <;> cases e; rfl
theorem asA_some {u : AV} {c : List AC} (e : asA u = some c) : u = .a c := by cases u <;> cases e; rfl
theorem asT_some {u : AV} {c : List TV} (e : asT u = some c) : u = .t c := by cases u <;> cases e; rfl
theorem evC_ok {f : AC → RO} (e : evC x fr f = .ok v h) : ∃ c, ev x fr = some (.c c) ∧ f c = .ok v h := by
  obtain ⟨u, h1, h2⟩ := ro_ok e
  obtain ⟨c, h3, h4⟩ := ro_ok h2
  rw [asC_some h3] at h1
  exact ⟨c, h1, h4⟩
theorem evP_ok {f : Bid → Nat → RO} (e : evP x fr f = .ok v h) : ∃ id off, ev x fr = some (.c (.p id off)) ∧ f id off = .ok v h := by
  obtain ⟨c, h1, h2⟩ := evC_ok e
  cases c <;> first | cases h2 | exact ⟨_, _, h1, h2⟩
theorem onD_ok {c : AC} {e0 : RO} {f : Sh → Nm → RO} (e : onD c e0 f = .ok v h) : (∃ s y, (c = .ds s y ∨ c = .dc s y) ∧ f s y = .ok v h) ∨ ((∀ s y, c ≠ .ds s y ∧ c ≠ .dc s y) ∧ e0 = .ok v h) := by
  cases c <;> first | exact .inl ⟨_, _, .inl rfl, e⟩ | exact .inl ⟨_, _, .inr rfl, e⟩ | exact .inr ⟨(fun _ _ => ⟨(fun h => nomatch h), (fun h => nomatch h)⟩), e⟩
theorem onPd_ok {c : AC} {f0 : Bid → Nat → RO} {f : Sh → Nm → Nm → Nat → RO} (e : onPd c (onP c f0) f = .ok v h) : (∃ s y t o, c = .pd s y t o ∧ f s y t o = .ok v h) ∨ ∃ id off, c = .p id off ∧ f0 id off = .ok v h := by
  cases c <;> first | exact .inl ⟨_, _, _, _, rfl, e⟩ | exact .inr ⟨_, _, rfl, e⟩ | cases e
theorem evPd_ok {f0 : Bid → Nat → RO} {f : Sh → Nm → Nm → Nat → RO} (e : evC x fr (fun c => onPd c (onP c f0) f) = .ok v h) : (∃ s y t o, ev x fr = some (.c (.pd s y t o)) ∧ f s y t o = .ok v h) ∨ ∃ id off, ev x fr = some (.c (.p id off)) ∧ f0 id off = .ok v h := by
  obtain ⟨c, h1, e1⟩ := evC_ok e
  rcases onPd_ok e1 with ⟨s, y, t, o, rfl, e2⟩ | ⟨id, off, rfl, e2⟩
  · exact .inl ⟨s, y, t, o, h1, e2⟩
  · exact .inr ⟨id, off, h1, e2⟩
theorem onB_ok {c : AC} {f : Bool → RO} (e : onB c f = .ok v h) : ∃ b, c = .b b ∧ f b = .ok v h := by
  cases c <;> first | cases e | exact ⟨_, rfl, e⟩
theorem natOf_some {c : AC} {n : Nat} (e : natOf c = some n) : ∃ k, c = .i k (Int.ofNat n) := by
  unfold natOf at e
  split at e
  · cases e; exact ⟨_, rfl⟩
  · cases e
theorem evN_some {n : Nat} (e : evN x fr = some n) : ∃ k, ev x fr = some (.c (.i k (Int.ofNat n))) := by
  obtain ⟨u, h1, h2⟩ := ob_some e
  obtain ⟨c, h3, h4⟩ := ob_some h2
  obtain ⟨k, rfl⟩ := natOf_some h4
  rw [asC_some h3] at h1
  exact ⟨k, h1⟩
theorem new_ok {b : AB} {k : Bid → AV} (e : new h b k = .ok v h') : ∃ n, h.next.inc = some n ∧ v = k h.next ∧ h' = h.more n b := by
  cases h with | mk i bl =>
  obtain ⟨n, h1, h2⟩ := ro_ok (show ro i.inc _ = RO.ok v h' from e)
  cases h2
  exact ⟨n, h1, rfl, rfl⟩
end inv
section opd
variable {ρ : Vn} {φ : Emb}
theorem AC.of_ok {u : Value} {c : AC} (e : AC.of u = some c) : VC ρ φ c u := by
  unfold AC.of at e
  split at e <;> first | (cases e; rfl) | (cases e; exact ⟨_, rfl, rfl⟩) | skip
  · rename_i f x y
    cases hb : (Nat.beq x.size 0 && Nat.beq y.size 0) with
    | false => rw [hb] at e; cases e
    | true =>
      rw [hb] at e
      simp only [cond_true] at e
      rw [Bool.and_eq_true] at hb
      have hx : x = #[] := Array.eq_empty_of_size_eq_zero (Nat.eq_of_beq_eq_true hb.1)
      have hy : y = #[] := Array.eq_empty_of_size_eq_zero (Nat.eq_of_beq_eq_true hb.2)
      subst hx; subst hy
      cases hf : Bid.of f with
      | none => rw [hf] at e; cases e
      | some g => rw [hf] at e; cases e; exact ⟨[], [], by rw [Bid.of_num hf], .nil, .nil⟩
  · cases e
theorem acsOf_ok : ∀ {us : List Value} {l : List AC}, acsOf us = some l → All2 (VC ρ φ) l us
  | [], l, e => by cases e; exact .nil
  | u :: us, l, e => by
    simp only [acsOf] at e
    cases h1 : AC.of u with
    | none => rw [h1] at e; cases e
    | some c =>
      rw [h1] at e
      dsimp only at e
      cases h2 : acsOf us with
      | none => rw [h2] at e; cases e
      | some m => rw [h2] at e; cases e; exact .cons (AC.of_ok h1) (acsOf_ok h2)
theorem AV.of_ok {u : Value} {v : AV} (e : AV.of u = some v) : VV ρ φ v u := by
  unfold AV.of at e
  split at e
  · rename_i cs
    cases h1 : acsOf cs.toList with
    | none => rw [h1] at e; cases e
    | some l => rw [h1] at e; cases e; exact ⟨cs.toList, by simp, acsOf_ok h1⟩
  · rename_i vs
    cases hb : Nat.beq vs.size 0 with
    | false => rw [hb] at e; cases e
    | true =>
      rw [hb] at e
      have hx : vs = #[] := Array.eq_empty_of_size_eq_zero (Nat.eq_of_beq_eq_true hb)
      subst hx
      cases e; exact ⟨[], rfl, .nil⟩
  · cases h1 : AC.of u with
    | none => rw [h1] at e; cases e
    | some c => rw [h1] at e; cases e; exact AC.of_ok h1
theorem cX_ok {x : Operand} {ax : AX} {fr : Fr} {a : Act} {v : AV} (hc : cX x = some ax) (hf : FR ρ φ fr a.tmps) (he : ev ax fr = some v) : VV ρ φ v (a.eval x) := by
  cases x with
  | tmp t =>
    simp only [cX] at hc
    cases ht : tmpOf t with
    | none => rw [ht] at hc; cases hc
    | some p =>
      rw [ht] at hc
      cases hc
      have := hf p.1 p.2 v he
      rw [tmpOf_tn (i := p.1) (j := p.2) ht] at this
      exact this.2
  | const u =>
    simp only [cX] at hc
    cases ht : AV.of u with
    | none => rw [ht] at hc; cases hc
    | some b => rw [ht] at hc; cases hc; cases he; exact AV.of_ok ht
  | global g => cases hc
  | func f =>
    simp only [cX] at hc
    cases hb : Bid.of f with
    | none => rw [hb] at hc; cases hc
    | some b => rw [hb] at hc; cases hc; cases he; exact ⟨[], [], by rw [Bid.of_num hb]; rfl, .nil, .nil⟩
theorem cXs_ok {a : Act} {fr : Fr} (hf : FR ρ φ fr a.tmps) : ∀ {xs : List Operand} {axs : List AX} {vs : List AV}, cXs xs = some axs → evs fr axs = some vs → All2 (VV ρ φ) vs (xs.map a.eval)
  | [], axs, vs, hc, he => by cases hc; cases he; exact .nil
  | x :: xs, axs, vs, hc, he => by
    simp only [cXs] at hc
    cases h1 : cX x with
    | none => rw [h1] at hc; cases hc
    | some ax =>
      rw [h1] at hc
      dsimp only at hc
      cases h2 : cXs xs with
      | none => rw [h2] at hc; cases hc
      | some m =>
        rw [h2] at hc
        cases hc
        obtain ⟨v, h3, h4⟩ := ob_some (show ob (ev ax fr) (fun v => ob (evs fr m) fun vs => some (v :: vs)) = some vs from he)
        obtain ⟨us, h5, h6⟩ := ob_some h4
        cases h6
        exact .cons (cX_ok h1 hf h3) (cXs_ok hf h2 h5)
end opd
structure Gv (E : Env) (ρ : Vn) (φ : Emb) (fr : Fr) (a : Act) (h : Hp) (w : World) : Prop where
  fr : FR ρ φ fr a.tmps
  rel : Rel ρ φ h w
  env : EnvOk E ρ
def Snd (P : Program) (E : Env) (op : Op) : Prop :=
  ∀ ao, cOp P op = some ao → ∀ (ρ : Vn) (φ : Emb) (fr : Fr) (a : Act) (h : Hp) (w : World) (v : AV) (h' : Hp) (ty : TypeId), Gv E ρ φ fr a h w → aop P E noCall ao fr h = .ok v h' → Res ρ φ h w v h' ((opR a.eval op ty).run P w)
section snd
variable {P : Program} {E : Env} {ρ : Vn} {φ : Emb} {fr : Fr} {a : Act} {h h' : Hp} {w : World} {v : AV} {ty : TypeId}
theorem Res.val (r : Rel ρ φ h w) {u : Value} (hv : VV ρ φ v u) {s : Result Next} (hs : s = .ok (.value u) w) : Res ρ φ h w v h s := ⟨_, u, w, φ, hs, rfl, hv, Stp.refl r⟩
theorem map_some {α β : Type} {f : α → β} {o : Option α} {b : β} (e : o.map f = some b) : ∃ x, o = some x ∧ b = f x := by
  cases o with
  | none => cases e
  | some x => cases e; exact ⟨x, rfl, rfl⟩
theorem sMv {x : Operand} {ax : AX} (hx : cX x = some ax) (g : Gv E ρ φ fr a h w) (e : opMv ax fr h = .ok v h') : VV ρ φ v (a.eval x) ∧ h' = h := by
  obtain ⟨u, h1, h2⟩ := ro_ok e
  cases h2
  exact ⟨cX_ok hx g.fr h1, rfl⟩
theorem snd_move (x : Operand) : Snd P E (.move x) := by
  intro ao hc ρ φ fr a h w v h' ty g e
  obtain ⟨ax, hx, rfl⟩ := map_some (show (cX x).map AO.mv = some ao from hc)
  obtain ⟨hv, rfl⟩ := sMv hx g (show opMv ax fr h = .ok v h' from e)
  exact Res.val g.rel hv rfl
theorem snd_assign (x : Operand) : Snd P E (.assign x) := by
  intro ao hc ρ φ fr a h w v h' ty g e
  obtain ⟨ax, hx, rfl⟩ := map_some (show (cX x).map AO.mv = some ao from hc)
  obtain ⟨hv, rfl⟩ := sMv hx g (show opMv ax fr h = .ok v h' from e)
  exact Res.val g.rel hv rfl
theorem snd_pick (c x y : Operand) : Snd P E (.pick c x y) := by
  intro ao hc ρ φ fr a h w v h' ty g e
  simp only [cOp] at hc
  split at hc
  · rename_i ac ax ay hc1 hx hy
    cases hc
    obtain ⟨q, h1, h2⟩ := evC_ok (show evC ac fr _ = .ok v h' from e)
    obtain ⟨b, rfl, h3⟩ := onB_ok h2
    have hb : a.eval c = .bool b := cX_ok hc1 g.fr h1
    cases b with
    | true =>
      obtain ⟨hv, rfl⟩ := sMv hx g (show opMv ax fr h = .ok v h' from h3)
      exact Res.val g.rel hv (by simp [opR, execOp, hb, asBool])
    | false =>
      obtain ⟨hv, rfl⟩ := sMv hy g (show opMv ay fr h = .ok v h' from h3)
      exact Res.val g.rel hv (by simp [opR, execOp, hb, asBool])
  · cases hc
theorem asI_ok {c : AC} {e0 : RO} {f : IntKind → Int → RO} (e : asI c e0 f = .ok v h) : (∃ k n, c = .i k n ∧ f k n = .ok v h) ∨ e0 = .ok v h := by
  cases c <;> first | exact .inr e | exact .inl ⟨_, _, rfl, e⟩
theorem wrap_nat {m : Nat} (hm : m < 9223372036854775808) : IntKind.i64.wrap (Int.ofNat m) = Int.ofNat m :=
  IntWalk.i64_in _ (by simp only [Int.ofNat_eq_natCast]; omega)
theorem isI64_eq {k : IntKind} (e : isI64 k = true) : k = .i64 := by cases k <;> first | rfl | cases e
theorem boolOr {c : Bool} {A B : Option AC} {r : AC} (e : Bool.casesOn (motive := fun _ => Option AC) c A B = some r) : (c = true ∧ B = some r) ∨ A = some r := by
  cases c with
  | false => exact .inr e
  | true => exact .inl ⟨rfl, e⟩
theorem band {c d : Bool} (e : Bool.casesOn (motive := fun _ => Bool) c false d = true) : c = true ∧ d = true := by
  cases c with
  | false => cases e
  | true => exact ⟨rfl, e⟩
theorem decEq {p : Prop} [Decidable p] {c : Bool} (h : c = true ↔ p) : decide p = c := by
  cases c with
  | true => exact decide_eq_true (h.1 rfl)
  | false => exact decide_eq_false fun hp => by have := h.2 hp; cases this
theorem intBin_slow {op : BinOp} {k : IntKind} {m n : Int} {r : AC} (e : intBin op k m n = some r) : slow op k m n = some r := by
  have key : ∀ (f : Nat → Nat → Option AC), both m n (slow op k m n) f = some r → (∀ x y, m = .ofNat x → n = .ofNat y → f x y = some r → slow op k m n = some r) → slow op k m n = some r := by
    intro f h1 h2
    cases m with
    | negSucc x => exact h1
    | ofNat x =>
      cases n with
      | negSucc y => exact h1
      | ofNat y => exact h2 x y rfl rfl h1
  cases op with
  | add =>
    refine key _ e fun x y hx hy h => ?_
    subst hx; subst hy
    rcases boolOr h with ⟨hb, h2⟩ | h2
    · obtain ⟨hk, hb1⟩ := band hb
      have hk' := isI64_eq hk
      subst hk'
      cases h2
      have hb' : x + y < 9223372036854775808 := Nat.le_of_ble_eq_true hb1
      simp only [slow]
      rw [show (Int.ofNat x + Int.ofNat y) = Int.ofNat (x + y) from rfl, wrap_nat hb']
      rfl
    · exact h2
  | sub =>
    refine key _ e fun x y hx hy h => ?_
    subst hx; subst hy
    rcases boolOr h with ⟨hb, h2⟩ | h2
    · obtain ⟨hk, hb1⟩ := band hb
      obtain ⟨hs, hb2⟩ := band hb1
      have hk' := isI64_eq hk
      subst hk'
      cases h2
      have hb' : x < 9223372036854775808 := Nat.le_of_ble_eq_true hb2
      have hs' : y ≤ x := Nat.le_of_ble_eq_true hs
      simp only [slow]
      rw [show (Int.ofNat x - Int.ofNat y) = Int.ofNat (x - y) by simp only [Int.ofNat_eq_natCast]; omega, wrap_nat (by omega)]
      rfl
    · exact h2
  | mul =>
    refine key _ e fun x y hx hy h => ?_
    subst hx; subst hy
    rcases boolOr h with ⟨hb, h2⟩ | h2
    · obtain ⟨hk, hb1⟩ := band hb
      have hk' := isI64_eq hk
      subst hk'
      cases h2
      have hb' : x * y < 9223372036854775808 := Nat.le_of_ble_eq_true hb1
      simp only [slow]
      rw [show (Int.ofNat x * Int.ofNat y) = Int.ofNat (x * y) from rfl, wrap_nat hb']
      rfl
    · exact h2
  | eql =>
    refine key _ e fun x y hx hy h => ?_
    subst hx; subst hy; cases h
    exact congrArg (fun b => some (AC.b b)) (decEq (c := Nat.beq x y) (by rw [Nat.beq_eq]; simp only [Int.ofNat_eq_natCast]; omega))
  | lss =>
    refine key _ e fun x y hx hy h => ?_
    subst hx; subst hy; cases h
    exact congrArg (fun b => some (AC.b b)) (decEq (c := Nat.blt x y) (by rw [Nat.blt_eq]; simp only [Int.ofNat_eq_natCast]; omega))
  | leq =>
    refine key _ e fun x y hx hy h => ?_
    subst hx; subst hy; cases h
    exact congrArg (fun b => some (AC.b b)) (decEq (c := Nat.ble x y) (by rw [Nat.ble_eq]; simp only [Int.ofNat_eq_natCast]; omega))
  | gtr =>
    refine key _ e fun x y hx hy h => ?_
    subst hx; subst hy; cases h
    exact congrArg (fun b => some (AC.b b)) (decEq (c := Nat.blt y x) (by rw [Nat.blt_eq]; simp only [Int.ofNat_eq_natCast]; omega))
  | geq =>
    refine key _ e fun x y hx hy h => ?_
    subst hx; subst hy; cases h
    exact congrArg (fun b => some (AC.b b)) (decEq (c := Nat.ble y x) (by rw [Nat.ble_eq]; simp only [Int.ofNat_eq_natCast]; omega))
  | neq =>
    refine key _ e fun x y hx hy h => ?_
    subst hx; subst hy; cases h
    exact congrArg (fun b => some (AC.b (!b))) (decEq (c := Nat.beq x y) (by rw [Nat.beq_eq]; simp only [Int.ofNat_eq_natCast]; omega))
  | _ => cases e
theorem int_beq (m n : Int) : (m == n) = decide (m = n) := rfl
theorem slow_run {op : BinOp} {k : IntKind} {m n : Int} {r : AC} (e : slow op k m n = some r) (t : TypeId) (p q : Operand) : ∃ u, VC ρ φ r u ∧ (do eqGuard op t p q (.int k m) (.int k n); binOp op t (.int k m) (.int k n) : Sem Value).run P w = .ok u w := by
  cases op <;> first | (cases e; done) | (cases e; exact ⟨_, rfl, by simp [eqGuard, binOp, Op.intArith, Op.intCmp, bne, int_beq]⟩)
theorem snd_bin {op : BinOp} {t : TypeId} {x y : Operand} {ax ay : AX} (hx : cX x = some ax) (hy : cX y = some ay) (u : TypeId) (g : Gv E ρ φ fr a h w) (e : opBin E op ax ay fr h = .ok v h') : Res ρ φ h w v h' ((opR a.eval (.binOp op t x y u) ty).run P w) := by
  obtain ⟨c, h1, e1⟩ := evC_ok e
  obtain ⟨d, h2, e2⟩ := evC_ok e1
  have hc : VC ρ φ c (a.eval x) := cX_ok hx g.fr h1
  have hd : VC ρ φ d (a.eval y) := cX_ok hy g.fr h2
  have cmp : opCmp E op c d h = .ok v h' → Res ρ φ h w v h' ((opR a.eval (.binOp op t x y u) ty).run P w) := by
    intro e3
    obtain ⟨b, h3, h4⟩ := ro_ok e3
    cases h4
    obtain ⟨z, this, hz⟩ := g.env.bin op c d b h3 φ _ _ hc hd P t x y w
    refine Res.val g.rel (v := .c b) (u := z) hz ?_
    simp only [opR, execOp]
    rw [Sem.run_bind, this]
    rfl
  rcases asI_ok e2 with ⟨k, m, hcm, e3⟩ | e3
  · rcases asI_ok e3 with ⟨k', n, hdn, e4⟩ | e4
    · obtain ⟨hk, e5⟩ := br_ok e4
      have hk' : k = k' := of_decide_eq_true hk
      obtain ⟨r, h3, h4⟩ := ro_ok e5
      cases h4
      obtain ⟨u', hu, hr⟩ := slow_run (ρ := ρ) (φ := φ) (P := P) (w := w) (intBin_slow h3) t x y
      refine Res.val g.rel (v := .c r) hu ?_
      rw [hcm] at hc
      rw [hdn, ← hk'] at hd
      simp only [opR, execOp]
      rw [show a.eval x = .int k m from hc, show a.eval y = .int k n from hd, Sem.run_bind, hr]
      rfl
    · exact cmp e4
  · exact cmp e3
theorem snd_not (u : TypeId) (x : Operand) : Snd P E (.unOp .not u x) := by
  intro ao hc ρ φ fr a h w v h' ty g e
  obtain ⟨ax, hx, rfl⟩ := map_some (show (cX x).map AO.not = some ao from hc)
  obtain ⟨q, h1, h2⟩ := evC_ok (show evC ax fr _ = .ok v h' from e)
  obtain ⟨b, rfl, h3⟩ := onB_ok h2
  cases h3
  have hb : a.eval x = .bool b := cX_ok hx g.fr h1
  exact Res.val g.rel (v := .c (.b (!b))) rfl (by simp [opR, execOp, hb, Op.unary])
end snd
end Go.Proofs.YtjnfgapfhpihmaaGreat
namespace Go.Proofs.YtjnfgapfhpihmaaGreat
section gen
variable {P : Program} {E : Env} {ρ : Vn} {φ : Emb} {fr : Fr} {a : Act} {h h' : Hp} {w : World} {v : AV} {ty : TypeId}
theorem pureRun_run {α : Type} {x : α} : ∀ {s : Sem α}, pureRun P s = some x → ∀ w, s.run P w = .ok x w
  | .pure b, e, w => by cases e; rfl
  | .program k, e, w => pureRun_run (s := k P) e w
  | .load .., e, _ => by cases e
  | .store .., e, _ => by cases e
  | .new .., e, _ => by cases e
  | .shape .., e, _ => by cases e
  | .freeze .., e, _ => by cases e
  | .frozen .., e, _ => by cases e
  | .getObj .., e, _ => by cases e
  | .setObj .., e, _ => by cases e
  | .choose .., e, _ => by cases e
  | .sys .., e, _ => by cases e
  | .mark .., e, _ => by cases e
  | .halt .., e, _ => by cases e
theorem ofNat_toNat8 (l : List UInt8) : (l.map UInt8.toNat).map UInt8.ofNat = l := by
  rw [List.map_map]
  conv => rhs; rw [← List.map_id l]
  exact List.map_congr_left fun b _ => by simp
theorem AC.val_eq {c : AC} {u x : Value} (e : c.val = some u) (hx : VC ρ φ c x) : x = u := by
  cases c <;> first | (cases e; exact hx) | (cases e; done) | skip
  obtain ⟨y, rfl, rfl⟩ := hx
  cases e
  rw [ofNat_toNat8]
theorem vals_eq : ∀ {l : List AC} {us xs : List Value}, vals l = some us → All2 (VC ρ φ) l xs → xs = us
  | [], us, xs, e, hx => by cases e; cases hx; rfl
  | c :: l, us, xs, e, hx => by
    cases hx with
    | cons h1 h2 =>
      simp only [vals] at e
      cases hv : c.val with
      | none => rw [hv] at e; cases e
      | some u =>
        rw [hv] at e
        dsimp only at e
        cases hl : vals l with
        | none => rw [hl] at e; cases e
        | some m => rw [hl] at e; cases e; rw [AC.val_eq hv h1, vals_eq hl h2]
theorem AV.val_eq {c : AV} {u x : Value} (e : c.val = some u) (hx : VV ρ φ c x) : x = u := by
  cases c with
  | c c => exact AC.val_eq e hx
  | a l =>
    obtain ⟨vs, rfl, h2⟩ := hx
    simp only [AV.val] at e
    cases hl : vals l with
    | none => rw [hl] at e; cases e
    | some m => rw [hl] at e; cases e; rw [vals_eq hl h2]
  | t l =>
    cases l with
    | nil => cases e; obtain ⟨vs, rfl, h2⟩ := hx; cases h2; rfl
    | cons => cases e
theorem opd_eq {x : Operand} (hf : FR ρ φ fr a.tmps) (e : opdOk fr x = true) : a.eval x = opdVal fr x := by
  cases x with
  | tmp t =>
    simp only [opdOk] at e
    simp only [opdVal]
    cases ht : tmpOf t with
    | none => rw [ht] at e; cases e
    | some p =>
      rw [ht] at e
      dsimp only at e ⊢
      cases hg : getF p.1 p.2 fr with
      | none => rw [hg] at e; cases e
      | some v =>
        rw [hg] at e
        dsimp only at e ⊢
        cases hv : v.val with
        | none => rw [hv] at e; cases e
        | some u =>
          have := (hf p.1 p.2 v hg).2
          rw [tmpOf_tn (i := p.1) (j := p.2) ht] at this
          exact AV.val_eq hv this
  | const u => rfl
  | global g => rfl
  | func f => rfl
theorem opd_ok {ρ : Vn} {φ : Emb} {fr : Fr} {a : Act} (hf : FR ρ φ fr a.tmps) (x : Operand) (b : AV) (h : opdAV fr x = some b) : VV ρ φ b (a.eval x) := by
  cases x with
  | tmp t =>
    simp only [opdAV] at h
    cases ht : tmpOf t with
    | none => rw [ht] at h; cases h
    | some p =>
      rw [ht] at h
      have := (hf p.1 p.2 b h).2
      rw [tmpOf_tn (i := p.1) (j := p.2) ht] at this
      exact this
  | const u => exact AV.of_ok h
  | global g => cases h
  | func f => cases h
theorem opds_ok {ρ : Vn} {φ : Emb} {fr : Fr} {a : Act} (hf : FR ρ φ fr a.tmps) : ∀ l : List Operand, All2 (fun (o : Option AV) x => ∀ b, o = some b → VV ρ φ b (a.eval x)) (l.map (opdAV fr)) l
  | [] => .nil
  | x :: l => .cons (fun b h => opd_ok hf x b h) (opds_ok hf l)
theorem gen_ok {op op' : Op} (hop : ∀ f : Operand → Value, (∀ x ∈ op.operands.toList, a.eval x = f x) → opR a.eval op' ty = execOp f ⟨none, op, 0, "", #[], none⟩) (g : Gv E ρ φ fr a h w) (e : opGen P E op fr h = .ok v h') :
    Res ρ φ h w v h' ((opR a.eval op' ty).run P w) := by
  obtain ⟨r, h1, h2⟩ := ro_ok e
  cases h2
  unfold genAny at h1
  cases hgr : genRun P op fr with
  | none =>
    rw [hgr] at h1
    obtain ⟨u, h3, h4⟩ := g.env.gen P op _ _ h1 φ a.eval 0 w (opds_ok g.fr _)
    rw [hop a.eval fun x _ => rfl]
    exact Res.val g.rel h4 h3
  | some r' =>
  rw [hgr] at h1
  cases h1
  replace h1 := hgr
  unfold genRun at h1
  cases hb : op.operands.toList.all (opdOk fr) with
  | false => rw [hb] at h1; cases h1
  | true =>
    rw [hb] at h1
    simp only [cond_true] at h1
    rw [hop (opdVal fr) fun x hx => opd_eq g.fr (List.all_eq_true.1 hb x hx)]
    cases hp : pureRun P (execOp (opdVal fr) ⟨none, op, 0, "", #[], none⟩) with
    | none => rw [hp] at h1; cases h1
    | some nx =>
      rw [hp] at h1
      cases nx with
      | value u => exact Res.val g.rel (AV.of_ok h1) (pureRun_run hp w)
      | _ => cases h1
theorem gen_bin {op : BinOp} {t : TypeId} {x y : Operand} (u : TypeId) (g : Gv E ρ φ fr a h w) (e : opGen P E (.binOp op t x y 0) fr h = .ok v h') : Res ρ φ h w v h' ((opR a.eval (.binOp op t x y u) ty).run P w) :=
  gen_ok (fun f hf => by simp only [opR, execOp]; rw [hf x (by simp [Op.operands]), hf y (by simp [Op.operands])]) g e
theorem byte_inj {l m : List UInt8} (e : l.map UInt8.toNat = m.map UInt8.toNat) : l = m := by
  have := congrArg (List.map UInt8.ofNat) e
  rwa [ofNat_toNat8, ofNat_toNat8] at this
theorem str_eq (x y : ByteArray) : (x.toList == y.toList) = decide (x.data.toList.map UInt8.toNat = y.data.toList.map UInt8.toNat) := by
  rw [ByteArray.toList_eq, ByteArray.toList_eq, Bool.eq_iff_iff, beq_iff_eq, decide_eq_true_eq]
  exact ⟨fun e => by rw [e], fun e => byte_inj e⟩
theorem run_strEq (t : TypeId) (p q : Operand) (x y : ByteArray) (neg : Bool) : (do eqGuard (bif neg then .neq else .eql) t p q (.string x) (.string y); binOp (bif neg then .neq else .eql) t (.string x) (.string y) : Sem Value).run P w = .ok (.bool (xor neg (x.toList == y.toList))) w := by
  cases neg <;> simp [eqGuard, binOp, Op.stringOp]
theorem strOp_run {neg : Bool} {c d : AC} {b : Bool} {x y : Value} (he : EnvOk E ρ) (e : strOp E neg c d = some b) (hc : VC ρ φ c x) (hd : VC ρ φ d y) (t : TypeId) (p q : Operand) :
    (do eqGuard (bif neg then .neq else .eql) t p q x y; binOp (bif neg then .neq else .eql) t x y : Sem Value).run P w = .ok (.bool b) w := by
  unfold strOp at e
  split at e
  · obtain ⟨x, rfl, rfl⟩ := hc
    obtain ⟨y, rfl, rfl⟩ := hd
    cases e
    rw [run_strEq, str_eq]
  · exact he.cmp _ _ _ _ e φ _ _ hc hd P t p q w
theorem snd_eqs {neg : Bool} {op : BinOp} (hop : op = bif neg then .neq else .eql) {t : TypeId} {x y : Operand} {ax ay : AX} (hx : cX x = some ax) (hy : cX y = some ay) (u : TypeId) (g : Gv E ρ φ fr a h w) (e : opEqs E neg ax ay fr h = .ok v h') : Res ρ φ h w v h' ((opR a.eval (.binOp op t x y u) ty).run P w) := by
  obtain ⟨c, h1, e1⟩ := evC_ok e
  obtain ⟨d, h2, e2⟩ := evC_ok e1
  obtain ⟨b, h3, e3⟩ := ro_ok e2
  cases e3
  have hc : VC ρ φ c (a.eval x) := cX_ok hx g.fr h1
  have hd : VC ρ φ d (a.eval y) := cX_ok hy g.fr h2
  refine Res.val g.rel (v := .c (.b b)) (u := .bool b) rfl ?_
  simp only [opR, execOp, hop]
  rw [Sem.run_bind, strOp_run g.env h3 hc hd]
  rfl
end gen
section eqa
variable {P : Program} {E : Env} {ρ : Vn} {φ : Emb} {w : World}
def aggD : TypeDesc → Bool
  | .struct _ => true
  | .array _ _ => true
  | _ => false
theorem run_sizeT {t : TypeId} {s : Nat} (e : sizeT P t = some s) (w : World) : (sizeOf t).run P w = .ok s w := by
  unfold sizeT at e
  cases hi : P.info? t with
  | none => rw [hi] at e; cases e
  | some i => rw [hi] at e; cases e; simp [sizeOf, typeInfo, hi]
theorem run_part_one {t : TypeId} {d : TypeDesc} (hu : P.underlying t = some d) (hd : aggD d = false) {vs : List Value} {off : Nat} {x : Value} (hx : vs[off]? = some x) (w : World) : (part t vs.toArray off).run P w = .ok x w := by
  have : (isAgg t).run P w = .ok false w := by
    simp only [isAgg, Sem.run_bind, run_underlying hu, Result.andThen_ok]
    cases d <;> first | rfl | cases hd
  simp [part, this, hx]
theorem run_part_agg {t : TypeId} {d : TypeDesc} (hu : P.underlying t = some d) (hd : aggD d = true) {s : Nat} (hs : sizeT P t = some s) (vs : List Value) (off : Nat) (w : World) : (part t vs.toArray off).run P w = .ok (.agg ((vs.drop off).take s).toArray) w := by
  have : (isAgg t).run P w = .ok true w := by
    simp only [isAgg, Sem.run_bind, run_underlying hu, Result.andThen_ok]
    cases d <;> first | rfl | cases hd
  simp [part, this, run_sizeT hs, List.extract_eq_take_drop, Nat.add_sub_cancel_left]
theorem eqKs_append : ∀ {k1 k2 : List CK} {l m : List AC} {b : Bool}, eqKs E (k1 ++ k2) l m = some b → ∃ b1 b2, eqKs E k1 (l.take k1.length) (m.take k1.length) = some b1 ∧ eqKs E k2 (l.drop k1.length) (m.drop k1.length) = some b2 ∧ b = (b1 && b2)
  | [], k2, l, m, b, e => ⟨true, b, by simp [eqKs], by simpa using e, by simp⟩
  | k :: k1, k2, [], m, b, e => by cases e
  | k :: k1, k2, x :: l, [], b, e => by cases e
  | k :: k1, k2, x :: l, y :: m, b, e => by
    simp only [List.cons_append, eqKs] at e
    cases h1 : eqCell E k x y with
    | none => rw [h1] at e; cases e
    | some c =>
      cases h2 : eqKs E (k1 ++ k2) l m with
      | none => rw [h1, h2] at e; cases e
      | some d =>
        rw [h1, h2] at e
        cases e
        obtain ⟨b1, b2, h3, h4, rfl⟩ := eqKs_append h2
        exact ⟨c && b1, b2, by simp [eqKs, h1, h3], by simpa using h4, by simp [Bool.and_assoc]⟩
theorem eqKs_length : ∀ {ks : List CK} {l m : List AC} {b : Bool}, eqKs E ks l m = some b → l.length = ks.length ∧ m.length = ks.length
  | [], [], [], b, e => ⟨rfl, rfl⟩
  | [], x :: l, m, b, e => by cases e
  | [], [], y :: m, b, e => by cases e
  | k :: ks, [], m, b, e => by cases e
  | k :: ks, x :: l, [], b, e => by cases e
  | k :: ks, x :: l, y :: m, b, e => by
    simp only [eqKs] at e
    cases h1 : eqCell E k x y with
    | none => rw [h1] at e; cases e
    | some c =>
      cases h2 : eqKs E ks l m with
      | none => rw [h1, h2] at e; cases e
      | some d => have := eqKs_length h2; simp [this.1, this.2]
def CkT (P : Program) (t : TypeId) : CK → Prop
  | .b => P.underlying t = some .bool
  | .i => ∃ q, P.underlying t = some (.int q)
  | .s => P.underlying t = some .string
theorem cmp_int (he : EnvOk E ρ) {c d : AC} {k : IntKind} {m n : Int} {b : Bool} (e : E.cmp .eql c d = some b) (hc : VC ρ (Emb.nil fun _ => none) c (.int k m)) (hd : VC ρ (Emb.nil fun _ => none) d (.int k n)) : b = (m == n) := by
  have := he.cmp .eql c d b e (Emb.nil fun _ => none) (.int k m) (.int k n) hc hd default 0 (.const undef) (.const undef) default
  simp [eqGuard, binOp, Op.intArith, Op.intCmp] at this
  exact this.symm
theorem eqCell_int (he : EnvOk E ρ) {c d : AC} {b : Bool} {x y : Value} (e : eqCell E .i c d = some b) (hc : VC ρ φ c x) (hd : VC ρ φ d y) : ∃ q m n, x = .int q m ∧ y = .int q n ∧ b = (m == n) := by
  cases c <;> first | (cases e; done) | skip
  · cases d <;> first | (cases e; done) | skip
    · rename_i k1 n1 k2 n2
      simp only [eqCell] at e
      cases hb : eqK k1 k2 with
      | false => rw [hb] at e; cases e
      | true =>
        rw [hb] at e
        cases e
        have : k1 = k2 := of_decide_eq_true hb
        subst this
        exact ⟨k1, n1, n2, hc, hd, by simp [int_beq]⟩
    · rename_i k1 n1 k2 n2
      simp only [eqCell] at e
      cases hb : eqK k1 k2 with
      | false => rw [hb] at e; cases e
      | true =>
        rw [hb] at e
        have : k1 = k2 := of_decide_eq_true hb
        subst this
        exact ⟨k1, n1, ρ.i n2, hc, hd, cmp_int he e rfl rfl⟩
  · cases d <;> first | (cases e; done) | skip
    · rename_i k1 n1 k2 n2
      simp only [eqCell] at e
      cases hb : eqK k1 k2 with
      | false => rw [hb] at e; cases e
      | true =>
        rw [hb] at e
        have : k1 = k2 := of_decide_eq_true hb
        subst this
        exact ⟨k1, ρ.i n1, n2, hc, hd, cmp_int he e rfl rfl⟩
    · rename_i k1 n1 k2 n2
      simp only [eqCell] at e
      cases hb : eqK k1 k2 with
      | false => rw [hb] at e; cases e
      | true =>
        rw [hb] at e
        have : k1 = k2 := of_decide_eq_true hb
        subst this
        exact ⟨k1, ρ.i n1, ρ.i n2, hc, hd, cmp_int he e rfl rfl⟩
theorem eqCell_run (he : EnvOk E ρ) {k : CK} {c d : AC} {b : Bool} {x y : Value} (e : eqCell E k c d = some b) (hc : VC ρ φ c x) (hd : VC ρ φ d y) {t : TypeId} (hk : CkT P t k) (D : Nat) :
    (Op.equalIn (D + 1) t x y).run P w = .ok b w := by
  cases k with
  | i =>
    obtain ⟨q, hq⟩ := hk
    obtain ⟨k1, m1, m2, hx, hy, rfl⟩ := eqCell_int he e hc hd
    rw [hx, hy, run_equalIn_int w D t k1 q m1 m2 hq]
  | b =>
    cases c <;> first | (cases e; done) | skip
    · cases d <;> first | (cases e; done) | skip
      cases e
      rw [show x = _ from hc, show y = _ from hd, run_equalIn_bool' w D t _ _ hk]
      rename_i p q
      cases p <;> cases q <;> rfl
    · cases d <;> first | (cases e; done) | skip
      rename_i p q
      have e1 : (bif decide (p = q) then some true else none) = some b := e
      cases hd2 : decide (p = q) with
      | false => rw [hd2] at e1; cases e1
      | true =>
        rw [hd2] at e1
        cases e1
        cases of_decide_eq_true hd2
        rw [show x = _ from hc, show y = _ from hd, run_equalIn_bool' w D t _ _ hk]
        cases ρ.b p <;> rfl
  | s =>
    have e0 : bo (isStr c && isStr d) (strOp E false c d) = some b := by
      cases c <;> cases d <;> exact e
    obtain ⟨hst, e'⟩ := bo_some e0
    rw [Bool.and_eq_true] at hst
    have hs : ∀ {c : AC} {x : Value}, isStr c = true → VC ρ φ c x → ∃ y, x = .string y := by
      intro c x h1 h2
      cases c <;> first | (cases h1; done) | skip
      · obtain ⟨y, hy, _⟩ := h2; exact ⟨y, hy⟩
      · exact ⟨_, h2⟩
    have hrun := strOp_run (P := P) (w := w) he e' hc hd t (.const (.bool true)) (.const (.bool true))
    simp only [cond_false] at hrun
    obtain ⟨p, rfl⟩ := hs hst.1 hc
    obtain ⟨q, rfl⟩ := hs hst.2 hd
    have h3 := run_strEq (P := P) (w := w) t (.const (.bool true)) (.const (.bool true)) p q false
    simp only [cond_false] at h3
    rw [hrun] at h3
    rw [run_equalIn_string w D t p q hk]
    simp at h3
    rw [h3]
end eqa
end Go.Proofs.YtjnfgapfhpihmaaGreat
namespace Go.Proofs.YtjnfgapfhpihmaaGreat
section eqa
variable {P : Program} {E : Env} {ρ : Vn} {φ : Emb} {w : World}
def PartEq (P : Program) (E : Env) (ρ : Vn) (φ : Emb) (w : World) (d : Nat) (t : TypeId) (ks : List CK) : Prop :=
  ∀ D, d ≤ D → ∀ (lx ly : List AC) (vx vy : List Value) (off : Nat) (b : Bool), All2 (VC ρ φ) lx vx → All2 (VC ρ φ) ly vy → eqKs E ks ((lx.drop off).take ks.length) ((ly.drop off).take ks.length) = some b →
    ∃ p q, (part t vx.toArray off).run P w = .ok p w ∧ (part t vy.toArray off).run P w = .ok q w ∧ (Op.equalIn D t p q).run P w = .ok b w
theorem fields_run {arr : Bool} {d D : Nat} (hD : d ≤ D) (ih : ∀ t ks, plainS P arr d t = some ks → sizeT P t = some ks.length → PartEq P E ρ φ w d t ks) {lx ly : List AC} {vx vy : List Value} (hx : All2 (VC ρ φ) lx vx) (hy : All2 (VC ρ φ) ly vy) :
    ∀ {fs : List Field} {n : Nat} {ks : List CK} {b : Bool}, plainFs P (plainS P arr d) fs n = some ks → eqKs E ks (lx.drop n) (ly.drop n) = some b → (Op.eqFields D vx.toArray vy.toArray fs).run P w = .ok b w
  | [], n, ks, b, e, hb => by
    cases e
    have : b = true := by
      revert hb
      cases lx.drop n <;> cases ly.drop n <;> intro hb <;> first | (cases hb; rfl) | cases hb
    rw [this]
    rfl
  | f :: fs, n, ks, b, e, hb => by
    simp only [plainFs] at e
    split at e
    · cases e
    · rename_i hn
      have hname : f.name ≠ "_" := fun h => hn (.inl h)
      have hoff : f.offset = n := Classical.byContradiction fun h => hn (.inr h)
      split at e
      · rename_i k s hk hs
        split at e
        · rename_i hks
          split at e
          · rename_i l hl
            cases e
            obtain ⟨b1, b2, h1, h2, rfl⟩ := eqKs_append hb
            obtain ⟨p, q, hp, hq, hr⟩ := ih f.type k hk (by rw [hs, hks]) D hD lx ly vx vy n b1 hx hy h1
            have h3 := fields_run hD ih hx hy (n := n + s) hl (by rw [← hks]; simpa [List.drop_drop, Nat.add_comm] using h2)
            simp only [Op.eqFields, if_pos hname, hoff, Sem.run_bind, hp, hq, hr, Result.andThen_ok, Sem.run_ite]
            cases b1 with
            | false => simp
            | true => simpa using h3
          · cases e
        · cases e
      · cases e
theorem take_one {α : Type} {l : List α} {off : Nat} {x : α} (e : (l.drop off).take 1 = [x]) : l[off]? = some x := by
  have h0 : ((l.drop off).take 1)[0]? = some x := by rw [e]; rfl
  simpa using h0
theorem part_one (he : EnvOk E ρ) {t : TypeId} {k : CK} {dd : TypeDesc} (hu : P.underlying t = some dd) (hd : aggD dd = false)
    (hk : CkT P t k) (d : Nat) : PartEq P E ρ φ w (d + 1) t [k] := by
  intro D hD lx ly vx vy off b hx hy hb
  obtain ⟨D', rfl⟩ : ∃ D', D = D' + 1 := ⟨D - 1, by omega⟩
  cases h1 : (lx.drop off).take 1 with
  | nil => rw [show ([k] : List CK).length = 1 from rfl, h1] at hb; cases hb
  | cons c l1 =>
    cases h2 : (ly.drop off).take 1 with
    | nil => rw [show ([k] : List CK).length = 1 from rfl, h1, h2] at hb; cases hb
    | cons c' l2 =>
      rw [show ([k] : List CK).length = 1 from rfl, h1, h2] at hb
      simp only [eqKs] at hb
      cases h3 : eqCell E k c c' with
      | none => rw [h3] at hb; cases hb
      | some b1 =>
        rw [h3] at hb
        have e1 : l1 = [] := by have := congrArg List.length h1; simp at this; exact List.eq_nil_of_length_eq_zero (by omega)
        have e2 : l2 = [] := by have := congrArg List.length h2; simp at this; exact List.eq_nil_of_length_eq_zero (by omega)
        subst e1; subst e2
        simp only [eqKs, Option.some.injEq] at hb
        have hb' : b = b1 := by rw [← hb]; simp
        obtain ⟨x, hx1, hx2⟩ := hx.get (take_one h1)
        obtain ⟨y, hy1, hy2⟩ := hy.get (take_one h2)
        exact ⟨x, y, run_part_one hu hd hx1 w, run_part_one hu hd hy1 w, by rw [hb']; exact eqCell_run he h3 hx2 hy2 hk D'⟩
theorem items_run {d D : Nat} (hD : d ≤ D) {el : TypeId} {ks : List CK} (ih : PartEq P E ρ φ w d el ks) {lx ly : List AC} {vx vy : List Value} (hx : All2 (VC ρ φ) lx vx) (hy : All2 (VC ρ φ) ly vy) :
    ∀ (m k : Nat) (b : Bool), eqKs E (kRep ks m) (lx.drop (k * ks.length)) (ly.drop (k * ks.length)) = some b → (Op.eqItems D el ks.length vx.toArray vy.toArray (List.range' k m)).run P w = .ok b w
  | 0, k, b, hb => by
    have : b = true := by
      revert hb
      show eqKs E [] _ _ = _ → _
      cases lx.drop (k * ks.length) <;> cases ly.drop (k * ks.length) <;> intro hb <;> first | (cases hb; rfl) | cases hb
    rw [this]
    rfl
  | m + 1, k, b, hb => by
    obtain ⟨b1, b2, h1, h2, rfl⟩ := eqKs_append (show eqKs E (ks ++ kRep ks m) _ _ = some b from hb)
    obtain ⟨p, q, hp, hq, hr⟩ := ih D hD lx ly vx vy (k * ks.length) b1 hx hy h1
    have h3 := items_run hD ih hx hy m (k + 1) b2 (by rw [Nat.succ_mul]; simpa [List.drop_drop, Nat.add_comm] using h2)
    rw [List.range'_succ]
    simp only [Op.eqItems, Sem.run_bind, hp, hq, hr, Result.andThen_ok]
    cases b1 with
    | false => simp
    | true => simpa using h3
theorem plain_run {arr : Bool} (he : EnvOk E ρ) : ∀ (d : Nat) (t : TypeId) (ks : List CK), plainS P arr d t = some ks → sizeT P t = some ks.length → PartEq P E ρ φ w d t ks
  | 0, t, ks, e, _ => by cases e
  | d + 1, t, ks, e, hs => by
    simp only [plainS] at e
    split at e
    · rename_i hu; cases e; exact part_one (k := .b) he hu rfl hu d
    · rename_i q hu; cases e; exact part_one (k := .i) he hu rfl ⟨q, hu⟩ d
    · rename_i hu; cases e; exact part_one (k := .s) he hu rfl hu d
    · rename_i fs hu
      split at e
      · cases e
      · rename_i hst
        intro D hD lx ly vx vy off b hx hy hb
        obtain ⟨D', rfl⟩ : ∃ D', D = D' + 1 := ⟨D - 1, by omega⟩
        refine ⟨_, _, run_part_agg hu rfl hs vx off w, run_part_agg hu rfl hs vy off w, ?_⟩
        have hf : P.fieldsOf t = fs := by simp [Program.fieldsOf, hu]
        rw [run_equalIn_agg w D' t _ _ (by rw [hf]; exact hu) (by simpa using hst), hf]
        exact fields_run (by omega) (fun t ks => plain_run he d t ks) ((hx.drop off).take _) ((hy.drop off).take _) e (by simpa using hb)
    · rename_i n el hu
      split at e
      · rename_i ks' s' hk hsz
        split at e
        · rename_i hl2
          have hl := hl2.2
          cases e
          intro D hD lx ly vx vy off b hx hy hb
          obtain ⟨D', rfl⟩ : ∃ D', D = D' + 1 := ⟨D - 1, by omega⟩
          refine ⟨_, _, run_part_agg hu rfl hs vx off w, run_part_agg hu rfl hs vy off w, ?_⟩
          obtain ⟨i, hi, hi2⟩ : ∃ i, P.info? el = some i ∧ i.size = s' := by
            unfold sizeT at hsz
            cases h : P.info? el with
            | none => rw [h] at hsz; cases hsz
            | some i => rw [h] at hsz; cases hsz; exact ⟨i, rfl, rfl⟩
          have hco : P.cellsOf el = ks'.length := by simp [Program.cellsOf, hi, hi2, hl]
          rw [run_equalIn_array w D' _ _ hu hi, hco, List.range_eq_range']
          exact items_run (by omega) (plain_run he d el ks' hk (by rw [hsz, hl])) ((hx.drop off).take _) ((hy.drop off).take _) n 0 b (by simpa using hb)
        · cases e
      · cases e
    · cases e
variable {fr : Fr} {a : Act} {h h' : Hp} {v : AV} {ty : TypeId}
theorem snd_eqa {neg : Bool} {op : BinOp} (hop : op = bif neg then .neq else .eql) {t : TypeId} {dd : TypeDesc} (hu : P.underlying t = some dd) (hagg : aggD dd = true) {x y : Operand} {ao : AO} (hc : cEqa P neg t x y = some ao) (u : TypeId) (g : Gv E ρ φ fr a h w) (e : aop P E noCall ao fr h = .ok v h') : Res ρ φ h w v h' ((opR a.eval (.binOp op t x y u) ty).run P w) := by
  unfold cEqa at hc
  split at hc
  · cases hc
  · rename_i hg
    split at hc
    · rename_i ks ax ay hk hx hy
      split at hc
      case isFalse => cases hc
      rename_i hsz
      cases hc
      obtain ⟨p, h1, e1⟩ := ro_ok (show opEqa E neg ks ax ay fr h = .ok v h' from e)
      obtain ⟨q, h2, e2⟩ := ro_ok e1
      obtain ⟨l, h3, e3⟩ := ro_ok e2
      obtain ⟨m, h4, e4⟩ := ro_ok e3
      obtain ⟨b, h5, e5⟩ := ro_ok e4
      cases e5
      rw [asA_some h3] at h1
      rw [asA_some h4] at h2
      obtain ⟨vx, ex, hvx⟩ := cX_ok hx g.fr h1
      obtain ⟨vy, ey, hvy⟩ := cX_ok hy g.fr h2
      have hlen := eqKs_length h5
      obtain ⟨p', q', hp, hq, hr⟩ := plain_run (P := P) (w := w) g.env 8 t ks hk hsz 10000 (by omega) l m vx vy 0 b hvx hvy (by rw [List.drop_zero, List.drop_zero, List.take_of_length_le (by omega), List.take_of_length_le (by omega)]; exact h5)
      rw [run_part_agg hu hagg hsz] at hp hq
      cases hp
      cases hq
      have l1 := hvx.length
      have l2 := hvy.length
      rw [List.drop_zero, List.drop_zero, List.take_of_length_le (by omega), List.take_of_length_le (by omega)] at hr
      refine Res.val g.rel (v := .c (.b (xor neg b))) (u := .bool (xor neg b)) rfl ?_
      simp only [opR, execOp, ex, ey]
      rw [Sem.run_bind, Sem.run_bind, run_eqGuard_agg w op t x y _ _ (by simpa using hg), Result.andThen_ok]
      subst hop
      cases neg with
      | false => simp only [cond_false]; rw [run_eql_struct, hr]; simp
      | true => simp only [cond_true]; rw [run_neq_struct, hr]; simp
    · cases hc
end eqa
end Go.Proofs.YtjnfgapfhpihmaaGreat
namespace Go.Proofs.YtjnfgapfhpihmaaGreat
section
variable {P : Program} {E : Env} {ρ : Vn} {φ : Emb} {fr : Fr} {a : Act} {h h' : Hp} {w : World} {v : AV} {ty : TypeId}
theorem isNil_ok {c : AC} {b : Bool} {x : Value} (e : isNil c = some b) (hc : VC ρ φ c x) : ∃ p n m, x = .slice p n m ∧ p.isNone = b := by
  unfold isNil at e
  split at e <;> cases e
  · exact ⟨none, 0, 0, hc, rfl⟩
  · obtain ⟨b, base, tot, _, rfl⟩ := hc; exact ⟨_, _, _, rfl, rfl⟩
  · obtain ⟨b, base, tot, cap, _, rfl, _⟩ := hc; exact ⟨_, _, _, rfl, rfl⟩
  · obtain ⟨b, base, tot, o, cap, _, rfl, _⟩ := hc; exact ⟨_, _, _, rfl, rfl⟩
theorem run_equalIn_slice (d : Nat) {t el : TypeId} (hu : P.underlying t = some (.slice el)) (p q : Option Addr) (n m n' m' : Nat) (hb : (p.isNone || q.isNone) = true) : (Op.equalIn (d + 1) t (.slice p n m) (.slice q n' m')).run P w = .ok (p.isNone && q.isNone) w := by
  cases p <;> cases q <;> first | (cases hb; done) | simp [Op.equalIn, run_underlying hu]
theorem snd_eqn {neg : Bool} {op : BinOp} (hop : op = bif neg then .neq else .eql) {t el : TypeId} (hu : P.underlying t = some (.slice el)) {x y : Operand} {ax ay : AX} (hx : cX x = some ax) (hy : cX y = some ay) (u : TypeId) (g : Gv E ρ φ fr a h w) (e : opEqn neg ax ay fr h = .ok v h') : Res ρ φ h w v h' ((opR a.eval (.binOp op t x y u) ty).run P w) := by
  obtain ⟨c, h1, e1⟩ := evC_ok e
  obtain ⟨d, h2, e2⟩ := evC_ok e1
  obtain ⟨p, h3, e3⟩ := ro_ok e2
  obtain ⟨q, h4, e4⟩ := ro_ok e3
  obtain ⟨hb, e5⟩ := br_ok e4
  cases e5
  obtain ⟨p1, n1, m1, hx1, hp1⟩ := isNil_ok (ρ := ρ) (φ := φ) h3 (show VC ρ φ c (a.eval x) from cX_ok hx g.fr h1)
  obtain ⟨p2, n2, m2, hx2, hp2⟩ := isNil_ok (ρ := ρ) (φ := φ) h4 (show VC ρ φ d (a.eval y) from cX_ok hy g.fr h2)
  refine Res.val g.rel (v := .c (.b (xor neg (p && q)))) (u := .bool (xor neg (p && q))) rfl ?_
  subst hop
  subst hp1
  subst hp2
  simp only [opR, execOp, hx1, hx2]
  have hq := run_equalIn_slice (P := P) (w := w) 9999 hu p1 p2 n1 m1 n2 m2 hb
  cases neg with
  | false =>
    simp only [cond_false, eqGuard, binOp, Sem.run_bind, Op.equal, Op.maxDepth]
    simp [hq]
  | true =>
    simp only [cond_true, eqGuard, binOp, Sem.run_bind, Op.equal, Op.maxDepth]
    simp [hq]
theorem snd_binOp (op : BinOp) (t : TypeId) (x y : Operand) (u : TypeId) : Snd P E (.binOp op t x y u) := by
  intro ao hc ρ φ fr a h w v h' ty g e
  simp only [cOp] at hc
  split at hc
  · cases hc; exact gen_bin u g e
  · cases hc; exact gen_bin u g e
  · cases hc; exact gen_bin u g e
  · cases hc; exact gen_bin u g e
  · cases hc; exact gen_bin u g e
  · cases hc; exact gen_bin u g e
  · cases hc; exact gen_bin u g e
  · cases hc; exact gen_bin u g e
  · split at hc
    · rename_i ax ay hx hy; cases hc; exact snd_bin hx hy u g e
    · cases hc
  · split at hc
    · rename_i ax ay hx hy; cases hc; exact snd_eqs (neg := false) rfl hx hy u g e
    · cases hc
  · split at hc
    · rename_i ax ay hx hy; cases hc; exact snd_eqs (neg := true) rfl hx hy u g e
    · cases hc
  · rename_i fs hu; exact snd_eqa (neg := false) rfl hu rfl hc u g e
  · rename_i fs hu; exact snd_eqa (neg := true) rfl hu rfl hc u g e
  · rename_i hu; exact snd_eqa (neg := false) rfl hu rfl hc u g e
  · rename_i hu; exact snd_eqa (neg := true) rfl hu rfl hc u g e
  · rename_i el hu
    split at hc
    · rename_i ax ay hx hy; cases hc; exact snd_eqn (neg := false) rfl hu hx hy u g e
    · cases hc
  · rename_i el hu
    split at hc
    · rename_i ax ay hx hy; cases hc; exact snd_eqn (neg := true) rfl hu hx hy u g e
    · cases hc
  · cases hc; exact gen_bin u g e
  · cases hc
theorem snd_unOp (op : UnOp) (t : TypeId) (x : Operand) : Snd P E (.unOp op t x) := by
  cases op with
  | not => exact snd_not t x
  | _ =>
    intro ao hc ρ φ fr a h w v h' ty g e
    cases hc
    exact gen_ok (fun f hf => by simp only [opR, execOp]; rw [hf x (by simp [Op.operands])]) g e
theorem conv_eq (k : IntKind) (n : Int) : conv k n = k.wrap n := by
  unfold conv
  cases n with
  | negSucc m => rfl
  | ofNat m =>
    show Bool.casesOn (motive := fun _ => Int) (Nat.blt m 128) (k.wrap (Int.ofNat m)) (Int.ofNat m) = _
    cases hb : Nat.blt m 128 with
    | false => rfl
    | true =>
      have hm : m < 128 := Nat.le_of_ble_eq_true hb
      show Int.ofNat m = k.wrap (Int.ofNat m)
      cases k <;> simp [IntKind.wrap, IntKind.bits, IntKind.signed] <;> omega
theorem snd_ci {s d : TypeId} {q k : IntKind} (hs : P.underlying s = some (.int q)) (hd : P.underlying d = some (.int k)) {x : Operand} {ax : AX} (hx : cX x = some ax) (g : Gv E ρ φ fr a h w) (e : opCi E k ax fr h = .ok v h') : Res ρ φ h w v h' ((opR a.eval (.convert s d x) ty).run P w) := by
  obtain ⟨c, h1, e1⟩ := evC_ok e
  rcases asI_ok e1 with ⟨k1, n, hcn, e2⟩ | e2
  · cases e2
    have hc : VC ρ φ c (a.eval x) := cX_ok hx g.fr h1
    rw [hcn] at hc
    refine Res.val g.rel (v := .c (.i k (conv k n))) (u := .int k (conv k n)) rfl ?_
    simp [opR, execOp, show a.eval x = .int k1 n from hc, convert, run_underlying hs, run_underlying hd, Conv.intToInt, conv_eq]
  · have hc : VC ρ φ c (a.eval x) := cX_ok hx g.fr h1
    unfold symCi at e2
    split at e2
    · rename_i q' y
      obtain ⟨c', h3, e3⟩ := ro_ok e2
      cases e3
      refine Res.val g.rel (v := .c c') (u := .int k (k.wrap (ρ.i y))) (g.env.cv _ _ _ _ h3 φ) ?_
      simp [opR, execOp, show a.eval x = .int q' (ρ.i y) from hc, convert, run_underlying hs, run_underlying hd, Conv.intToInt]
    · cases e2
theorem snd_nc (x : Operand) : Snd P E (.nilCheck x) := by
  intro ao hc ρ φ fr a h w v h' ty g e
  obtain ⟨ax, hx, rfl⟩ := map_some (show (cX x).map AO.nc = some ao from hc)
  obtain ⟨c, h1, e1⟩ := evC_ok (show opNc ax fr h = .ok v h' from e)
  have hv := cX_ok hx g.fr h1
  split at e1
  · cases e1
    refine Res.val g.rel hv ?_
    obtain ⟨b, base, tot, _, hp⟩ := hv
    simp [opR, execOp, hp]
  · cases e1
    refine Res.val g.rel hv ?_
    obtain ⟨b, base, arr, T, fz, row, hp, _⟩ := hv
    simp [opR, execOp, hp]
  · cases e1
    refine Res.val g.rel hv ?_
    obtain ⟨xs, ys, hp, _⟩ := hv
    simp [opR, execOp, hp]
  · cases e1
theorem ptrs_ok : ∀ {us : List AV} {l : List (Bid × Nat)} {xs : List Value}, ptrs us = some l → All2 (VV ρ φ) us xs → All2 (PtrAt φ) l xs
  | [], l, xs, e, hx => by cases e; cases hx; exact .nil
  | u :: us, l, xs, e, hx => by
    cases hx with
    | cons h1 h2 =>
      cases u with
      | c c =>
        cases c <;> first | (cases e; done) | skip
        simp only [ptrs] at e
        cases hm : ptrs us with
        | none => rw [hm] at e; cases e
        | some m => rw [hm] at e; cases e; exact .cons h1 (ptrs_ok hm h2)
      | a l => cases e
      | t l => cases e
theorem snd_mf (f : FuncId) (first caps : Array Operand) : Snd P E (.makeFunc (.func f) first caps) := by
  intro ao hc ρ φ fr a h w v h' ty g e
  simp only [cOp] at hc
  split at hc
  · rename_i bf l m hf hl hm
    cases hc
    obtain ⟨us, h1, e1⟩ := ro_ok (show opMf bf l m fr h = .ok v h' from e)
    obtain ⟨vs, h2, e2⟩ := ro_ok e1
    obtain ⟨p, h3, e3⟩ := ro_ok e2
    obtain ⟨q, h4, e4⟩ := ro_ok e3
    cases e4
    refine Res.val g.rel (v := .c (.fn bf p q)) (u := .func (.func f) (first.map a.eval) (caps.map a.eval)) ?_ (by simp [opR, execOp, Instr.makeFunc])
    refine ⟨first.toList.map a.eval, caps.toList.map a.eval, ?_, ptrs_ok h3 (cXs_ok g.fr hl h1), ptrs_ok h4 (cXs_ok g.fr hm h2)⟩
    rw [Bid.of_num hf]
    congr 1
    · apply Array.ext'; simp
    · apply Array.ext'; simp
  · cases hc
theorem eq_ofNat {k : IntKind} {n : Nat} {x : Value} (h : VV ρ φ (.c (.i k (Int.ofNat n))) x) : x = .int k n := h
theorem run_asIntOf (k : IntKind) (n : Int) : asIntOf (.int k n) = pure (k, n) := rfl
theorem snd_fa (s : TypeId) (x : Operand) (f : Nat) : Snd P E (.fieldAddr s x f) := by
  intro ao hc ρ φ fr a h w v h' ty g e
  simp only [cOp] at hc
  split at hc
  · rename_i fs ax hu hx
    split at hc
    · rename_i fd hfd
      split at hc
      · rename_i n hn
        split at hc
        · rename_i hpos
          cases hc
          have hne : n ≠ 0 := by omega
          rcases evPd_ok (show opFa fd.offset ax fr h = .ok v h' from e) with ⟨s', y, t, o, h1, e1⟩ | ⟨id, off, h1, e1⟩
          · cases e1
            obtain ⟨b, base, arr, T, fz, row, h3, h4⟩ := cX_ok hx g.fr h1
            refine Res.val g.rel (v := .c (.pd s' y t (o + fd.offset))) (u := .pointer (some ⟨b, base + (o + fd.offset), none⟩)) ⟨b, base, arr, T, fz, row, rfl, h4⟩ ?_
            simp [opR, execOp, Instr.fieldAt, run_underlying hu, hfd, h3, Instr.sureAddr, fieldPlace, run_sizeT hn, hne, Addr.add_lit, Nat.add_assoc]
          cases e1
          obtain ⟨b, base, tot, h2, h3⟩ := cX_ok hx g.fr h1
          refine Res.val g.rel (v := .c (.p id (off + fd.offset))) (u := .pointer (some ⟨b, base + (off + fd.offset), none⟩)) ⟨b, base, tot, h2, rfl⟩ ?_
          simp [opR, execOp, Instr.fieldAt, run_underlying hu, hfd, h3, Instr.sureAddr, fieldPlace, run_sizeT hn, hne, Addr.add_lit, Nat.add_assoc]
        · cases hc
      · cases hc
    · cases hc
  · cases hc
theorem snd_fd (t : TypeId) (x : Operand) (f : Nat) : Snd P E (.field t x f) := by
  intro ao hc ρ φ fr a h w v h' ty g e
  simp only [cOp] at hc
  split at hc
  · rename_i fs ax hu hx
    split at hc
    · rename_i fd hfd
      have one : ∀ {dd : TypeDesc}, P.underlying fd.type = some dd → aggD dd = false → opFd fd.offset ax fr h = .ok v h' → Res ρ φ h w v h' ((opR a.eval (.field t x f) ty).run P w) := by
        intro dd hdd hd e
        obtain ⟨p, h1, e1⟩ := ro_ok e
        obtain ⟨l, h2, e2⟩ := ro_ok e1
        obtain ⟨c, h3, e3⟩ := ro_ok e2
        cases e3
        rw [asA_some h2] at h1
        obtain ⟨vs, hvs, h4⟩ := cX_ok hx g.fr h1
        rw [lget_eq] at h3
        obtain ⟨y, h5, h6⟩ := h4.get h3
        refine Res.val g.rel (v := .c c) h6 ?_
        simp [opR, execOp, Instr.field, run_underlying hu, hfd, hvs, asAgg, run_part_one hdd hd h5]
      have many : ∀ {dd : TypeDesc} {n : Nat}, P.underlying fd.type = some dd → aggD dd = true → sizeT P fd.type = some n → opFdn fd.offset n ax fr h = .ok v h' → Res ρ φ h w v h' ((opR a.eval (.field t x f) ty).run P w) := by
        intro dd n hdd hd hn e
        obtain ⟨p, h1, e1⟩ := ro_ok e
        obtain ⟨l, h2, e2⟩ := ro_ok e1
        obtain ⟨c, h3, e3⟩ := ro_ok e2
        cases e3
        rw [asA_some h2] at h1
        obtain ⟨vs, hvs, h4⟩ := cX_ok hx g.fr h1
        obtain ⟨hc1, hc2, hc3⟩ := lsub_some h3
        refine Res.val g.rel (v := .a c) (u := .agg ((vs.drop fd.offset).take n).toArray) ⟨_, rfl, by rw [hc1]; exact (h4.drop _).take _⟩ ?_
        simp [opR, execOp, Instr.field, run_underlying hu, hfd, hvs, asAgg, run_part_agg hdd hd hn]
      split at hc
      · rename_i fs' n hdd hn; cases hc; exact many hdd rfl hn e
      · rename_i len' el' n hdd hn; cases hc; exact many hdd rfl hn e
      · rename_i dd n hne1 hne2 hdd hn
        cases hc
        refine one hdd ?_ e
        cases dd <;> first | rfl | exact (hne1 _ rfl).elim | exact (hne2 _ _ rfl).elim
      · cases hc
    · cases hc
  · cases hc
theorem snd_ex (x : Operand) (i : Nat) : Snd P E (.extract x i) := by
  intro ao hc ρ φ fr a h w v h' ty g e
  obtain ⟨ax, hx, rfl⟩ := map_some (show (cX x).map (fun x => AO.ex x i) = some ao from hc)
  obtain ⟨p, h1, e1⟩ := ro_ok (show opEx ax i fr h = .ok v h' from e)
  obtain ⟨l, h2, e2⟩ := ro_ok e1
  obtain ⟨c, h3, e3⟩ := ro_ok e2
  cases e3
  rw [asT_some h2] at h1
  obtain ⟨vs, hvs, h4⟩ := cX_ok hx g.fr h1
  rw [lget_eq] at h3
  obtain ⟨y, h5, h6⟩ := h4.get h3
  exact Res.val g.rel h6.av (by simp [opR, execOp, Instr.extract, hvs, h5])
theorem snd_ia (t : TypeId) (x i : Operand) : Snd P E (.indexAddr t x i) := by
  intro ao hc ρ φ fr a h w v h' ty g e
  simp only [cOp] at hc
  split at hc
  · rename_i n el ax ai hu hx hi
    obtain ⟨s, hs, rfl⟩ := map_some hc
    rcases evPd_ok (show opIaa n s ax ai fr h = .ok v h' from e) with ⟨s', y, t', o, h1, e1⟩ | ⟨id, off, h1, e1⟩
    · obtain ⟨j, h2, e2⟩ := ro_ok e1
      obtain ⟨hb, e3⟩ := br_ok e2
      cases e3
      obtain ⟨k, h3⟩ := evN_some h2
      have hj := eq_ofNat (cX_ok hi g.fr h3)
      obtain ⟨b, base, arr, T, fz, row, h4, h5⟩ := cX_ok hx g.fr h1
      have hlt : j < n := Nat.le_of_ble_eq_true hb
      refine Res.val g.rel (v := .c (.pd s' y t' (o + j * s))) (u := .pointer (some ⟨b, base + (o + j * s), none⟩)) ⟨b, base, arr, T, fz, row, rfl, h5⟩ ?_
      simp [opR, execOp, Instr.indexAt, hj, run_asIntOf, run_underlying hu, h4, Instr.sureAddr, hlt, run_sizeT hs, Addr.add_lit, Nat.add_assoc]
    obtain ⟨j, h2, e2⟩ := ro_ok e1
    obtain ⟨hb, e3⟩ := br_ok e2
    cases e3
    obtain ⟨k, h3⟩ := evN_some h2
    have hj := eq_ofNat (cX_ok hi g.fr h3)
    obtain ⟨b, base, tot, h4, h5⟩ := cX_ok hx g.fr h1
    have hlt : j < n := Nat.le_of_ble_eq_true hb
    refine Res.val g.rel (v := .c (.p id (off + j * s))) (u := .pointer (some ⟨b, base + (off + j * s), none⟩)) ⟨b, base, tot, h4, rfl⟩ ?_
    simp [opR, execOp, Instr.indexAt, hj, run_asIntOf, run_underlying hu, h5, Instr.sureAddr, hlt, run_sizeT hs, Addr.add_lit, Nat.add_assoc]
  · rename_i el ax ai hu hx hi
    obtain ⟨s, hs, rfl⟩ := map_some hc
    obtain ⟨c, h1, e0⟩ := evC_ok (show opIas E s ax ai fr h = .ok v h' from e)
    rcases onD_ok e0 with ⟨s', y, hcd, e1⟩ | ⟨-, e1⟩
    · obtain ⟨hb, e2⟩ := br_ok e1
      obtain ⟨c', h2, e3⟩ := evC_ok e2
      obtain ⟨t', h3, e4⟩ := ro_ok e3
      cases e4
      have hsz := Nat.eq_of_beq_eq_true hb
      have hv : SlD φ.z s' (ρ.d y) (a.eval x) := VC.sld hcd (cX_ok hx g.fr h1)
      obtain ⟨k, j, hj, hlt, hti⟩ := g.env.dix _ _ _ h3 φ _ (cX_ok hi g.fr h2)
      obtain ⟨p, cap, hp, _, hr⟩ := hv
      rcases hr with hr | ⟨b, off, arr, T, fz, rfl, hz, hrow⟩
      · rw [hr] at hlt; cases hlt
      have hget : (ρ.d y)[j]? = some (ρ.d y)[j] := List.getElem?_eq_getElem hlt
      refine Res.val g.rel (v := .c (.pd s' y t' 0)) (u := .pointer (some ⟨b, off + j * s, none⟩)) ⟨b, off + j * s, arr, T, fz, _, rfl, hz, by rw [hti]; exact hget, by rw [← hsz]; exact hrow j _ hget⟩ ?_
      simp [opR, execOp, Instr.indexAt, hj, run_asIntOf, run_underlying hu, hp, hlt, run_sizeT hs, Addr.add_lit, Nat.add_assoc]
    obtain ⟨j, h2, e2⟩ := ro_ok e1
    obtain ⟨k, h3⟩ := evN_some h2
    have hj := eq_ofNat (cX_ok hi g.fr h3)
    have hv : VC ρ φ c (a.eval x) := cX_ok hx g.fr h1
    split at e2
    · rename_i id off len cap
      obtain ⟨hb, e3⟩ := br_ok e2
      cases e3
      obtain ⟨b, base, tot, h4, h5⟩ := hv
      have hlt : j < len := Nat.le_of_ble_eq_true hb
      refine Res.val g.rel (v := .c (.p id (off + j * s))) (u := .pointer (some ⟨b, base + (off + j * s), none⟩)) ⟨b, base, tot, h4, rfl⟩ ?_
      simp [opR, execOp, Instr.indexAt, hj, run_asIntOf, run_underlying hu, h5, hlt, run_sizeT hs, Addr.add_lit, Nat.add_assoc]
    · rename_i id off len lb es
      obtain ⟨hb, e3⟩ := br_ok e2
      cases e3
      obtain ⟨b, base, tot, cap, h4, h5, _⟩ := hv
      have hlt : j < len := Nat.le_of_ble_eq_true hb
      refine Res.val g.rel (v := .c (.p id (off + j * s))) (u := .pointer (some ⟨b, base + (off + j * s), none⟩)) ⟨b, base, tot, h4, rfl⟩ ?_
      simp [opR, execOp, Instr.indexAt, hj, run_asIntOf, run_underlying hu, h5, hlt, run_sizeT hs, Addr.add_lit, Nat.add_assoc]
    · cases e2
  · cases hc
theorem snd_ix (t : TypeId) (x i : Operand) : Snd P E (.index t x i) := by
  intro ao hc ρ φ fr a h w v h' ty g e
  simp only [cOp] at hc
  split at hc
  · rename_i n el ax ai hu hx hi
    have go : ∀ {dd : TypeDesc} {s : Nat} {agg : Bool}, P.underlying el = some dd → aggD dd = agg → sizeT P el = some s → opIxa n s agg ax ai fr h = .ok v h' → Res ρ φ h w v h' ((opR a.eval (.index t x i) ty).run P w) := by
      intro dd s agg hdd hd hs e
      obtain ⟨p, h1, e1⟩ := ro_ok e
      obtain ⟨l, h2, e2⟩ := ro_ok e1
      obtain ⟨j, h3, e3⟩ := ro_ok e2
      obtain ⟨hb, e4⟩ := br_ok e3
      obtain ⟨k, h5⟩ := evN_some h3
      have hj := eq_ofNat (cX_ok hi g.fr h5)
      have hlt : j < n := Nat.le_of_ble_eq_true hb
      rw [asA_some h2] at h1
      obtain ⟨vs, hvs, h4⟩ := cX_ok hx g.fr h1
      cases agg with
      | false =>
        obtain ⟨c, h6, e5⟩ := ro_ok e4
        cases e5
        rw [lget_eq] at h6
        obtain ⟨y, h7, h8⟩ := h4.get h6
        refine Res.val g.rel (v := .c c) h8 ?_
        simp [opR, execOp, Instr.index, hj, run_asIntOf, run_underlying hu, hvs, hlt, run_sizeT hs, run_part_one hdd hd h7]
      | true =>
        obtain ⟨c, h6, e5⟩ := ro_ok e4
        cases e5
        obtain ⟨hc1, hc2, hc3⟩ := lsub_some h6
        refine Res.val g.rel (v := .a c) (u := .agg ((vs.drop (j * s)).take s).toArray) ⟨_, rfl, by rw [hc1]; exact (h4.drop _).take _⟩ ?_
        simp [opR, execOp, Instr.index, hj, run_asIntOf, run_underlying hu, hvs, hlt, run_sizeT hs, run_part_agg hdd hd hs]
    split at hc
    · rename_i fs' s hdd hs; cases hc; exact go hdd rfl hs e
    · rename_i len' el' s hdd hs; cases hc; exact go hdd rfl hs e
    · rename_i dd s hne1 hne2 hdd hs
      cases hc
      refine go (agg := false) hdd ?_ hs e
      cases dd <;> first | rfl | exact (hne1 _ rfl).elim | exact (hne2 _ _ rfl).elim
    · cases hc
  · cases hc
    exact gen_ok (fun f hf => by simp only [opR, execOp]; rw [hf x (by simp [Op.operands]), hf i (by simp [Op.operands])]) g e
  · cases hc
end
end Go.Proofs.YtjnfgapfhpihmaaGreat
