/-
  A verified evaluator: the operations that touch no memory are evaluated as the model runs them. No function of the program is named here.
-/
import Derived.Test.YtmbbciidknchiaaGreatEnD
import Derived.Laws.Entries
import Derived.Laws.StructEq
import Derived.Lib.SliceRun
import Derived.IntWalk
namespace Go.Proofs.YtmbbciidknchiaaGreat
/-- the model's run of an operation -/
def opR (f : Operand → Value) (op : Op) (ty : TypeId) : Sem Next := execOp f ⟨none, op, ty, "", #[], none⟩
theorem execOp_eq (f : Operand → Value) (o : Oper) : execOp f o = opR f o.op o.type := by cases o; rfl
def nxv : Next → Option Value
  | .value v => some v
  | .skip => some undef
  | _ => none
/-- What is known of named numbers and strings is right. -/
structure EnvOk (E : Env) (ρ : Vn) : Prop where
  cmp : ∀ op u v b, E.cmp op u v = some b → ∀ φ x y, VC ρ φ u x → VC ρ φ v y → ∀ P t p q w, (do eqGuard op t p q x y; binOp op t x y : Sem Value).run P w = .ok (.bool b) w
  len : ∀ y c, E.len y = some c → ∀ φ, VC ρ φ c (.int .i64 (ρ.s y).size)
  cv : ∀ k q y c, E.cv k q y = some c → ∀ φ, VC ρ φ c (.int k (k.wrap (ρ.i y)))
  gen : ∀ o l v, E.gen o l = some v → ∀ P φ (f : Operand → Value) ty w, All2 (fun (a : Option AV) x => ∀ b, a = some b → VV ρ φ b (f x)) l o.operands.toList → ∃ u, (opR f o ty).run P w = .ok (.value u) w ∧ VV ρ φ v u
def Res (ρ : Vn) (φ : Emb) (h : Hp) (w : World) (v : AV) (h' : Hp) (r : Result Next) : Prop :=
  ∃ nx u w' φ', r = .ok nx w' ∧ nxv nx = some u ∧ VV ρ φ' v u ∧ Stp ρ φ h w φ' h' w'
section inv
variable {α : Type} {o : Option α} {v : AV} {h h' : Hp} {fr : Fr} {x y : AX}
theorem ro_ok {f : α → RO} (e : ro o f = .ok v h) : ∃ a, o = some a ∧ f a = .ok v h := by
  cases o with
  | none => cases e
  | some a => exact ⟨a, rfl, e⟩
theorem br_ok {c : Bool} {r : RO} (e : br c r = .ok v h) : c = true ∧ r = .ok v h := by
  cases c with
  | false => cases e
  | true => exact ⟨rfl, e⟩
theorem asC_some {u : AV} {c : AC} (e : asC u = some c) : u = .c c := by cases u <;> cases e; rfl
theorem asA_some {u : AV} {c : List AC} (e : asA u = some c) : u = .a c := by cases u <;> cases e; rfl
theorem asT_some {u : AV} {c : List TV} (e : asT u = some c) : u = .t c := by cases u <;> cases e; rfl
theorem evC_ok {f : AC → RO} (e : evC x fr f = .ok v h) : ∃ c, ev x fr = some (.c c) ∧ f c = .ok v h := by
  obtain ⟨u, h1, h2⟩ := ro_ok e
  obtain ⟨c, h3, h4⟩ := ro_ok h2
  rw [asC_some h3] at h1
  exact ⟨c, h1, h4⟩
theorem evP_ok {f : Bid → Nat → RO} (e : evP x fr f = .ok v h) : ∃ id off, ev x fr = some (.c (.p id off)) ∧ f id off = .ok v h := by
  obtain ⟨c, h1, h2⟩ := evC_ok e
  cases c <;> first | cases h2 | exact ⟨_, _, h1, h2⟩
theorem onB_ok {c : AC} {f : Bool → RO} (e : onB c f = .ok v h) : ∃ b, c = .b b ∧ f b = .ok v h := by
  cases c <;> first | cases e | exact ⟨_, rfl, e⟩
theorem natOf_some {c : AC} {n : Nat} (e : natOf c = some n) : ∃ k, c = .i k (Int.ofNat n) := by
  unfold natOf at e
  split at e
  · cases e; exact ⟨_, rfl⟩
  · cases e
theorem evN_some {n : Nat} (e : evN x fr = some n) : ∃ k, ev x fr = some (.c (.i k (Int.ofNat n))) := by
  obtain ⟨u, h1, h2⟩ := ob_some e
  obtain ⟨c, h3, h4⟩ := ob_some h2
  obtain ⟨k, rfl⟩ := natOf_some h4
  rw [asC_some h3] at h1
  exact ⟨k, h1⟩
theorem new_ok {b : AB} {k : Bid → AV} (e : new h b k = .ok v h') : ∃ n, h.next.inc = some n ∧ v = k h.next ∧ h' = h.more n b := by
  cases h with | mk i bl =>
  obtain ⟨n, h1, h2⟩ := ro_ok (show ro i.inc _ = RO.ok v h' from e)
  cases h2
  exact ⟨n, h1, rfl, rfl⟩
end inv
section opd
variable {ρ : Vn} {φ : Emb}
theorem AC.of_ok {u : Value} {c : AC} (e : AC.of u = some c) : VC ρ φ c u := by
  unfold AC.of at e
  split at e <;> first | (cases e; rfl) | (cases e; exact ⟨_, rfl, rfl⟩) | skip
  · rename_i f x y
    cases hb : (Nat.beq x.size 0 && Nat.beq y.size 0) with
    | false => rw [hb] at e; cases e
    | true =>
      rw [hb] at e
      simp only [cond_true] at e
      rw [Bool.and_eq_true] at hb
      have hx : x = #[] := Array.eq_empty_of_size_eq_zero (Nat.eq_of_beq_eq_true hb.1)
      have hy : y = #[] := Array.eq_empty_of_size_eq_zero (Nat.eq_of_beq_eq_true hb.2)
      subst hx; subst hy
      cases hf : Bid.of f with
      | none => rw [hf] at e; cases e
      | some g => rw [hf] at e; cases e; exact ⟨[], [], by rw [Bid.of_num hf], .nil, .nil⟩
  · cases e
theorem acsOf_ok : ∀ {us : List Value} {l : List AC}, acsOf us = some l → All2 (VC ρ φ) l us
  | [], l, e => by cases e; exact .nil
  | u :: us, l, e => by
    simp only [acsOf] at e
    cases h1 : AC.of u with
    | none => rw [h1] at e; cases e
    | some c =>
      rw [h1] at e
      dsimp only at e
      cases h2 : acsOf us with
      | none => rw [h2] at e; cases e
      | some m => rw [h2] at e; cases e; exact .cons (AC.of_ok h1) (acsOf_ok h2)
theorem AV.of_ok {u : Value} {v : AV} (e : AV.of u = some v) : VV ρ φ v u := by
  unfold AV.of at e
  split at e
  · rename_i cs
    cases h1 : acsOf cs.toList with
    | none => rw [h1] at e; cases e
    | some l => rw [h1] at e; cases e; exact ⟨cs.toList, by simp, acsOf_ok h1⟩
  · rename_i vs
    cases hb : Nat.beq vs.size 0 with
    | false => rw [hb] at e; cases e
    | true =>
      rw [hb] at e
      have hx : vs = #[] := Array.eq_empty_of_size_eq_zero (Nat.eq_of_beq_eq_true hb)
      subst hx
      cases e; exact ⟨[], rfl, .nil⟩
  · cases h1 : AC.of u with
    | none => rw [h1] at e; cases e
    | some c => rw [h1] at e; cases e; exact AC.of_ok h1
theorem cX_ok {x : Operand} {ax : AX} {fr : Fr} {a : Act} {v : AV} (hc : cX x = some ax) (hf : FR ρ φ fr a.tmps) (he : ev ax fr = some v) : VV ρ φ v (a.eval x) := by
  cases x with
  | tmp t =>
    simp only [cX] at hc
    cases ht : tmpOf t with
    | none => rw [ht] at hc; cases hc
    | some p =>
      rw [ht] at hc
      cases hc
      have := hf p.1 p.2 v he
      rw [tmpOf_tn (i := p.1) (j := p.2) ht] at this
      exact this.2
  | const u =>
    simp only [cX] at hc
    cases ht : AV.of u with
    | none => rw [ht] at hc; cases hc
    | some b => rw [ht] at hc; cases hc; cases he; exact AV.of_ok ht
  | global g => cases hc
  | func f =>
    simp only [cX] at hc
    cases hb : Bid.of f with
    | none => rw [hb] at hc; cases hc
    | some b => rw [hb] at hc; cases hc; cases he; exact ⟨[], [], by rw [Bid.of_num hb]; rfl, .nil, .nil⟩
theorem cXs_ok {a : Act} {fr : Fr} (hf : FR ρ φ fr a.tmps) : ∀ {xs : List Operand} {axs : List AX} {vs : List AV}, cXs xs = some axs → evs fr axs = some vs → All2 (VV ρ φ) vs (xs.map a.eval)
  | [], axs, vs, hc, he => by cases hc; cases he; exact .nil
  | x :: xs, axs, vs, hc, he => by
    simp only [cXs] at hc
    cases h1 : cX x with
    | none => rw [h1] at hc; cases hc
    | some ax =>
      rw [h1] at hc
      dsimp only at hc
      cases h2 : cXs xs with
      | none => rw [h2] at hc; cases hc
      | some m =>
        rw [h2] at hc
        cases hc
        obtain ⟨v, h3, h4⟩ := ob_some (show ob (ev ax fr) (fun v => ob (evs fr m) fun vs => some (v :: vs)) = some vs from he)
        obtain ⟨us, h5, h6⟩ := ob_some h4
        cases h6
        exact .cons (cX_ok h1 hf h3) (cXs_ok hf h2 h5)
end opd
/-- what is given for an operation -/
structure Gv (E : Env) (ρ : Vn) (φ : Emb) (fr : Fr) (a : Act) (h : Hp) (w : World) : Prop where
  fr : FR ρ φ fr a.tmps
  rel : Rel ρ φ h w
  env : EnvOk E ρ
/-- the operation is evaluated soundly -/
def Snd (P : Program) (E : Env) (op : Op) : Prop :=
  ∀ ao, cOp P op = some ao → ∀ (ρ : Vn) (φ : Emb) (fr : Fr) (a : Act) (h : Hp) (w : World) (v : AV) (h' : Hp) (ty : TypeId), Gv E ρ φ fr a h w → aop P E noCall ao fr h = .ok v h' → Res ρ φ h w v h' ((opR a.eval op ty).run P w)
section snd
variable {P : Program} {E : Env} {ρ : Vn} {φ : Emb} {fr : Fr} {a : Act} {h h' : Hp} {w : World} {v : AV} {ty : TypeId}
theorem Res.val (r : Rel ρ φ h w) {u : Value} (hv : VV ρ φ v u) {s : Result Next} (hs : s = .ok (.value u) w) : Res ρ φ h w v h s := ⟨_, u, w, φ, hs, rfl, hv, Stp.refl r⟩
theorem map_some {α β : Type} {f : α → β} {o : Option α} {b : β} (e : o.map f = some b) : ∃ x, o = some x ∧ b = f x := by
  cases o with
  | none => cases e
  | some x => cases e; exact ⟨x, rfl, rfl⟩
theorem sMv {x : Operand} {ax : AX} (hx : cX x = some ax) (g : Gv E ρ φ fr a h w) (e : opMv ax fr h = .ok v h') : VV ρ φ v (a.eval x) ∧ h' = h := by
  obtain ⟨u, h1, h2⟩ := ro_ok e
  cases h2
  exact ⟨cX_ok hx g.fr h1, rfl⟩
theorem snd_move (x : Operand) : Snd P E (.move x) := by
  intro ao hc ρ φ fr a h w v h' ty g e
  obtain ⟨ax, hx, rfl⟩ := map_some (show (cX x).map AO.mv = some ao from hc)
  obtain ⟨hv, rfl⟩ := sMv hx g (show opMv ax fr h = .ok v h' from e)
  exact Res.val g.rel hv rfl
theorem snd_assign (x : Operand) : Snd P E (.assign x) := by
  intro ao hc ρ φ fr a h w v h' ty g e
  obtain ⟨ax, hx, rfl⟩ := map_some (show (cX x).map AO.mv = some ao from hc)
  obtain ⟨hv, rfl⟩ := sMv hx g (show opMv ax fr h = .ok v h' from e)
  exact Res.val g.rel hv rfl
theorem snd_pick (c x y : Operand) : Snd P E (.pick c x y) := by
  intro ao hc ρ φ fr a h w v h' ty g e
  simp only [cOp] at hc
  split at hc
  · rename_i ac ax ay hc1 hx hy
    cases hc
    obtain ⟨q, h1, h2⟩ := evC_ok (show evC ac fr _ = .ok v h' from e)
    obtain ⟨b, rfl, h3⟩ := onB_ok h2
    have hb : a.eval c = .bool b := cX_ok hc1 g.fr h1
    cases b with
    | true =>
      obtain ⟨hv, rfl⟩ := sMv hx g (show opMv ax fr h = .ok v h' from h3)
      exact Res.val g.rel hv (by simp [opR, execOp, hb, asBool])
    | false =>
      obtain ⟨hv, rfl⟩ := sMv hy g (show opMv ay fr h = .ok v h' from h3)
      exact Res.val g.rel hv (by simp [opR, execOp, hb, asBool])
  · cases hc
theorem asI_ok {c : AC} {e0 : RO} {f : IntKind → Int → RO} (e : asI c e0 f = .ok v h) : (∃ k n, c = .i k n ∧ f k n = .ok v h) ∨ e0 = .ok v h := by
  cases c <;> first | exact .inr e | exact .inl ⟨_, _, rfl, e⟩
theorem wrap_nat {m : Nat} (hm : m < 9223372036854775808) : IntKind.i64.wrap (Int.ofNat m) = Int.ofNat m :=
  IntWalk.i64_in _ (by simp only [Int.ofNat_eq_natCast]; omega)
theorem isI64_eq {k : IntKind} (e : isI64 k = true) : k = .i64 := by cases k <;> first | rfl | cases e
theorem boolOr {c : Bool} {A B : Option AC} {r : AC} (e : Bool.casesOn (motive := fun _ => Option AC) c A B = some r) : (c = true ∧ B = some r) ∨ A = some r := by
  cases c with
  | false => exact .inr e
  | true => exact .inl ⟨rfl, e⟩
theorem band {c d : Bool} (e : Bool.casesOn (motive := fun _ => Bool) c false d = true) : c = true ∧ d = true := by
  cases c with
  | false => cases e
  | true => exact ⟨rfl, e⟩
theorem decEq {p : Prop} [Decidable p] {c : Bool} (h : c = true ↔ p) : decide p = c := by
  cases c with
  | true => exact decide_eq_true (h.1 rfl)
  | false => exact decide_eq_false fun hp => by have := h.2 hp; cases this
theorem intBin_slow {op : BinOp} {k : IntKind} {m n : Int} {r : AC} (e : intBin op k m n = some r) : slow op k m n = some r := by
  have key : ∀ (f : Nat → Nat → Option AC), both m n (slow op k m n) f = some r → (∀ x y, m = .ofNat x → n = .ofNat y → f x y = some r → slow op k m n = some r) → slow op k m n = some r := by
    intro f h1 h2
    cases m with
    | negSucc x => exact h1
    | ofNat x =>
      cases n with
      | negSucc y => exact h1
      | ofNat y => exact h2 x y rfl rfl h1
  cases op with
  | add =>
    refine key _ e fun x y hx hy h => ?_
    subst hx; subst hy
    rcases boolOr h with ⟨hb, h2⟩ | h2
    · obtain ⟨hk, hb1⟩ := band hb
      have hk' := isI64_eq hk
      subst hk'
      cases h2
      have hb' : x + y < 9223372036854775808 := Nat.le_of_ble_eq_true hb1
      simp only [slow]
      rw [show (Int.ofNat x + Int.ofNat y) = Int.ofNat (x + y) from rfl, wrap_nat hb']
      rfl
    · exact h2
  | sub =>
    refine key _ e fun x y hx hy h => ?_
    subst hx; subst hy
    rcases boolOr h with ⟨hb, h2⟩ | h2
    · obtain ⟨hk, hb1⟩ := band hb
      obtain ⟨hs, hb2⟩ := band hb1
      have hk' := isI64_eq hk
      subst hk'
      cases h2
      have hb' : x < 9223372036854775808 := Nat.le_of_ble_eq_true hb2
      have hs' : y ≤ x := Nat.le_of_ble_eq_true hs
      simp only [slow]
      rw [show (Int.ofNat x - Int.ofNat y) = Int.ofNat (x - y) by simp only [Int.ofNat_eq_natCast]; omega, wrap_nat (by omega)]
      rfl
    · exact h2
  | mul =>
    refine key _ e fun x y hx hy h => ?_
    subst hx; subst hy
    rcases boolOr h with ⟨hb, h2⟩ | h2
    · obtain ⟨hk, hb1⟩ := band hb
      have hk' := isI64_eq hk
      subst hk'
      cases h2
      have hb' : x * y < 9223372036854775808 := Nat.le_of_ble_eq_true hb1
      simp only [slow]
      rw [show (Int.ofNat x * Int.ofNat y) = Int.ofNat (x * y) from rfl, wrap_nat hb']
      rfl
    · exact h2
  | eql =>
    refine key _ e fun x y hx hy h => ?_
    subst hx; subst hy; cases h
    exact congrArg (fun b => some (AC.b b)) (decEq (c := Nat.beq x y) (by rw [Nat.beq_eq]; simp only [Int.ofNat_eq_natCast]; omega))
  | lss =>
    refine key _ e fun x y hx hy h => ?_
    subst hx; subst hy; cases h
    exact congrArg (fun b => some (AC.b b)) (decEq (c := Nat.blt x y) (by rw [Nat.blt_eq]; simp only [Int.ofNat_eq_natCast]; omega))
  | leq =>
    refine key _ e fun x y hx hy h => ?_
    subst hx; subst hy; cases h
    exact congrArg (fun b => some (AC.b b)) (decEq (c := Nat.ble x y) (by rw [Nat.ble_eq]; simp only [Int.ofNat_eq_natCast]; omega))
  | gtr =>
    refine key _ e fun x y hx hy h => ?_
    subst hx; subst hy; cases h
    exact congrArg (fun b => some (AC.b b)) (decEq (c := Nat.blt y x) (by rw [Nat.blt_eq]; simp only [Int.ofNat_eq_natCast]; omega))
  | geq =>
    refine key _ e fun x y hx hy h => ?_
    subst hx; subst hy; cases h
    exact congrArg (fun b => some (AC.b b)) (decEq (c := Nat.ble y x) (by rw [Nat.ble_eq]; simp only [Int.ofNat_eq_natCast]; omega))
  | neq =>
    refine key _ e fun x y hx hy h => ?_
    subst hx; subst hy; cases h
    exact congrArg (fun b => some (AC.b (!b))) (decEq (c := Nat.beq x y) (by rw [Nat.beq_eq]; simp only [Int.ofNat_eq_natCast]; omega))
  | _ => cases e
theorem int_beq (m n : Int) : (m == n) = decide (m = n) := rfl
theorem slow_run {op : BinOp} {k : IntKind} {m n : Int} {r : AC} (e : slow op k m n = some r) (t : TypeId) (p q : Operand) : ∃ u, VC ρ φ r u ∧ (do eqGuard op t p q (.int k m) (.int k n); binOp op t (.int k m) (.int k n) : Sem Value).run P w = .ok u w := by
  cases op <;> first | (cases e; done) | (cases e; exact ⟨_, rfl, by simp [eqGuard, binOp, Op.intArith, Op.intCmp, bne, int_beq]⟩)
theorem snd_bin {op : BinOp} {t : TypeId} {x y : Operand} {ax ay : AX} (hx : cX x = some ax) (hy : cX y = some ay) (u : TypeId) (g : Gv E ρ φ fr a h w) (e : opBin E op ax ay fr h = .ok v h') : Res ρ φ h w v h' ((opR a.eval (.binOp op t x y u) ty).run P w) := by
  obtain ⟨c, h1, e1⟩ := evC_ok e
  obtain ⟨d, h2, e2⟩ := evC_ok e1
  have hc : VC ρ φ c (a.eval x) := cX_ok hx g.fr h1
  have hd : VC ρ φ d (a.eval y) := cX_ok hy g.fr h2
  have cmp : opCmp E op c d h = .ok v h' → Res ρ φ h w v h' ((opR a.eval (.binOp op t x y u) ty).run P w) := by
    intro e3
    obtain ⟨b, h3, h4⟩ := ro_ok e3
    cases h4
    have := g.env.cmp op c d b h3 φ _ _ hc hd P t x y w
    refine Res.val g.rel (v := .c (.b b)) (u := .bool b) rfl ?_
    simp only [opR, execOp]
    rw [Sem.run_bind, this]
    rfl
  rcases asI_ok e2 with ⟨k, m, hcm, e3⟩ | e3
  · rcases asI_ok e3 with ⟨k', n, hdn, e4⟩ | e4
    · obtain ⟨hk, e5⟩ := br_ok e4
      have hk' : k = k' := of_decide_eq_true hk
      obtain ⟨r, h3, h4⟩ := ro_ok e5
      cases h4
      obtain ⟨u', hu, hr⟩ := slow_run (ρ := ρ) (φ := φ) (P := P) (w := w) (intBin_slow h3) t x y
      refine Res.val g.rel (v := .c r) hu ?_
      rw [hcm] at hc
      rw [hdn, ← hk'] at hd
      simp only [opR, execOp]
      rw [show a.eval x = .int k m from hc, show a.eval y = .int k n from hd, Sem.run_bind, hr]
      rfl
    · exact cmp e4
  · exact cmp e3
theorem snd_not (u : TypeId) (x : Operand) : Snd P E (.unOp .not u x) := by
  intro ao hc ρ φ fr a h w v h' ty g e
  obtain ⟨ax, hx, rfl⟩ := map_some (show (cX x).map AO.not = some ao from hc)
  obtain ⟨q, h1, h2⟩ := evC_ok (show evC ax fr _ = .ok v h' from e)
  obtain ⟨b, rfl, h3⟩ := onB_ok h2
  cases h3
  have hb : a.eval x = .bool b := cX_ok hx g.fr h1
  exact Res.val g.rel (v := .c (.b (!b))) rfl (by simp [opR, execOp, hb, Op.unary])
end snd
end Go.Proofs.YtmbbciidknchiaaGreat
