/-
  A verified evaluator: more operations that touch no memory. No function of the program is named here.
-/
import Derived.Test.YtmbbciidknchiaaGreatEnE
namespace Go.Proofs.YtmbbciidknchiaaGreat
section gen
variable {P : Program} {E : Env} {ρ : Vn} {φ : Emb} {fr : Fr} {a : Act} {h h' : Hp} {w : World} {v : AV} {ty : TypeId}
theorem pureRun_run {α : Type} {x : α} : ∀ {s : Sem α}, pureRun P s = some x → ∀ w, s.run P w = .ok x w
  | .pure b, e, w => by cases e; rfl
  | .program k, e, w => pureRun_run (s := k P) e w
  | .load .., e, _ => by cases e
  | .store .., e, _ => by cases e
  | .new .., e, _ => by cases e
  | .shape .., e, _ => by cases e
  | .freeze .., e, _ => by cases e
  | .frozen .., e, _ => by cases e
  | .getObj .., e, _ => by cases e
  | .setObj .., e, _ => by cases e
  | .choose .., e, _ => by cases e
  | .sys .., e, _ => by cases e
  | .mark .., e, _ => by cases e
  | .halt .., e, _ => by cases e
theorem ofNat_toNat8 (l : List UInt8) : (l.map UInt8.toNat).map UInt8.ofNat = l := by
  rw [List.map_map]
  conv => rhs; rw [← List.map_id l]
  exact List.map_congr_left fun b _ => by simp
theorem AC.val_eq {c : AC} {u x : Value} (e : c.val = some u) (hx : VC ρ φ c x) : x = u := by
  cases c <;> first | (cases e; exact hx) | (cases e; done) | skip
  obtain ⟨y, rfl, rfl⟩ := hx
  cases e
  rw [ofNat_toNat8]
theorem vals_eq : ∀ {l : List AC} {us xs : List Value}, vals l = some us → All2 (VC ρ φ) l xs → xs = us
  | [], us, xs, e, hx => by cases e; cases hx; rfl
  | c :: l, us, xs, e, hx => by
    cases hx with
    | cons h1 h2 =>
      simp only [vals] at e
      cases hv : c.val with
      | none => rw [hv] at e; cases e
      | some u =>
        rw [hv] at e
        dsimp only at e
        cases hl : vals l with
        | none => rw [hl] at e; cases e
        | some m => rw [hl] at e; cases e; rw [AC.val_eq hv h1, vals_eq hl h2]
theorem AV.val_eq {c : AV} {u x : Value} (e : c.val = some u) (hx : VV ρ φ c x) : x = u := by
  cases c with
  | c c => exact AC.val_eq e hx
  | a l =>
    obtain ⟨vs, rfl, h2⟩ := hx
    simp only [AV.val] at e
    cases hl : vals l with
    | none => rw [hl] at e; cases e
    | some m => rw [hl] at e; cases e; rw [vals_eq hl h2]
  | t l =>
    cases l with
    | nil => cases e; obtain ⟨vs, rfl, h2⟩ := hx; cases h2; rfl
    | cons => cases e
theorem opd_eq {x : Operand} (hf : FR ρ φ fr a.tmps) (e : opdOk fr x = true) : a.eval x = opdVal fr x := by
  cases x with
  | tmp t =>
    simp only [opdOk] at e
    simp only [opdVal]
    cases ht : tmpOf t with
    | none => rw [ht] at e; cases e
    | some p =>
      rw [ht] at e
      dsimp only at e ⊢
      cases hg : getF p.1 p.2 fr with
      | none => rw [hg] at e; cases e
      | some v =>
        rw [hg] at e
        dsimp only at e ⊢
        cases hv : v.val with
        | none => rw [hv] at e; cases e
        | some u =>
          have := (hf p.1 p.2 v hg).2
          rw [tmpOf_tn (i := p.1) (j := p.2) ht] at this
          exact AV.val_eq hv this
  | const u => rfl
  | global g => rfl
  | func f => rfl
theorem opd_ok {ρ : Vn} {φ : Emb} {fr : Fr} {a : Act} (hf : FR ρ φ fr a.tmps) (x : Operand) (b : AV) (h : opdAV fr x = some b) : VV ρ φ b (a.eval x) := by
  cases x with
  | tmp t =>
    simp only [opdAV] at h
    cases ht : tmpOf t with
    | none => rw [ht] at h; cases h
    | some p =>
      rw [ht] at h
      have := (hf p.1 p.2 b h).2
      rw [tmpOf_tn (i := p.1) (j := p.2) ht] at this
      exact this
  | const u => exact AV.of_ok h
  | global g => cases h
  | func f => cases h
theorem opds_ok {ρ : Vn} {φ : Emb} {fr : Fr} {a : Act} (hf : FR ρ φ fr a.tmps) : ∀ l : List Operand, All2 (fun (o : Option AV) x => ∀ b, o = some b → VV ρ φ b (a.eval x)) (l.map (opdAV fr)) l
  | [] => .nil
  | x :: l => .cons (fun b h => opd_ok hf x b h) (opds_ok hf l)
/-- an operation of the general kind: what it does depends on the values of its operands alone -/
theorem gen_ok {op op' : Op} (hop : ∀ f : Operand → Value, (∀ x ∈ op.operands.toList, a.eval x = f x) → opR a.eval op' ty = execOp f ⟨none, op, 0, "", #[], none⟩) (g : Gv E ρ φ fr a h w) (e : opGen P E op fr h = .ok v h') :
    Res ρ φ h w v h' ((opR a.eval op' ty).run P w) := by
  obtain ⟨r, h1, h2⟩ := ro_ok e
  cases h2
  unfold genAny at h1
  cases hgr : genRun P op fr with
  | none =>
    rw [hgr] at h1
    obtain ⟨u, h3, h4⟩ := g.env.gen op _ _ h1 P φ a.eval 0 w (opds_ok g.fr _)
    rw [hop a.eval fun x _ => rfl]
    exact Res.val g.rel h4 h3
  | some r' =>
  rw [hgr] at h1
  cases h1
  replace h1 := hgr
  unfold genRun at h1
  cases hb : op.operands.toList.all (opdOk fr) with
  | false => rw [hb] at h1; cases h1
  | true =>
    rw [hb] at h1
    simp only [cond_true] at h1
    rw [hop (opdVal fr) fun x hx => opd_eq g.fr (List.all_eq_true.1 hb x hx)]
    cases hp : pureRun P (execOp (opdVal fr) ⟨none, op, 0, "", #[], none⟩) with
    | none => rw [hp] at h1; cases h1
    | some nx =>
      rw [hp] at h1
      cases nx with
      | value u => exact Res.val g.rel (AV.of_ok h1) (pureRun_run hp w)
      | _ => cases h1
theorem gen_bin {op : BinOp} {t : TypeId} {x y : Operand} (u : TypeId) (g : Gv E ρ φ fr a h w) (e : opGen P E (.binOp op t x y 0) fr h = .ok v h') : Res ρ φ h w v h' ((opR a.eval (.binOp op t x y u) ty).run P w) :=
  gen_ok (fun f hf => by simp only [opR, execOp]; rw [hf x (by simp [Op.operands]), hf y (by simp [Op.operands])]) g e
theorem byte_inj {l m : List UInt8} (e : l.map UInt8.toNat = m.map UInt8.toNat) : l = m := by
  have := congrArg (List.map UInt8.ofNat) e
  rwa [ofNat_toNat8, ofNat_toNat8] at this
theorem str_eq (x y : ByteArray) : (x.toList == y.toList) = decide (x.data.toList.map UInt8.toNat = y.data.toList.map UInt8.toNat) := by
  rw [ByteArray.toList_eq, ByteArray.toList_eq, Bool.eq_iff_iff, beq_iff_eq, decide_eq_true_eq]
  exact ⟨fun e => by rw [e], fun e => byte_inj e⟩
theorem run_strEq (t : TypeId) (p q : Operand) (x y : ByteArray) (neg : Bool) : (do eqGuard (bif neg then .neq else .eql) t p q (.string x) (.string y); binOp (bif neg then .neq else .eql) t (.string x) (.string y) : Sem Value).run P w = .ok (.bool (xor neg (x.toList == y.toList))) w := by
  cases neg <;> simp [eqGuard, binOp, Op.stringOp]
theorem strOp_run {neg : Bool} {c d : AC} {b : Bool} {x y : Value} (he : EnvOk E ρ) (e : strOp E neg c d = some b) (hc : VC ρ φ c x) (hd : VC ρ φ d y) (t : TypeId) (p q : Operand) :
    (do eqGuard (bif neg then .neq else .eql) t p q x y; binOp (bif neg then .neq else .eql) t x y : Sem Value).run P w = .ok (.bool b) w := by
  unfold strOp at e
  split at e
  · obtain ⟨x, rfl, rfl⟩ := hc
    obtain ⟨y, rfl, rfl⟩ := hd
    cases e
    rw [run_strEq, str_eq]
  · exact he.cmp _ _ _ _ e φ _ _ hc hd P t p q w
theorem snd_eqs {neg : Bool} {op : BinOp} (hop : op = bif neg then .neq else .eql) {t : TypeId} {x y : Operand} {ax ay : AX} (hx : cX x = some ax) (hy : cX y = some ay) (u : TypeId) (g : Gv E ρ φ fr a h w) (e : opEqs E neg ax ay fr h = .ok v h') : Res ρ φ h w v h' ((opR a.eval (.binOp op t x y u) ty).run P w) := by
  obtain ⟨c, h1, e1⟩ := evC_ok e
  obtain ⟨d, h2, e2⟩ := evC_ok e1
  obtain ⟨b, h3, e3⟩ := ro_ok e2
  cases e3
  have hc : VC ρ φ c (a.eval x) := cX_ok hx g.fr h1
  have hd : VC ρ φ d (a.eval y) := cX_ok hy g.fr h2
  refine Res.val g.rel (v := .c (.b b)) (u := .bool b) rfl ?_
  simp only [opR, execOp, hop]
  rw [Sem.run_bind, strOp_run g.env h3 hc hd]
  rfl
end gen
section eqa
variable {P : Program} {E : Env} {ρ : Vn} {φ : Emb} {w : World}
/-- is it a struct or an array? -/
def aggD : TypeDesc → Bool
  | .struct _ => true
  | .array _ _ => true
  | _ => false
theorem run_sizeT {t : TypeId} {s : Nat} (e : sizeT P t = some s) (w : World) : (sizeOf t).run P w = .ok s w := by
  unfold sizeT at e
  cases hi : P.info? t with
  | none => rw [hi] at e; cases e
  | some i => rw [hi] at e; cases e; simp [sizeOf, typeInfo, hi]
theorem run_part_one {t : TypeId} {d : TypeDesc} (hu : P.underlying t = some d) (hd : aggD d = false) {vs : List Value} {off : Nat} {x : Value} (hx : vs[off]? = some x) (w : World) : (part t vs.toArray off).run P w = .ok x w := by
  have : (isAgg t).run P w = .ok false w := by
    simp only [isAgg, Sem.run_bind, run_underlying hu, Result.andThen_ok]
    cases d <;> first | rfl | cases hd
  simp [part, this, hx]
theorem run_part_agg {t : TypeId} {d : TypeDesc} (hu : P.underlying t = some d) (hd : aggD d = true) {s : Nat} (hs : sizeT P t = some s) (vs : List Value) (off : Nat) (w : World) : (part t vs.toArray off).run P w = .ok (.agg ((vs.drop off).take s).toArray) w := by
  have : (isAgg t).run P w = .ok true w := by
    simp only [isAgg, Sem.run_bind, run_underlying hu, Result.andThen_ok]
    cases d <;> first | rfl | cases hd
  simp [part, this, run_sizeT hs, List.extract_eq_take_drop, Nat.add_sub_cancel_left]
theorem eqKs_append : ∀ {k1 k2 : List CK} {l m : List AC} {b : Bool}, eqKs E (k1 ++ k2) l m = some b → ∃ b1 b2, eqKs E k1 (l.take k1.length) (m.take k1.length) = some b1 ∧ eqKs E k2 (l.drop k1.length) (m.drop k1.length) = some b2 ∧ b = (b1 && b2)
  | [], k2, l, m, b, e => ⟨true, b, by simp [eqKs], by simpa using e, by simp⟩
  | k :: k1, k2, [], m, b, e => by cases e
  | k :: k1, k2, x :: l, [], b, e => by cases e
  | k :: k1, k2, x :: l, y :: m, b, e => by
    simp only [List.cons_append, eqKs] at e
    cases h1 : eqCell E k x y with
    | none => rw [h1] at e; cases e
    | some c =>
      cases h2 : eqKs E (k1 ++ k2) l m with
      | none => rw [h1, h2] at e; cases e
      | some d =>
        rw [h1, h2] at e
        cases e
        obtain ⟨b1, b2, h3, h4, rfl⟩ := eqKs_append h2
        exact ⟨c && b1, b2, by simp [eqKs, h1, h3], by simpa using h4, by simp [Bool.and_assoc]⟩
theorem eqKs_length : ∀ {ks : List CK} {l m : List AC} {b : Bool}, eqKs E ks l m = some b → l.length = ks.length ∧ m.length = ks.length
  | [], [], [], b, e => ⟨rfl, rfl⟩
  | [], x :: l, m, b, e => by cases e
  | [], [], y :: m, b, e => by cases e
  | k :: ks, [], m, b, e => by cases e
  | k :: ks, x :: l, [], b, e => by cases e
  | k :: ks, x :: l, y :: m, b, e => by
    simp only [eqKs] at e
    cases h1 : eqCell E k x y with
    | none => rw [h1] at e; cases e
    | some c =>
      cases h2 : eqKs E ks l m with
      | none => rw [h1, h2] at e; cases e
      | some d => have := eqKs_length h2; simp [this.1, this.2]
/-- the type of a cell of this kind -/
def CkT (P : Program) (t : TypeId) : CK → Prop
  | .b => P.underlying t = some .bool
  | .i => ∃ q, P.underlying t = some (.int q)
  | .s => P.underlying t = some .string
/-- one cell -/
theorem eqCell_run (he : EnvOk E ρ) {k : CK} {c d : AC} {b : Bool} {x y : Value} (e : eqCell E k c d = some b) (hc : VC ρ φ c x) (hd : VC ρ φ d y) {t : TypeId} (hk : CkT P t k) (D : Nat) :
    (Op.equalIn (D + 1) t x y).run P w = .ok b w := by
  cases k with
  | i =>
    obtain ⟨q, hq⟩ := hk
    cases c <;> first | (cases e; done) | skip
    cases d <;> first | (cases e; done) | skip
    rename_i k1 n1 k2 n2
    simp only [eqCell] at e
    cases hb : eqK k1 k2 with
    | false => rw [hb] at e; cases e
    | true =>
      rw [hb] at e
      cases e
      have : k1 = k2 := of_decide_eq_true hb
      subst this
      rw [show x = .int k1 n1 from hc, show y = .int k1 n2 from hd, run_equalIn_int w D t k1 q n1 n2 hq]
      rfl
  | b =>
    cases c <;> first | (cases e; done) | skip
    cases d <;> first | (cases e; done) | skip
    cases e
    rw [show x = _ from hc, show y = _ from hd, run_equalIn_bool' w D t _ _ hk]
    rename_i p q
    cases p <;> cases q <;> rfl
  | s =>
    have e0 : bo (isStr c && isStr d) (strOp E false c d) = some b := by
      cases c <;> cases d <;> exact e
    obtain ⟨hst, e'⟩ := bo_some e0
    rw [Bool.and_eq_true] at hst
    have hs : ∀ {c : AC} {x : Value}, isStr c = true → VC ρ φ c x → ∃ y, x = .string y := by
      intro c x h1 h2
      cases c <;> first | (cases h1; done) | skip
      · obtain ⟨y, hy, _⟩ := h2; exact ⟨y, hy⟩
      · exact ⟨_, h2⟩
    have hrun := strOp_run (P := P) (w := w) he e' hc hd t (.const (.bool true)) (.const (.bool true))
    simp only [cond_false] at hrun
    obtain ⟨p, rfl⟩ := hs hst.1 hc
    obtain ⟨q, rfl⟩ := hs hst.2 hd
    have h3 := run_strEq (P := P) (w := w) t (.const (.bool true)) (.const (.bool true)) p q false
    simp only [cond_false] at h3
    rw [hrun] at h3
    rw [run_equalIn_string w D t p q hk]
    simp at h3
    rw [h3]
end eqa
end Go.Proofs.YtmbbciidknchiaaGreat
