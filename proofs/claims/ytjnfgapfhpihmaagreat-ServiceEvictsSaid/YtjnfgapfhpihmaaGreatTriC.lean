/-
  A verified evaluator: a region that keeps its order, with a call by contract in its midst; frozen memory under another hand. No function of the program is named here.
-/
import Derived.Test.YtjnfgapfhpihmaaGreatPce
import Derived.LoopN
import Derived.Scope
set_option linter.unusedVariables false
set_option linter.unusedSimpArgs false
section
namespace Go.Proofs.YtjnfgapfhpihmaaGreat
open Go.RowKit
def Clean : Exit → Prop
  | .normal => True
  | .exit _ => True
  | .ret => True
  | _ => False
theorem noGoto_of {Q : Exit → Act → World → Prop} {e : Exit} {a : Act} {w : World} (hc : Clean e) (h : Q e a w) : Exit.noGoto Q e a w := by
  cases e <;> first | exact h | exact hc.elim
def Tri (P : Program) (N : Nat) (ac : ACd) (Pre : Act → World → Prop) (Post : Exit → Act → World → Prop) : Prop :=
  ∀ c, cCode P N c = some ac → ∀ a w, Pre a w → c.wp P (fun e a w => Clean e ∧ Post e a w) a w
section
variable {P : Program} {N : Nat} {Pre : Act → World → Prop} {Post : Exit → Act → World → Prop}
theorem tri_scope {c : Code} {a : Act} {w : World} (h : c.wp P (fun e a w => Clean e ∧ Post e a w) a w) : (Code.scope c).wp P (fun e a w => Clean e ∧ Post e a w) a w :=
  wp_scope_straight (wp_mono h fun _ _ _ hq => noGoto_of hq.1 hq)
theorem Tri.pre {ac : ACd} {Pre' : Act → World → Prop} (h : Tri P N ac Pre Post) (hp : ∀ a w, Pre' a w → Pre a w) : Tri P N ac Pre' Post := fun c hc a w hq => h c hc a w (hp a w hq)
theorem Tri.post {ac : ACd} {Post' : Exit → Act → World → Prop} (h : Tri P N ac Pre Post) (hp : ∀ e a w, Post e a w → Post' e a w) : Tri P N ac Pre Post' := fun c hc a w hq => wp_mono (h c hc a w hq) fun e a w k => ⟨k.1, hp e a w k.2⟩
theorem Tri.ex {ac : ACd} {J : Type} {I : J → Act → World → Prop} (h : ∀ j, Tri P N ac (I j) Post) : Tri P N ac (fun a w => ∃ j, I j a w) Post := fun c hc a w ⟨j, hj⟩ => h j c hc a w hj
theorem Tri.imp {ac : ACd} {q : Prop} (h : q → Tri P N ac Pre Post) : Tri P N ac (fun a w => q ∧ Pre a w) Post := fun c hc a w hj => h hj.1 c hc a w hj.2
theorem cCode_region {id : Nat} {ops : Array Oper} {draw : Bool} {ac : ACd} (h : cCode P N (.region id ops draw) = some ac) : (∃ l, ac = .reg l) ∨ ∃ l, ac = .dreg l := by
  have h' : cRegion P N ops draw = some ac := h
  unfold cRegion at h'
  cases hl : mapO (cOper P N ops) ops.toList with
  | none => rw [hl] at h'; cases h'
  | some l =>
    rw [hl] at h'
    cases draw with
    | false => cases h'; exact .inl ⟨_, rfl⟩
    | true =>
      simp only [Bool.not_true, Bool.false_eq_true, if_false] at h'
      split at h'
      · cases h'; exact .inr ⟨_, rfl⟩
      · cases h'
theorem cCode_shape {c : Code} {ac : ACd} (h : cCode P N c = some ac) : (∃ b, c = .scope b ∧ cCode P N b = some ac) ∨ (∃ a b x y, c = .seq a b ∧ ac = .seq x y ∧ cCode P N a = some x ∧ cCode P N b = some y) ∨ (∃ id b x, c = .block id b ∧ ac = .block id x ∧ cCode P N b = some x) ∨ (∃ b x, c = .loop b ∧ ac = .loop x ∧ cCode P N b = some x) ∨
    ((∀ x y, ac ≠ .seq x y) ∧ (∀ id x, ac ≠ .block id x) ∧ ∀ x, ac ≠ .loop x) := by
  cases c with
  | scope b => exact .inl ⟨b, rfl, h⟩
  | seq a b =>
    simp only [cCode] at h
    split at h
    · rename_i x y hx hy
      cases h
      exact .inr (.inl ⟨a, b, x, y, rfl, rfl, hx, hy⟩)
    · cases h
  | block id b =>
    obtain ⟨x, hx, rfl⟩ := map_some (show (cCode P N b).map (ACd.block id) = some ac from h)
    exact .inr (.inr (.inl ⟨id, b, x, rfl, rfl, hx⟩))
  | loop b =>
    obtain ⟨x, hx, rfl⟩ := map_some (show (cCode P N b).map ACd.loop = some ac from h)
    exact .inr (.inr (.inr (.inl ⟨b, x, rfl, rfl, hx⟩)))
  | region id ops draw =>
    refine .inr (.inr (.inr (.inr ?_)))
    rcases cCode_region h with ⟨l, rfl⟩ | ⟨l, rfl⟩ <;> exact ⟨(fun _ _ h => nomatch h), (fun _ _ h => nomatch h), (fun _ h => nomatch h)⟩
  | cond o x y =>
    refine .inr (.inr (.inr (.inr ?_)))
    simp only [cCode] at h
    split at h
    · cases h; exact ⟨(fun _ _ h => nomatch h), (fun _ _ h => nomatch h), (fun _ h => nomatch h)⟩
    · cases h
  | skip => cases h; exact .inr (.inr (.inr (.inr ⟨(fun _ _ h => nomatch h), (fun _ _ h => nomatch h), (fun _ h => nomatch h)⟩)))
  | label l => cases h; exact .inr (.inr (.inr (.inr ⟨(fun _ _ h => nomatch h), (fun _ _ h => nomatch h), (fun _ h => nomatch h)⟩)))
  | exit id => cases h; exact .inr (.inr (.inr (.inr ⟨(fun _ _ h => nomatch h), (fun _ _ h => nomatch h), (fun _ h => nomatch h)⟩)))
  | ret => cases h; exact .inr (.inr (.inr (.inr ⟨(fun _ _ h => nomatch h), (fun _ _ h => nomatch h), (fun _ h => nomatch h)⟩)))
  | _ => cases h
theorem strip {ac : ACd} {K : Code → Prop} (hs : ∀ b, K b → K (.scope b)) (hk : ∀ c, cCode P N c = some ac → (∀ b, c ≠ .scope b) → K c) : ∀ c, cCode P N c = some ac → K c := by
  intro c
  induction c with
  | scope b ih => intro h; exact hs b (ih h)
  | _ => intro h; exact hk _ h fun b hb => nomatch hb
theorem Tri.seq {x y : ACd} {Mid : Act → World → Prop} (hx : Tri P N x Pre fun e a w => (e = .normal ∧ Mid a w) ∨ (e ≠ .normal ∧ Post e a w)) (hy : Tri P N y Mid Post) : Tri P N (.seq x y) Pre Post := by
  intro c hc
  refine strip (K := fun c => ∀ a w, Pre a w → c.wp P (fun e a w => Clean e ∧ Post e a w) a w) (fun b hb a w hp => tri_scope (hb a w hp)) ?_ c hc
  intro c hc hne a w hp
  rcases cCode_shape hc with ⟨b, rfl, _⟩ | ⟨c1, c2, x', y', rfl, h1, h2, h3⟩ | ⟨_, _, _, _, h1, _⟩ | ⟨_, _, _, h1, _⟩ | ⟨h1, _⟩
  · exact absurd rfl (hne b)
  · cases h1
    refine wp_seq (wp_mono (hx c1 h2 a w hp) ?_)
    rintro e a1 w1 ⟨hcl, h | h⟩
    · obtain ⟨rfl, hm⟩ := h
      exact hy c2 h3 a1 w1 hm
    · cases e with
      | normal => exact absurd rfl h.1
      | _ => exact ⟨hcl, h.2⟩
  · cases h1
  · cases h1
  · exact absurd rfl (h1 _ _)
theorem Tri.block {id : Nat} {x : ACd} (hx : Tri P N x Pre fun e a w => ((e = .normal ∨ e = .exit id) ∧ Post .normal a w) ∨ (e ≠ .normal ∧ e ≠ .exit id ∧ Post e a w)) : Tri P N (.block id x) Pre Post := by
  intro c hc
  refine strip (K := fun c => ∀ a w, Pre a w → c.wp P (fun e a w => Clean e ∧ Post e a w) a w) (fun b hb a w hp => tri_scope (hb a w hp)) ?_ c hc
  intro c hc hne a w hp
  rcases cCode_shape hc with ⟨b, rfl, _⟩ | ⟨_, _, _, _, _, h1, _⟩ | ⟨id', b, x', rfl, h1, h2⟩ | ⟨_, _, _, h1, _⟩ | ⟨_, h1, _⟩
  · exact absurd rfl (hne b)
  · cases h1
  · cases h1
    refine wp_block (wp_mono (hx b h2 a w hp) ?_)
    rintro e a1 w1 ⟨hcl, h | h⟩
    · rcases h.1 with rfl | rfl
      · exact ⟨trivial, h.2⟩
      · simp only [Exit.inBlock, if_true]
        exact ⟨trivial, h.2⟩
    · cases e with
      | exit i =>
        have hi : i ≠ id := fun hi => h.2.1 (by rw [hi])
        simp only [Exit.inBlock, hi, if_false]
        exact ⟨trivial, h.2.2⟩
      | normal => exact absurd rfl h.1
      | _ => exact ⟨hcl, h.2.2⟩
  · cases h1
  · exact absurd rfl (h1 _ _)
theorem Tri.loop {x : ACd} {J : Type} (μ : J → Nat) (I : J → Act → World → Prop) (hx : ∀ j, Tri P N x (I j) fun e a w => (e = .normal ∧ ∃ k, μ k < μ j ∧ I k a w) ∨ (e ≠ .normal ∧ Post e a w)) : Tri P N (.loop x) (fun a w => ∃ j, I j a w) Post := by
  intro c hc
  refine strip (K := fun c => ∀ a w, (∃ j, I j a w) → c.wp P (fun e a w => Clean e ∧ Post e a w) a w) (fun b hb a w hp => tri_scope (hb a w hp)) ?_ c hc
  intro c hc hne a w hp
  rcases cCode_shape hc with ⟨b, rfl, _⟩ | ⟨_, _, _, _, _, h1, _⟩ | ⟨_, _, _, _, h1, _⟩ | ⟨b, x', rfl, h1, h2⟩ | ⟨_, _, h1⟩
  · exact absurd rfl (hne b)
  · cases h1
  · cases h1
  · cases h1
    obtain ⟨j, hj⟩ := hp
    have go : ∀ n j a w, μ j < n → I j a w → Code.rounds P b (fun e a w => Clean e ∧ Post e a w) n a w := by
      intro n
      induction n with
      | zero => intro j a w h; exact absurd h (Nat.not_lt_zero _)
      | succ n ih =>
        intro j a w hlt hI
        rw [rounds_succ]
        refine wp_mono (hx j b h2 a w hI) ?_
        rintro e a1 w1 ⟨hcl, h | h⟩
        · obtain ⟨rfl, k, hk, hk2⟩ := h
          exact ih k a1 w1 (by omega) hk2
        · cases e with
          | normal => exact absurd rfl h.1
          | _ => exact ⟨hcl, h.2⟩
    exact wp_loop_rounds _ (go (μ j + 1) j a w (Nat.lt_succ_self _) hj)
  · exact absurd rfl (h1 _)
end
def fstA : ACd → ACd
  | .seq x _ => x
  | _ => .bad
def sndA : ACd → ACd
  | .seq _ y => y
  | _ => .bad
def innA : ACd → ACd
  | .block _ b => b
  | .loop b => b
  | _ => .bad
def bodyA : AFn → ACd
  | .code b _ => b
  | _ => .bad
def resA : AFn → List AR
  | .code _ r => r
  | _ => []
structure Out (w0 : World) (φ : Emb) (h : Hp) (w : World) : Prop where
  old : ∀ b, b < w0.heap.size → w.heap[b]? = w0.heap[b]?
  size : w0.heap.size ≤ w.heap.size
  os : w.os = w0.os
  tape : w.tape = w0.tape
  output : w.output = w0.output
  live : ∀ id x, (h.get id).isSome → φ id = some x → w0.heap.size ≤ x.1
theorem Out.step {w0 w w' : World} {ρ : Vn} {φ φ' : Emb} {h h' : Hp} (o : Out w0 φ h w) (s : Stp ρ φ h w φ' h' w') : Out w0 φ' h' w' where
  old := fun b hb => (s.frame b (Nat.lt_of_lt_of_le hb o.size) fun id x hl hx he => by have := o.live id x hl hx; omega).trans (o.old b hb)
  size := Nat.le_trans o.size s.size
  os := s.os.trans o.os
  tape := s.tape.trans o.tape
  output := s.output.trans o.output
  live := fun id x hl hx => by
    rcases Nat.lt_or_ge x.1 w.heap.size with hlt | hge
    · obtain ⟨id0, x0, h1, h2, h3⟩ := s.sub id x hl hx hlt
      have := o.live id0 x0 h1 h2
      omega
    · exact Nat.le_trans o.size hge
theorem Out.below {w0 w : World} {φ : Emb} {h : Hp} (o : Out w0 φ h w) : Below w0.heap.size w0 w := ⟨o.os, o.tape, o.output, o.size, o.old⟩
def At (w0 : World) (N : Nat) (ρ : Vn) (s : Lit) (a : Act) (w : World) : Prop :=
  ∃ φ, FR ρ φ s.frame a.tmps ∧ Rel ρ φ s.hp w ∧ Out w0 φ s.hp w ∧ a.defers = [] ∧ N ≤ a.tmps.size
inductive En where
  | nrm | ex (id : Nat) | ret
def En.exit : En → Exit
  | .nrm => .normal
  | .ex id => .exit id
  | .ret => .ret
noncomputable def endsAt (k : En) (m : List (Bid × Bid)) (nm : Nms) (s : Lit) (r : RC) : Bool := match k, r with
  | .nrm, .nrm fr h => fitsL m nm s fr h
  | .ret, .ret fr h => fitsL m nm s fr h
  | .ex i, .ex j fr h => Nat.beq i j && fitsL m nm s fr h
  | _, _ => false
theorem endsAt_ok {k : En} {m : List (Bid × Bid)} {nm : Nms} {s : Lit} {r : RC} (h : endsAt k m nm s r = true) : ∃ fr hp, fitsL m nm s fr hp = true ∧ r ≠ .no ∧ ∀ ρ φ h0 w a e a' w', CPost ρ φ h0 w a r e a' w' → e = k.exit ∧ Fin ρ φ h0 w a fr hp a' w' := by
  unfold endsAt at h
  split at h
  · rename_i fr hp; exact ⟨fr, hp, h, by simp, fun ρ φ h0 w a e a' w' hc => hc⟩
  · rename_i fr hp; exact ⟨fr, hp, h, by simp, fun ρ φ h0 w a e a' w' hc => hc⟩
  · rename_i i j fr hp
    rw [Bool.and_eq_true] at h
    cases Nat.eq_of_beq_eq_true h.1
    exact ⟨fr, hp, h.2, by simp, fun ρ φ h0 w a e a' w' hc => hc⟩
  · cases h
section
variable {P : Program} {E : Env} {T : Tab} {N n : Nat}
theorem Tri.run (hcode : CodeOk P E T n) {ρ ρ' : Vn} (he : EnvOk E ρ) {ac : ACd} {s s' : Lit} {k : En} {m : List (Bid × Bid)} {nm : Nms} (hend : endsAt k m nm s' (aev P E T n ac s.frame s.hp) = true) (hr : Ren ρ ρ' nm) {w0 : World} :
    Tri P N ac (At w0 N ρ s) fun e a w => e = k.exit ∧ At w0 N ρ' s' a w := by
  intro c hc a w hat
  obtain ⟨φ, h1, h2, h3, h4, h5⟩ := hat
  obtain ⟨fr, hp, hfit, hne, hpost⟩ := endsAt_ok hend
  refine wp_mono (hcode N c ac hc s.frame s.hp _ rfl hne ρ φ a w he h1 h2 h5) ?_
  intro e a' w' hcp
  obtain ⟨rfl, φ', q1, q2, q3, q4⟩ := hpost _ _ _ _ _ _ _ _ hcp
  obtain ⟨r1, r2, r3⟩ := fits_ok hfit hr q2.rel q1
  have o := h3.step q2
  refine ⟨by cases k <;> trivial, rfl, renE m φ', r2, r1, ⟨o.old, o.size, o.os, o.tape, o.output, fun id x hi hx => ?_⟩, q3.trans h4, by omega⟩
  obtain ⟨id0, k1, k2⟩ := r3 id x hi hx
  exact o.live id0 x k1 k2
noncomputable def saysTrue (res : List AR) (s : Lit) : Bool := isTrue (retOf res s.frame s.hp)
theorem law_tri {f : FuncId} {fn : Func} {ac : ACd} {res : List AR} (hf : P.funcs[f]? = some fn) (hc : cFn P fn = some (.code ac res)) {args : List AV} {us : List Value} {s0 : Lit} (hs : ∃ fr, frameOf args places Fr.nil = some fr ∧ s0.frame = fr) (h0 : s0.hp = hp0)
    {ρ : Vn} (hargs : All2 (VV ρ (Emb.nil ρ.z)) args us) (w : World) (hz : ∀ b x, ρ.z b = some x → w.heap[b]? = some x)
    (ht : Tri P fn.ntmps ac (At w fn.ntmps ρ s0) fun e a w' => e = .ret ∧ ∃ ρ' s', saysTrue res s' = true ∧ At w fn.ntmps ρ' s' a w') : Calls P f us.toArray w fun e w' => e = .returned (.bool true) ∧ Below w.heap.size w w' := by
  unfold cFn at hc
  cases hb : fn.body with
  | none => rw [hb] at hc; cases hc
  | some c =>
  rw [hb] at hc
  dsimp only at hc
  split at hc
  · rename_i b' r' h1 h2
    cases hc
    obtain ⟨fr, hfr, hsf⟩ := hs
    refine calls_of_wp hf hb ?_
    have hframe : FR ρ (Emb.nil ρ.z) fr (us.toArray ++ Array.replicate (fn.ntmps - us.toArray.size) undef) := by
      refine frame_ok (k := 0) hargs (fun i p hp => by rw [Nat.zero_add]; exact places_tn i p hp) (fun i u hiu => ?_) (fun i j x hx => by rw [getF_nil] at hx; cases hx) hfr
      have hlt := (List.getElem?_eq_some_iff.1 hiu).1
      rw [Nat.zero_add, Array.getElem?_append_left (by simpa using hlt)]
      simpa using hiu
    have hsz : fn.ntmps ≤ (us.toArray ++ Array.replicate (fn.ntmps - us.toArray.size) undef).size := by simp; omega
    refine wp_mono (ht c h1 { tmps := us.toArray ++ Array.replicate (fn.ntmps - us.toArray.size) undef, defers := [] } w ⟨Emb.nil ρ.z, by rw [hsf]; exact hframe, by rw [h0]; exact rel0 ρ w hz, ?_, rfl, hsz⟩) ?_
    · rw [h0]
      exact ⟨fun _ _ => rfl, Nat.le_refl _, rfl, rfl, rfl, fun id x hi => by rw [hp0_get] at hi; cases hi⟩
    · rintro e a' w' ⟨_, rfl, ρ', s', hsay, φ', q1, q2, q3, q4, q5⟩
      obtain ⟨h'', hret⟩ := isTrue_ok hsay
      obtain ⟨rfl, u, q6, q7⟩ := results_ok q1 q2 h2 hret
      exact ⟨q4, u, q6, by rw [show u = .bool true from q7], q3.below⟩
  · cases hc
end
end Go.Proofs.YtjnfgapfhpihmaaGreat
end
section
namespace Go.Proofs.YtjnfgapfhpihmaaGreat
open Go.RowKit
section
variable {P : Program} {E : Env} {ρ : Vn} {N : Nat}
end
section
variable {ρ : Vn} {φ : Emb} {z : Nat → Option Obj}
end
def Lit.put (s : Lit) (d : Option (D16 × D16)) (v : AV) : Lit := match d with
  | none => s
  | some p => { s with fr := (p.1, p.2, v) :: s.fr }
section
variable {P : Program} {E E2 : Env} {N : Nat}
theorem At.fits {w0 w : World} {a : Act} {ρ ρ' : Vn} {φ : Emb} {s : Lit} {m : List (Bid × Bid)} {nm : Nms} {fr : Fr} {hp : Hp} (hfit : fitsL m nm s fr hp = true) (hr : Ren ρ ρ' nm) (f : FR ρ φ fr a.tmps) (r : Rel ρ φ hp w) (o : Out w0 φ hp w) (hd : a.defers = []) (hN : N ≤ a.tmps.size) : At w0 N ρ' s a w := by
  obtain ⟨r1, r2, r3⟩ := fits_ok hfit hr r f
  refine ⟨renE m φ, r2, r1, ⟨o.old, o.size, o.os, o.tape, o.output, fun id x hi hx => ?_⟩, hd, hN⟩
  obtain ⟨id0, k1, k2⟩ := r3 id x hi hx
  exact o.live id0 x k1 k2
def AtH (w0 : World) (N : Nat) (ρ : Vn) (fr : Fr) (h : Hp) (a : Act) (w : World) : Prop :=
  ∃ φ, FR ρ φ fr a.tmps ∧ Rel ρ φ h w ∧ Out w0 φ h w ∧ a.defers = [] ∧ N ≤ a.tmps.size
def cutA : Nat → ACd → Option (List ACd × ACd)
  | 0, c => some ([], c)
  | k + 1, .seq x y => (cutA k y).map fun p => (x :: p.1, p.2)
  | _, _ => none
def cutL (k : Nat) (c : ACd) : List ACd := match cutA k c with
  | some p => p.1
  | none => []
def cutR (k : Nat) (c : ACd) : ACd := match cutA k c with
  | some p => p.2
  | none => .bad
noncomputable def runL (P : Program) (E : Env) (T : Tab) (n : Nat) (l : List ACd) : Fr → Hp → RC :=
  @List.rec ACd (fun _ => Fr → Hp → RC) RC.nrm (fun x _ ih fr h => RC.casesOn (motive := fun _ => RC) (aev P E T n x fr h) .no ih (fun _ _ _ => .no) (fun _ _ => .no)) l
theorem Tri.preH {T : Tab} {n : Nat} (hcode : CodeOk P E T n) {ρ : Vn} (he : EnvOk E ρ) {w0 : World} {Post : Exit → Act → World → Prop} {r : ACd} {fr' : Fr} {h' : Hp} (hrest : Tri P N r (AtH w0 N ρ fr' h') Post) :
    ∀ {k : Nat} {ac : ACd} {l : List ACd} {fr : Fr} {h : Hp}, cutA k ac = some (l, r) → runL P E T n l fr h = .nrm fr' h' → Tri P N ac (AtH w0 N ρ fr h) Post
  | 0, ac, l, fr, h, hc, hr => by cases hc; cases hr; exact hrest
  | k + 1, .seq x y, l, fr, h, hc, hr => by
    obtain ⟨p, hp, he2⟩ := map_some (show (cutA k y).map (fun p => (x :: p.1, p.2)) = some (l, r) from hc)
    obtain ⟨l', r'⟩ := p
    cases he2
    have hr' : RC.casesOn (motive := fun _ => RC) (aev P E T n x fr h) .no (runL P E T n l') (fun _ _ _ => .no) (fun _ _ => .no) = .nrm fr' h' := hr
    cases hx : aev P E T n x fr h with
    | no => rw [hx] at hr'; cases hr'
    | ex id f g => rw [hx] at hr'; cases hr'
    | ret f g => rw [hx] at hr'; cases hr'
    | nrm fr1 h1 =>
      rw [hx] at hr'
      refine Tri.seq (Mid := AtH w0 N ρ fr1 h1) ?_ (Tri.preH hcode he hrest hp hr')
      intro c hcc a w hat
      obtain ⟨φ, q1, q2, q3, q4, q5⟩ := hat
      refine wp_mono (hcode N c x hcc fr h _ hx (by simp) ρ φ a w he q1 q2 q5) ?_
      rintro e a' w' ⟨rfl, φ', p1, p2, p3, p4⟩
      exact ⟨trivial, .inl ⟨rfl, φ', p1, p2.rel, q3.step p2, p3.trans q4, by omega⟩⟩
  | k + 1, .skip, l, fr, h, hc, hr => nomatch hc
  | k + 1, .reg _, l, fr, h, hc, hr => nomatch hc
  | k + 1, .dreg _, l, fr, h, hc, hr => nomatch hc
  | k + 1, .cond _ _ _, l, fr, h, hc, hr => nomatch hc
  | k + 1, .block _ _, l, fr, h, hc, hr => nomatch hc
  | k + 1, .loop _, l, fr, h, hc, hr => nomatch hc
  | k + 1, .exit _, l, fr, h, hc, hr => nomatch hc
  | k + 1, .ret, l, fr, h, hc, hr => nomatch hc
  | k + 1, .bad, l, fr, h, hc, hr => nomatch hc
theorem Tri.pre_run {T : Tab} {n : Nat} (hcode : CodeOk P E T n) {ρ ρ' : Vn} (he : EnvOk E ρ) {k : Nat} {ac r : ACd} {l : List ACd} (hcut : cutA k ac = some (l, r)) {s s' : Lit} {m : List (Bid × Bid)} {nm : Nms} (hend : endsAt .nrm m nm s' (runL P E T n l s.frame s.hp) = true) (hr : Ren ρ ρ' nm)
    {w0 : World} {Post : Exit → Act → World → Prop} (hrest : Tri P N r (At w0 N ρ' s') Post) : Tri P N ac (At w0 N ρ s) Post := by
  cases hx : runL P E T n l s.frame s.hp with
  | no => rw [hx] at hend; cases hend
  | ex id f g => rw [hx] at hend; cases hend
  | ret f g => rw [hx] at hend; cases hend
  | nrm fr' h' =>
    rw [hx] at hend
    refine Tri.preH hcode he (hrest.pre ?_) hcut hx
    rintro a w ⟨φ, q1, q2, q3, q4, q5⟩
    exact At.fits hend hr q1 q2 q3 q4 q5
end
end Go.Proofs.YtjnfgapfhpihmaaGreat
end
