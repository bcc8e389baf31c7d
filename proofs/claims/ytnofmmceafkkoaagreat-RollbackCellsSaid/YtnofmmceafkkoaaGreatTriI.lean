/-
  A verified evaluator: code in pieces, run in another's memory: some of its blocks are covered, under numbers of their own; at the end all is as it was. No function of the program is named here.
-/
import Derived.Test.YtnofmmceafkkoaaGreatTriC
set_option linter.unusedVariables false
set_option linter.unusedSimpArgs false
namespace Go.Proofs.YtnofmmceafkkoaaGreat
open Go.RowKit
structure IK (C : List Bid) (φ0 : Emb) (h0 : Hp) (w0 : World) (φ : Emb) (h : Hp) (w : World) : Prop where
  le : ∀ c, c ∈ C → φ c = φ0 c
  z : ∀ b x, φ0.z b = some x → φ.z b = some x
  zdom : ∀ b x, φ.z b = some x → φ0.z b = some x ∨ w0.heap.size ≤ b ∨ ∃ id y, (h0.get id).isSome ∧ φ0 id = some y ∧ y.1 = b
  size : w0.heap.size ≤ w.heap.size
  frame : ∀ b, b < w0.heap.size → (∀ id x, (h0.get id).isSome → φ0 id = some x → x.1 ≠ b) → w.heap[b]? = w0.heap[b]?
  sub : ∀ id x, (h.get id).isSome → φ id = some x → x.1 < w0.heap.size → ∃ id0 x0, (h0.get id0).isSome ∧ φ0 id0 = some x0 ∧ x0.1 = x.1
  os : w.os = w0.os
  tape : w.tape = w0.tape
  output : w.output = w0.output
section
variable {C : List Bid} {φ0 φ φ' : Emb} {h0 h h' : Hp} {w0 w w' : World} {ρ ρ' : Vn}
theorem IK.refl : IK C φ0 h0 w0 φ0 h0 w0 := ⟨fun _ _ => rfl, fun _ _ h => h, fun _ _ h => .inl h, Nat.le_refl _, fun _ _ _ => rfl, fun id x hl hx _ => ⟨id, x, hl, hx, rfl⟩, rfl, rfl, rfl⟩
theorem IK.step (hC : ∀ c, c ∈ C → (φ0 c).isSome) (a : IK C φ0 h0 w0 φ h w) (b : Stp ρ φ h w φ' h' w') : IK C φ0 h0 w0 φ' h' w' where
  le := fun c hc => by
    obtain ⟨x, hx⟩ := Option.isSome_iff_exists.1 (hC c hc)
    rw [hx]
    exact b.le.m c x ((a.le c hc).trans hx)
  z := fun g x hg => b.le.z g x (a.z g x hg)
  zdom := fun g x hg => by
    rcases b.zdom g x hg with h1 | h1 | ⟨id, y, h1, h2, h3⟩
    · exact a.zdom g x h1
    · exact .inr (.inl (Nat.le_trans a.size h1))
    · by_cases hlt : g < w0.heap.size
      · obtain ⟨id0, x0, h4, h5, h6⟩ := a.sub id y h1 h2 (by omega)
        exact .inr (.inr ⟨id0, x0, h4, h5, h6.trans h3⟩)
      · exact .inr (.inl (by omega))
  size := Nat.le_trans a.size b.size
  frame := fun g hg hn => (b.frame g (Nat.lt_of_lt_of_le hg a.size) fun id x hl hx he => by
    obtain ⟨id0, x0, h1, h2, h3⟩ := a.sub id x hl hx (by omega)
    exact hn id0 x0 h1 h2 (h3.trans he)).trans (a.frame g hg hn)
  sub := fun id x hl hx hs => by
    obtain ⟨id1, x1, h1, h2, h3⟩ := b.sub id x hl hx (Nat.lt_of_lt_of_le hs a.size)
    obtain ⟨id0, x0, h4, h5, h6⟩ := a.sub id1 x1 h1 h2 (by omega)
    exact ⟨id0, x0, h4, h5, h6.trans h3⟩
  os := b.os.trans a.os
  tape := b.tape.trans a.tape
  output := b.output.trans a.output
def keepM (C : List Bid) (m : List (Bid × Bid)) : Bool := C.all fun c => m.any fun x => decide (x.1 = c) && decide (x.2 = c)
theorem IK.fits {m : List (Bid × Bid)} {nm : Nms} {s : Lit} {fr : Fr} {tmps : Array Value} (hk : keepM C m = true) (hf : fitsL m nm s fr h = true) (hr : Ren ρ ρ' nm) (r : Rel ρ φ h w) (f : FR ρ φ fr tmps) (a : IK C φ0 h0 w0 φ h w) : IK C φ0 h0 w0 (renE m φ) s.hp w := by
  obtain ⟨_, _, r3⟩ := fits_ok hf hr r f
  have hd : distN m = true := by
    unfold fitsL at hf
    rw [Bool.and_eq_true, Bool.and_eq_true, Bool.and_eq_true] at hf
    exact hf.1.1.1
  refine ⟨fun c hc => ?_, a.z, a.zdom, a.size, a.frame, fun id x hl hx hs => ?_, a.os, a.tape, a.output⟩
  · have h1 := List.all_eq_true.1 hk c hc
    obtain ⟨x, hx, h2⟩ := List.any_eq_true.1 h1
    rw [Bool.and_eq_true, decide_eq_true_eq, decide_eq_true_eq] at h2
    have hm : (c, c) ∈ m := by
      have : x = (c, c) := Prod.ext h2.1 h2.2
      rw [← this]; exact hx
    exact (renE_mem hd hm).trans (a.le c hc)
  · obtain ⟨id0, k1, k2⟩ := r3 id x hl hx
    exact a.sub id0 x k1 k2 hs
end
def AtI (C : List Bid) (φ0 : Emb) (h0 : Hp) (w0 : World) (N : Nat) (ρ : Vn) (s : Lit) (a : Act) (w : World) : Prop :=
  ∃ φ, FR ρ φ s.frame a.tmps ∧ Rel ρ φ s.hp w ∧ IK C φ0 h0 w0 φ s.hp w ∧ a.defers = [] ∧ N ≤ a.tmps.size
def AtHI (C : List Bid) (φ0 : Emb) (h0 : Hp) (w0 : World) (N : Nat) (ρ : Vn) (fr : Fr) (h : Hp) (a : Act) (w : World) : Prop :=
  ∃ φ, FR ρ φ fr a.tmps ∧ Rel ρ φ h w ∧ IK C φ0 h0 w0 φ h w ∧ a.defers = [] ∧ N ≤ a.tmps.size
section
variable {P : Program} {E : Env} {T : Tab} {N n : Nat} {C : List Bid} {φ0 : Emb} {h0 : Hp} {w0 : World}
theorem AtI.fits {w : World} {a : Act} {ρ ρ' : Vn} {φ : Emb} {s : Lit} {m : List (Bid × Bid)} {nm : Nms} {fr : Fr} {hp : Hp} (hk : keepM C m = true) (hfit : fitsL m nm s fr hp = true) (hr : Ren ρ ρ' nm) (f : FR ρ φ fr a.tmps) (r : Rel ρ φ hp w) (o : IK C φ0 h0 w0 φ hp w) (hd : a.defers = []) (hN : N ≤ a.tmps.size) : AtI C φ0 h0 w0 N ρ' s a w := by
  obtain ⟨r1, r2, r3⟩ := fits_ok hfit hr r f
  exact ⟨renE m φ, r2, r1, o.fits hk hfit hr r f, hd, hN⟩
theorem Tri.runI (hC : ∀ c, c ∈ C → (φ0 c).isSome) (hcode : CodeOk P E T n) {ρ ρ' : Vn} (he : EnvOk E ρ) {ac : ACd} {s s' : Lit} {k : En} {m : List (Bid × Bid)} {nm : Nms} (hend : endsAt k m nm s' (aev P E T n ac s.frame s.hp) = true) (hk : keepM C m = true) (hr : Ren ρ ρ' nm) :
    Tri P N ac (AtI C φ0 h0 w0 N ρ s) fun e a w => e = k.exit ∧ AtI C φ0 h0 w0 N ρ' s' a w := by
  intro c hc a w hat
  obtain ⟨φ, h1, h2, h3, h4, h5⟩ := hat
  obtain ⟨fr, hp, hfit, hne, hpost⟩ := endsAt_ok hend
  refine wp_mono (hcode N c ac hc s.frame s.hp _ rfl hne ρ φ a w he h1 h2 h5) ?_
  intro e a' w' hcp
  obtain ⟨rfl, φ', q1, q2, q3, q4⟩ := hpost _ _ _ _ _ _ _ _ hcp
  exact ⟨by cases k <;> trivial, rfl, AtI.fits hk hfit hr q1 q2.rel (h3.step hC q2) (q3.trans h4) (by omega)⟩
theorem Tri.preHI (hC : ∀ c, c ∈ C → (φ0 c).isSome) (hcode : CodeOk P E T n) {ρ : Vn} (he : EnvOk E ρ) {Post : Exit → Act → World → Prop} {r : ACd} {fr' : Fr} {h' : Hp} (hrest : Tri P N r (AtHI C φ0 h0 w0 N ρ fr' h') Post) :
    ∀ {k : Nat} {ac : ACd} {l : List ACd} {fr : Fr} {h : Hp}, cutA k ac = some (l, r) → runL P E T n l fr h = .nrm fr' h' → Tri P N ac (AtHI C φ0 h0 w0 N ρ fr h) Post
  | 0, ac, l, fr, h, hc, hr => by cases hc; cases hr; exact hrest
  | k + 1, .seq x y, l, fr, h, hc, hr => by
    obtain ⟨p, hp, he2⟩ := map_some (show (cutA k y).map (fun p => (x :: p.1, p.2)) = some (l, r) from hc)
    obtain ⟨l', r'⟩ := p
    cases he2
    have hr' : RC.casesOn (motive := fun _ => RC) (aev P E T n x fr h) .no (runL P E T n l') (fun _ _ _ => .no) (fun _ _ => .no) = .nrm fr' h' := hr
    cases hx : aev P E T n x fr h with
    | no => rw [hx] at hr'; cases hr'
    | ex id f g => rw [hx] at hr'; cases hr'
    | ret f g => rw [hx] at hr'; cases hr'
    | nrm fr1 h1 =>
      rw [hx] at hr'
      refine Tri.seq (Mid := AtHI C φ0 h0 w0 N ρ fr1 h1) ?_ (Tri.preHI hC hcode he hrest hp hr')
      intro c hcc a w hat
      obtain ⟨φ, q1, q2, q3, q4, q5⟩ := hat
      refine wp_mono (hcode N c x hcc fr h _ hx (by simp) ρ φ a w he q1 q2 q5) ?_
      rintro e a' w' ⟨rfl, φ', p1, p2, p3, p4⟩
      exact ⟨trivial, .inl ⟨rfl, φ', p1, p2.rel, q3.step hC p2, p3.trans q4, by omega⟩⟩
  | k + 1, .skip, l, fr, h, hc, hr => nomatch hc
  | k + 1, .reg _, l, fr, h, hc, hr => nomatch hc
  | k + 1, .dreg _, l, fr, h, hc, hr => nomatch hc
  | k + 1, .cond _ _ _, l, fr, h, hc, hr => nomatch hc
  | k + 1, .block _ _, l, fr, h, hc, hr => nomatch hc
  | k + 1, .loop _, l, fr, h, hc, hr => nomatch hc
  | k + 1, .exit _, l, fr, h, hc, hr => nomatch hc
  | k + 1, .ret, l, fr, h, hc, hr => nomatch hc
  | k + 1, .bad, l, fr, h, hc, hr => nomatch hc
theorem Tri.pre_runI (hC : ∀ c, c ∈ C → (φ0 c).isSome) (hcode : CodeOk P E T n) {ρ ρ' : Vn} (he : EnvOk E ρ) {k : Nat} {ac r : ACd} {l : List ACd} (hcut : cutA k ac = some (l, r)) {s s' : Lit} {m : List (Bid × Bid)} {nm : Nms} (hend : endsAt .nrm m nm s' (runL P E T n l s.frame s.hp) = true) (hk : keepM C m = true) (hr : Ren ρ ρ' nm)
    {Post : Exit → Act → World → Prop} (hrest : Tri P N r (AtI C φ0 h0 w0 N ρ' s') Post) : Tri P N ac (AtI C φ0 h0 w0 N ρ s) Post := by
  cases hx : runL P E T n l s.frame s.hp with
  | no => rw [hx] at hend; cases hend
  | ex id f g => rw [hx] at hend; cases hend
  | ret f g => rw [hx] at hend; cases hend
  | nrm fr' h' =>
    rw [hx] at hend
    refine Tri.preHI hC hcode he (hrest.pre ?_) hcut hx
    rintro a w ⟨φ, q1, q2, q3, q4, q5⟩
    exact AtI.fits hk hend hr q1 q2 q3 q4 q5
theorem call_in {f : FuncId} {fn : Func} {ac : ACd} {res : List AR} (hf : P.funcs[f]? = some fn) (hc : cFn P fn = some (.code ac res)) {args : List AV} {us : List Value} {s0 : Lit} (hs : ∃ fr, frameOf args places Fr.nil = some fr ∧ s0.frame = fr)
    {ρ : Vn} {w : World} (hargs : All2 (VV ρ φ0) args us) (h0r : Rel ρ φ0 s0.hp w) {Fin : Vn → AV → Lit → Prop}
    (ht : Tri P fn.ntmps ac (AtI C φ0 s0.hp w fn.ntmps ρ s0) fun e a w' => (e = .ret ∨ e = .normal) ∧ ∃ ρ' s' v, retOf res s'.frame s'.hp = .ok v s'.hp ∧ Fin ρ' v s' ∧ AtI C φ0 s0.hp w fn.ntmps ρ' s' a w') :
    Calls P f us.toArray w fun e w' => ∃ u ρ' φ' v s', e = .returned u ∧ Fin ρ' v s' ∧ VV ρ' φ' v u ∧ Rel ρ' φ' s'.hp w' ∧ IK C φ0 s0.hp w φ' s'.hp w' := by
  unfold cFn at hc
  cases hb : fn.body with
  | none => rw [hb] at hc; cases hc
  | some c =>
  rw [hb] at hc
  dsimp only at hc
  split at hc
  · rename_i b' r' h1 h2
    cases hc
    obtain ⟨fr, hfr, hsf⟩ := hs
    refine calls_of_wp hf hb ?_
    have hframe : FR ρ φ0 fr (us.toArray ++ Array.replicate (fn.ntmps - us.toArray.size) undef) := by
      refine frame_ok (k := 0) hargs (fun i p hp => by rw [Nat.zero_add]; exact places_tn i p hp) (fun i u hiu => ?_) (fun i j x hx => by rw [getF_nil] at hx; cases hx) hfr
      have hlt := (List.getElem?_eq_some_iff.1 hiu).1
      rw [Nat.zero_add, Array.getElem?_append_left (by simpa using hlt)]
      simpa using hiu
    have hsz : fn.ntmps ≤ (us.toArray ++ Array.replicate (fn.ntmps - us.toArray.size) undef).size := by simp; omega
    refine wp_mono (ht c h1 { tmps := us.toArray ++ Array.replicate (fn.ntmps - us.toArray.size) undef, defers := [] } w ⟨φ0, by rw [hsf]; exact hframe, h0r, IK.refl, rfl, hsz⟩) ?_
    rintro e a' w' ⟨_, he, ρ', s', v, hret, hfin, φ', q1, q2, q3, q4, q5⟩
    obtain ⟨_, u, q6, q7⟩ := results_ok q1 q2 h2 hret
    rcases he with rfl | rfl
    · exact ⟨q4, u, q6, u, ρ', φ', v, s', rfl, hfin, q7, q2, q3⟩
    · exact ⟨q4, u, q6, u, ρ', φ', v, s', rfl, hfin, q7, q2, q3⟩
  · cases hc
end
section
variable {C : List Bid} {φ φ' : Emb} {h h0 h' : Hp} {w w' : World} {ρ ρ1 ρ' : Vn} {m : List (Bid × Bid)}
theorem rel_in (r : Rel ρ φ h w) (hd : distN m = true) (hn : ∀ x, x ∈ m → x.2.num < h0.next.num) (hz : ∀ b x, ρ1.z b = some x → φ.z b = some x)
    (hb : ∀ c B, h0.get c = some B → ∃ a b base arr T cs, (a, c) ∈ m ∧ (h.get a).isSome ∧ φ a = some (b, base, arr.size) ∧ w.heap[b]? = some (.cells arr T (0, 0)) ∧ B = .cells cs ∧ CellsAt ρ1 (renE m φ) cs base arr) : Rel ρ1 (renE m φ) h0 w := by
  have src : ∀ {c : Bid}, (h0.get c).isSome → ∃ a, (a, c) ∈ m ∧ (h.get a).isSome ∧ renE m φ c = φ a := fun {c} hc => by
    obtain ⟨B, hB⟩ := Option.isSome_iff_exists.1 hc
    obtain ⟨a, _, _, _, _, _, h1, h2, _⟩ := hb c B hB
    exact ⟨a, h1, h2, renE_mem hd h1⟩
  refine ⟨⟨fun id c hc => ?_, fun id l hc => ?_, fun id e y hc => ?_, fun i j x y hi hj hx hy he => ?_, fun id hi => ?_, fun id hi => ?_⟩, ⟨hz, fun b x hbx => ⟨(r.frz.at_ b x hbx).1, fun id y hi hy => ?_⟩⟩⟩
  · obtain ⟨a, b, base, arr, T, cs, h1, h2, h3, h4, h5, h6⟩ := hb id _ hc
    cases h5
    exact ⟨b, base, arr, T, by rw [renE_mem hd h1]; exact h3, h4, h6⟩
  · obtain ⟨a, b, base, arr, T, cs, h1, h2, h3, h4, h5, h6⟩ := hb id _ hc
    cases h5
  · obtain ⟨a, b, base, arr, T, cs, h1, h2, h3, h4, h5, h6⟩ := hb id _ hc
    cases h5
  · obtain ⟨a, h1, h2, h3⟩ := src hi
    obtain ⟨a', h1', h2', h3'⟩ := src hj
    rw [h3] at hx
    rw [h3'] at hy
    have := r.inj a a' x y h2 h2' hx hy he
    exact congrArg Prod.snd ((distN_ok hd _ h1 _ h1').2 this)
  · obtain ⟨a, h1, _⟩ := src hi
    exact (show id.num < h0.next.num from hn (a, id) h1)
  · show renM m φ id = none
    unfold renM
    cases hfi : m.find? fun x => decide (x.2 = id) with
    | none => rfl
    | some x =>
      exfalso
      have h2 : x.2 = id := of_decide_eq_true (List.find?_some (p := fun (x : Bid × Bid) => decide (x.2 = id)) hfi)
      have h3 := hn x (List.mem_of_find?_eq_some hfi)
      rw [h2] at h3
      omega
  · obtain ⟨a, h1, h2, h3⟩ := src hi
    rw [h3] at hy
    exact (r.frz.at_ b x hbx).2 a y h2 hy
theorem IK.back (r : Rel ρ φ h w) (hd : distN m = true) (hC : ∀ x, x ∈ m → x.2 ∈ C) (hlive : ∀ c, (h0.get c).isSome → ∃ a, (a, c) ∈ m ∧ (h.get a).isSome) (k : IK C (renE m φ) h0 w φ' h' w') (r' : Rel ρ' φ' h' w')
    (hb : ∀ a c, (a, c) ∈ m → ∃ ca cs, h.get a = some (.cells ca) ∧ h'.get c = some (.cells cs) ∧ ca.length = cs.length ∧ ∀ (o : Nat) x y v, cs[o]? = some x → ca[o]? = some y → VC ρ' φ' x v → VC ρ ⟨φ.m, φ'.z⟩ y v) : Stp ρ φ h w ⟨φ.m, φ'.z⟩ h w' := by
  have hle : φ.le ⟨φ.m, φ'.z⟩ := ⟨fun _ _ h => h, fun b x hx => k.z b x hx⟩
  have hsame : ∀ {a c : Bid}, (a, c) ∈ m → φ' c = φ a := fun {a c} hm => (k.le c (hC _ hm)).trans (renE_mem hd hm)
  have keep : ∀ {id : Bid} {x : Nat × Nat × Nat}, (h.get id).isSome → φ id = some x → (∀ c, (id, c) ∉ m) → w'.heap[x.1]? = w.heap[x.1]? := fun {id x} hl hx hno => by
    refine k.frame x.1 (r.block hl hx) fun c y hc hy he => ?_
    obtain ⟨a, h1, h2⟩ := hlive c hc
    rw [renE_mem hd h1] at hy
    have := r.inj a id y x h2 hl hy hx he
    subst this
    exact hno c h1
  have cov : ∀ id : Bid, (∃ c, (id, c) ∈ m) ∨ ∀ c, (id, c) ∉ m := fun id => by
    by_cases e : ∃ c, (id, c) ∈ m
    · exact .inl e
    · exact .inr fun c hc => e ⟨c, hc⟩
  refine ⟨hle, ⟨⟨fun id c hc => ?_, fun id l hc => ?_, fun id e y hc => ?_, fun i j x y hi hj hx hy he => r.inj i j x y hi hj hx hy he, fun id hi => r.low id hi, fun id hi => r.free id hi⟩, ⟨fun b x hbx => k.z b x (r.frz.zin b x hbx), fun b x hbx => ⟨(r'.frz.at_ b x hbx).1, fun id y hi hy => ?_⟩⟩⟩, k.size, fun b hlt hn => ?_, fun id x hl hx _ => ⟨id, x, hl, hx, rfl⟩, Nat.le_refl _, fun id hi => .inl hi, k.os, k.tape, k.output, fun b x hbx => ?_⟩
  · obtain ⟨b, base, arr, T, h1, h2, h3⟩ := r.cells id c hc
    rcases cov id with ⟨cc, hm⟩ | hno
    · obtain ⟨ca, cs, g1, g2, g3, g4⟩ := hb id cc hm
      rw [hc] at g1
      cases g1
      obtain ⟨b', base', arr', T', k1, k2, k3, k4⟩ := r'.cells cc cs g2
      rw [hsame hm] at k1
      have k1' := k1
      rw [h1] at k1'
      refine ⟨b', base', arr', T', k1, k2, by omega, fun o y hy => ?_⟩
      have hlt : o < cs.length := by rw [← g3]; exact (List.getElem?_eq_some_iff.1 hy).1
      obtain ⟨v, q1, q2⟩ := k4 o _ (List.getElem?_eq_getElem hlt)
      exact ⟨v, q1, g4 o _ y v (List.getElem?_eq_getElem hlt) hy q2⟩
    · exact ⟨b, base, arr, T, h1, (keep (by rw [hc]; rfl) h1 hno).trans h2, h3.le hle⟩
  · obtain ⟨b, es, cl, h1, h2, h3⟩ := r.maps id l hc
    rcases cov id with ⟨cc, hm⟩ | hno
    · obtain ⟨ca, cs, g1, _⟩ := hb id cc hm
      rw [hc] at g1
      cases g1
    · exact ⟨b, es, cl, h1, (keep (by rw [hc]; rfl) h1 hno).trans h2, h3.mono fun _ _ h => ⟨h.1.le hle, h.2.le hle⟩⟩
  · obtain ⟨b, arr, T, h1, h2, h3⟩ := r.rows id e y hc
    rcases cov id with ⟨cc, hm⟩ | hno
    · obtain ⟨ca, cs, g1, _⟩ := hb id cc hm
      rw [hc] at g1
      cases g1
    · exact ⟨b, arr, T, h1, (keep (by rw [hc]; rfl) h1 hno).trans h2, h3.le hle.z⟩
  · rcases cov id with ⟨cc, hm⟩ | hno
    · obtain ⟨ca, cs, g1, g2, _⟩ := hb id cc hm
      exact (r'.frz.at_ b x hbx).2 cc y (by rw [g2]; rfl) ((hsame hm).trans hy)
    · rcases k.zdom b x hbx with h1 | h1 | ⟨c, y', h1, h2, h3⟩
      · exact (r.frz.at_ b x h1).2 id y hi hy
      · have := r.block hi hy
        omega
      · intro he
        obtain ⟨a, g1, g2⟩ := hlive c h1
        rw [renE_mem hd g1] at h2
        have := r.inj a id y' y g2 hi h2 hy (h3.trans he.symm)
        subst this
        exact hno c g1
  · refine k.frame b hlt fun c x hc hx => ?_
    obtain ⟨a, h1, h2⟩ := hlive c hc
    rw [renE_mem hd h1] at hx
    exact hn a x h2 hx
  · rcases k.zdom b x hbx with h1 | h1 | ⟨c, y, h1, h2, h3⟩
    · exact .inl h1
    · exact .inr (.inl h1)
    · obtain ⟨a, g1, g2⟩ := hlive c h1
      rw [renE_mem hd g1] at h2
      exact .inr (.inr ⟨a, y, g2, h2, h3⟩)
end
end Go.Proofs.YtnofmmceafkkoaaGreat
