/-
  A verified evaluator: a state written anew: memory under new numbers, values under new names; what is not kept is forgotten.
-/
import Derived.Test.YtjnfgapfhpihmaaGreatEvG
set_option linter.unusedVariables false
set_option linter.unusedSimpArgs false
namespace Go.Proofs.YtjnfgapfhpihmaaGreat
open Go.RowKit
noncomputable def lookB (m : List (Bid × Bid)) (id : Bid) : Option Bid := @List.rec (Bid × Bid) (fun _ => Option Bid) none (fun x _ ih => bif decide (x.1 = id) then some x.2 else ih) m
noncomputable def absId (m : List (Bid × Bid)) (a b : Bid) : Bool := match lookB m a with
  | some c => decide (c = b)
  | none => false
def hasN (nm : List (Nm × Nm)) (t u : Nm) : Bool := nm.any fun x => decide (x.1 = t) && decide (x.2 = u)
structure Nms where
  i : List (Nm × Nm)
  s : List (Nm × Nm) := []
  b : List (Nm × Nm) := []
  d : List (Nm × Nm) := []
  g : List (Nm × Nm) := []
def all2 {α β : Type} (f : α → β → Bool) : List α → List β → Bool
  | [], [] => true
  | x :: l, y :: m => f x y && all2 f l m
  | _, _ => false
noncomputable def absC (m : List (Bid × Bid)) (nm : Nms) (x y : AC) : Bool := match x, y with
  | .p a o, .p b o' => absId m a b && Nat.beq o o'
  | .sl a o l c, .sl b o' l' c' => absId m a b && Nat.beq o o' && Nat.beq l l' && Nat.beq c c'
  | .su a o l lb es, .su b o' l' lb' es' => absId m a b && Nat.beq o o' && Nat.beq l l' && Nat.beq lb lb' && Nat.beq es es'
  | .se a es, .se b es' => absId m a b && Nat.beq es es'
  | .mp a, .mp b => absId m a b
  | .si k t, .si k' t' => decide (k = k') && hasN nm.i t t'
  | .i k n, .si k' t' => decide (k = k') && hasN nm.i (.num n) t'
  | .ss t, .ss t' => hasN nm.s t t'
  | .s l, .ss t' => hasN nm.s (.lit l) t'
  | .b x, .b y => decide (x = y)
  | .b x, .sb t' => hasN nm.b (.f1 9 (.num (bif x then 1 else 0))) t'
  | .sn, .ds _ t' => hasN nm.d (.f1 7 (.num (.ofNat 0))) t'
  | .dc e t, .ds e' t' => decide (e = e') && hasN nm.d t t'
  | .i k n, .i k' n' => decide (k = k') && decide (n = n')
  | .s l, .s l' => decide (l = l')
  | .pn, .pn => true
  | .sn, .sn => true
  | .mn, .mn => true
  | .fz, .fz => true
  | .ni, .ni => true
  | .top, .top => true
  | .s _, .top => true
  | .ss _, .top => true
  | .sb t, .sb t' => hasN nm.b t t'
  | .gv t, .gv t' => hasN nm.g t t'
  | .ds e t, .ds e' t' => decide (e = e') && hasN nm.d t t'
  | .fn f l k, .fn f' l' k' => decide (f = f') && (all2 (fun p q => absId m p.1 q.1 && Nat.beq p.2 q.2) l l' && all2 (fun p q => absId m p.1 q.1 && Nat.beq p.2 q.2) k k')
  | _, _ => false
theorem all2_ok {α β : Type} {f : α → β → Bool} {R : α → β → Prop} (h : ∀ x y, f x y = true → R x y) : ∀ {l : List α} {m : List β}, all2 f l m = true → All2 R l m
  | [], [], _ => .nil
  | x :: l, y :: m, e => by
    have e' : (f x y && all2 f l m) = true := e
    rw [Bool.and_eq_true] at e'
    exact .cons (h _ _ e'.1) (all2_ok h e'.2)
  | [], _ :: _, e => by cases e
  | _ :: _, [], e => by cases e
noncomputable def absV (m : List (Bid × Bid)) (nm : Nms) : AV → AV → Bool
  | .c x, .c y => absC m nm x y
  | .a l, .a l' => all2 (absC m nm) l l'
  | _, _ => false
noncomputable def absB (m : List (Bid × Bid)) (nm : Nms) : AB → AB → Bool
  | .cells c, .cells c' => all2 (absC m nm) c c'
  | .map l, .map l' => all2 (fun x y => absV m nm x.1 y.1 && absV m nm x.2 y.2) l l'
  | _, _ => false
def renM (m : List (Bid × Bid)) (φ : Emb) (b : Bid) : Option (Nat × Nat × Nat) := match m.find? fun x => decide (x.2 = b) with
  | some x => φ x.1
  | none => none
def renE (m : List (Bid × Bid)) (φ : Emb) : Emb := ⟨renM m φ, φ.z⟩
noncomputable def distN (m : List (Bid × Bid)) : Bool := @List.rec (Bid × Bid) (fun _ => Bool) true (fun x l ih => (l.all fun y => !decide (y.2 = x.2) && !decide (y.1 = x.1)) && ih) m
theorem distN_ok : ∀ {m : List (Bid × Bid)}, distN m = true → (∀ x ∈ m, ∀ y ∈ m, (x.2 = y.2 → x = y) ∧ (x.1 = y.1 → x = y))
  | [], _, x, hx, _, _ => by cases hx
  | z :: m, h, x, hx, y, hy => by
    have h' : ((m.all fun y => !decide (y.2 = z.2) && !decide (y.1 = z.1)) && distN m) = true := h
    rw [Bool.and_eq_true, List.all_eq_true] at h'
    have hz : ∀ y ∈ m, y.2 ≠ z.2 ∧ y.1 ≠ z.1 := fun y hy => by
      have := h'.1 y hy
      simpa using this
    rcases List.mem_cons.1 hx with ex | hx'
    · rcases List.mem_cons.1 hy with ey | hy'
      · rw [ex, ey]; exact ⟨fun _ => rfl, fun _ => rfl⟩
      · rw [ex]; exact ⟨fun e => absurd e.symm (hz y hy').1, fun e => absurd e.symm (hz y hy').2⟩
    · rcases List.mem_cons.1 hy with ey | hy'
      · rw [ey]; exact ⟨fun e => absurd e (hz x hx').1, fun e => absurd e (hz x hx').2⟩
      · exact distN_ok h'.2 x hx' y hy'
theorem lookB_mem : ∀ {m : List (Bid × Bid)} {a b : Bid}, lookB m a = some b → (a, b) ∈ m
  | [], a, b, h => by cases h
  | z :: m, a, b, h => by
    have h' : (bif decide (z.1 = a) then some z.2 else lookB m a) = some b := h
    cases hd : decide (z.1 = a) with
    | true =>
      rw [hd] at h'
      cases h'
      rw [← of_decide_eq_true hd]
      exact List.mem_cons_self
    | false =>
      rw [hd] at h'
      exact List.mem_cons_of_mem _ (lookB_mem h')
theorem renE_mem {m : List (Bid × Bid)} (hd : distN m = true) {φ : Emb} {a b : Bid} (h : (a, b) ∈ m) : renE m φ b = φ a := by
  show renM m φ b = φ a
  unfold renM
  cases hf : m.find? fun x => decide (x.2 = b) with
  | none =>
    have := List.find?_eq_none.1 hf (a, b) h
    simp at this
  | some x =>
    have h1 := List.mem_of_find?_eq_some hf
    have h2 := List.find?_some hf
    have h3 := of_decide_eq_true h2
    have := (distN_ok hd x h1 (a, b) h).1 h3
    rw [this]
theorem hasN_ok {nm : List (Nm × Nm)} {t u : Nm} (h : hasN nm t u = true) : (t, u) ∈ nm := by
  unfold hasN at h
  rw [List.any_eq_true] at h
  obtain ⟨x, hx, h1⟩ := h
  rw [Bool.and_eq_true, decide_eq_true_eq, decide_eq_true_eq] at h1
  obtain ⟨a, b⟩ := x
  cases h1.1
  cases h1.2
  exact hx
structure Ren (ρ ρ' : Vn) (nm : Nms) : Prop where
  num : ∀ n, ρ.i (.num n) = n
  lit : ∀ l, ρ.s (.lit l) = ⟨(l.map UInt8.ofNat).toArray⟩
  i : ∀ x ∈ nm.i, ρ'.i x.2 = ρ.i x.1
  s : ∀ x ∈ nm.s, ρ'.s x.2 = ρ.s x.1
  b : ∀ x ∈ nm.b, ρ'.b x.2 = ρ.b x.1
  d : ∀ x ∈ nm.d, ρ'.d x.2 = ρ.d x.1
  g : ∀ x ∈ nm.g, ρ'.g x.2 = ρ.g x.1
  z : ρ'.z = ρ.z
  bt : ∀ n, ρ.b (.f1 9 (.num n)) = decide (n ≠ 0)
  nil : ρ.d (.f1 7 (.num (.ofNat 0))) = []
section
variable {ρ ρ' : Vn} {φ : Emb} {m : List (Bid × Bid)} {nm : Nms}
theorem absId_ok (hd : distN m = true) {a b : Bid} (h : absId m a b = true) : renE m φ b = φ a := by
  unfold absId at h
  split at h
  · rename_i c hc
    have := of_decide_eq_true h
    subst this
    exact renE_mem hd (lookB_mem hc)
  · cases h
theorem ptrs_abs (hd : distN m = true) : ∀ {l l' : List (Bid × Nat)} {xs : List Value}, all2 (fun p q => absId m p.1 q.1 && Nat.beq p.2 q.2) l l' = true → All2 (PtrAt φ) l xs → All2 (PtrAt (renE m φ)) l' xs
  | [], [], xs, _, h => by cases h; exact .nil
  | p :: l, q :: l', xs, e, h => by
    have e' : ((absId m p.1 q.1 && Nat.beq p.2 q.2) && all2 (fun p q => absId m p.1 q.1 && Nat.beq p.2 q.2) l l') = true := e
    rw [Bool.and_eq_true, Bool.and_eq_true] at e'
    cases h with
    | cons h1 h2 =>
      obtain ⟨b, base, tot, k1, k2⟩ := h1
      refine .cons ⟨b, base, tot, ?_, ?_⟩ (ptrs_abs hd e'.2 h2)
      · rw [absId_ok hd e'.1.1]; exact k1
      · rw [← Nat.eq_of_beq_eq_true e'.1.2]; exact k2
  | [], _ :: _, _, e, _ => by cases e
  | _ :: _, [], _, e, _ => by cases e
theorem absC_ok (hd : distN m = true) (hr : Ren ρ ρ' nm) {x y : AC} {v : Value} (h : absC m nm x y = true) (hv : VC ρ φ x v) : VC ρ' (renE m φ) y v := by
  unfold absC at h
  split at h
  · rw [Bool.and_eq_true] at h
    have e1 := absId_ok (φ := φ) hd h.1
    cases Nat.eq_of_beq_eq_true h.2
    obtain ⟨b, base, tot, h1, h2⟩ := hv
    exact ⟨b, base, tot, by rw [e1]; exact h1, h2⟩
  · rw [Bool.and_eq_true, Bool.and_eq_true, Bool.and_eq_true] at h
    have e1 := absId_ok (φ := φ) hd h.1.1.1
    cases Nat.eq_of_beq_eq_true h.1.1.2
    cases Nat.eq_of_beq_eq_true h.1.2
    cases Nat.eq_of_beq_eq_true h.2
    obtain ⟨b, base, tot, h1, h2⟩ := hv
    exact ⟨b, base, tot, by rw [e1]; exact h1, h2⟩
  · rw [Bool.and_eq_true, Bool.and_eq_true, Bool.and_eq_true, Bool.and_eq_true] at h
    have e1 := absId_ok (φ := φ) hd h.1.1.1.1
    cases Nat.eq_of_beq_eq_true h.1.1.1.2
    cases Nat.eq_of_beq_eq_true h.1.1.2
    cases Nat.eq_of_beq_eq_true h.1.2
    cases Nat.eq_of_beq_eq_true h.2
    obtain ⟨b, base, tot, cap, h1, h2⟩ := hv
    exact ⟨b, base, tot, cap, by rw [e1]; exact h1, h2⟩
  · rw [Bool.and_eq_true] at h
    have e1 := absId_ok (φ := φ) hd h.1
    cases Nat.eq_of_beq_eq_true h.2
    obtain ⟨b, base, tot, o, cap, h1, h2⟩ := hv
    exact ⟨b, base, tot, o, cap, by rw [e1]; exact h1, h2⟩
  · have e1 := absId_ok (φ := φ) hd h
    obtain ⟨b, base, tot, h1, h2⟩ := hv
    exact ⟨b, base, tot, by rw [e1]; exact h1, h2⟩
  · rw [Bool.and_eq_true] at h
    cases of_decide_eq_true h.1
    have := hr.i _ (hasN_ok h.2)
    exact hv.trans (by rw [← this])
  · rw [Bool.and_eq_true] at h
    cases of_decide_eq_true h.1
    have := hr.i _ (hasN_ok h.2)
    rw [hr.num] at this
    exact hv.trans (by rw [← this])
  · have := hr.s _ (hasN_ok h)
    exact hv.trans (by rw [← this])
  · have := hr.s _ (hasN_ok h)
    obtain ⟨y, hy, hyl⟩ := hv
    subst hyl
    rw [hr.lit, ofNat_toNat8] at this
    have e : (⟨y.data.toList.toArray⟩ : ByteArray) = y := by simp
    rw [e] at this
    exact hy.trans (by rw [← this])
  · cases of_decide_eq_true h; exact hv
  · rename_i x t'
    have := hr.b _ (hasN_ok h)
    rw [hr.bt] at this
    refine hv.trans ?_
    rw [this]
    cases x <;> rfl
  · have := hr.d _ (hasN_ok h)
    rw [hr.nil] at this
    show SlD φ.z _ (ρ'.d _) v
    rw [this]
    exact ⟨none, 0, hv, Nat.le_refl _, .inl rfl⟩
  · rw [Bool.and_eq_true] at h
    cases of_decide_eq_true h.1
    have := hr.d _ (hasN_ok h.2)
    show SlD φ.z _ (ρ'.d _) v
    rw [this]
    exact hv.1
  · rw [Bool.and_eq_true] at h
    cases of_decide_eq_true h.1
    cases of_decide_eq_true h.2
    exact hv
  · cases of_decide_eq_true h; exact hv
  · exact hv
  · exact hv
  · exact hv
  · exact hv
  · exact hv
  · exact hv
  · obtain ⟨y, hy, _⟩ := hv; exact ⟨y, hy⟩
  · exact ⟨_, hv⟩
  · have := hr.b _ (hasN_ok h)
    exact hv.trans (by rw [← this])
  · have := hr.g _ (hasN_ok h)
    exact ⟨hv.1.trans (by rw [← this]), hv.2⟩
  · rw [Bool.and_eq_true] at h
    cases of_decide_eq_true h.1
    have := hr.d _ (hasN_ok h.2)
    show SlD φ.z _ (ρ'.d _) v
    rw [this]
    exact hv
  · rw [Bool.and_eq_true, Bool.and_eq_true] at h
    cases of_decide_eq_true h.1
    obtain ⟨xs, ys, h1, h2, h3⟩ := hv
    exact ⟨xs, ys, h1, ptrs_abs hd h.2.1 h2, ptrs_abs hd h.2.2 h3⟩
  · cases h
theorem all2_abs (hd : distN m = true) (hr : Ren ρ ρ' nm) : ∀ {l l' : List AC} {vs : List Value}, all2 (absC m nm) l l' = true → All2 (VC ρ φ) l vs → All2 (VC ρ' (renE m φ)) l' vs
  | [], [], vs, _, h => by cases h; exact .nil
  | x :: l, y :: l', vs, e, h => by
    have e' : (absC m nm x y && all2 (absC m nm) l l') = true := e
    rw [Bool.and_eq_true] at e'
    cases h with
    | cons h1 h2 => exact .cons (absC_ok hd hr e'.1 h1) (all2_abs hd hr e'.2 h2)
  | [], _ :: _, _, e, _ => by cases e
  | _ :: _, [], _, e, _ => by cases e
theorem absV_ok (hd : distN m = true) (hr : Ren ρ ρ' nm) {x y : AV} {v : Value} (h : absV m nm x y = true) (hv : VV ρ φ x v) : VV ρ' (renE m φ) y v := by
  cases x <;> cases y <;> first | (exact absurd h Bool.false_ne_true) | skip
  · exact absC_ok hd hr h hv
  · obtain ⟨vs, h1, h2⟩ := hv
    exact ⟨vs, h1, all2_abs hd hr h h2⟩
end
structure Lit where
  fr : List (D16 × D16 × AV)
  mem : List (Bid × AB)
  next : Bid
noncomputable def Lit.frame (s : Lit) : Fr := @List.rec (D16 × D16 × AV) (fun _ => Fr) Fr.nil (fun x _ ih => putF x.1 x.2.1 x.2.2 ih) s.fr
noncomputable def memOf (l : List (Bid × AB)) : N16 (N16 (N16 (Option AB))) := @List.rec (Bid × AB) (fun _ => N16 (N16 (N16 (Option AB)))) bl0 (fun x _ ih => put3 ih x.1 (some x.2)) l
noncomputable def Lit.hp (s : Lit) : Hp := ⟨s.next, memOf s.mem⟩
theorem memOf_get : ∀ {l : List (Bid × AB)} {id : Bid} {b : AB}, get3 (memOf l) id = some b → (id, b) ∈ l
  | [], id, b, h => by
    rw [show memOf [] = bl0 from rfl, show get3 bl0 id = none from get3_rep id none] at h
    cases h
  | x :: l, id, b, h => by
    have h' : get3 (put3 (memOf l) x.1 (some x.2)) id = some b := h
    by_cases he : id = x.1
    · subst he
      rw [get3_put3] at h'
      cases h'
      exact List.mem_cons_self
    · rw [get3_put3_ne he] at h'
      exact List.mem_cons_of_mem _ (memOf_get h')
theorem frame_get : ∀ {l : List (D16 × D16 × AV)} {i j : D16} {v : AV}, getF i j (@List.rec (D16 × D16 × AV) (fun _ => Fr) Fr.nil (fun x _ ih => putF x.1 x.2.1 x.2.2 ih) l) = some v → (i, j, v) ∈ l
  | [], i, j, v, h => by
    have h' : getF i j Fr.nil = some v := h
    rw [getF_nil] at h'
    cases h'
  | x :: l, i, j, v, h => by
    have h' : getF i j (putF x.1 x.2.1 x.2.2 (@List.rec (D16 × D16 × AV) (fun _ => Fr) Fr.nil (fun x _ ih => putF x.1 x.2.1 x.2.2 ih) l)) = some v := h
    by_cases he : i = x.1 ∧ j = x.2.1
    · obtain ⟨rfl, rfl⟩ := he
      rw [getF_putF] at h'
      cases h'
      exact List.mem_cons_self
    · rw [getF_putF_ne he] at h'
      exact List.mem_cons_of_mem _ (frame_get h')
noncomputable def fitsL (m : List (Bid × Bid)) (nm : Nms) (s : Lit) (fr : Fr) (h : Hp) : Bool :=
  distN m && (m.all fun x => Nat.blt x.2.num s.next.num) &&
  (s.fr.all fun x => match getF x.1 x.2.1 fr with | some v => absV m nm v x.2.2 | none => false) &&
  (s.mem.all fun x => m.any fun y => decide (y.2 = x.1) && (match h.get y.1 with | some b => absB m nm b x.2 | none => false))
theorem fits_ok {ρ ρ' : Vn} {φ : Emb} {m : List (Bid × Bid)} {nm : Nms} {s : Lit} {fr : Fr} {h : Hp} {w : World} {tmps : Array Value} (hf : fitsL m nm s fr h = true) (hr : Ren ρ ρ' nm) (r : Rel ρ φ h w) (f : FR ρ φ fr tmps) :
    Rel ρ' (renE m φ) s.hp w ∧ FR ρ' (renE m φ) s.frame tmps ∧ ∀ id x, (s.hp.get id).isSome = true → renE m φ id = some x → ∃ id0, (h.get id0).isSome = true ∧ φ id0 = some x := by
  unfold fitsL at hf
  rw [Bool.and_eq_true, Bool.and_eq_true, Bool.and_eq_true, List.all_eq_true, List.all_eq_true, List.all_eq_true] at hf
  obtain ⟨⟨⟨hd, hnx⟩, hfr⟩, hmem⟩ := hf
  have src : ∀ {id : Bid} {b' : AB}, s.hp.get id = some b' → ∃ a b, (a, id) ∈ m ∧ h.get a = some b ∧ absB m nm b b' = true := by
    intro id b' hb
    have hm := hmem (id, b') (memOf_get (show get3 (memOf s.mem) id = some b' from hb))
    rw [List.any_eq_true] at hm
    obtain ⟨y, hy, h1⟩ := hm
    rw [Bool.and_eq_true, decide_eq_true_eq] at h1
    obtain ⟨h2, h3⟩ := h1
    split at h3
    · rename_i b hb2
      obtain ⟨ya, yb⟩ := y
      cases h2
      exact ⟨ya, b, hy, hb2, h3⟩
    · cases h3
  refine ⟨⟨⟨?_, ?_, ?_, ?_, ?_, ?_⟩, ?_⟩, ?_, ?_⟩
  · intro id c' hc
    obtain ⟨a, b, h1, h2, h3⟩ := src hc
    cases b with
    | map l => cases h3
    | row d y => cases h3
    | cells c =>
      obtain ⟨bb, base, arr, T, k1, k2, k3, k4⟩ := r.cells a c h2
      have hlen := (all2_ok (R := fun _ _ => True) (fun _ _ _ => trivial) (show all2 (absC m nm) c c' = true from h3)).length
      refine ⟨bb, base, arr, T, by rw [renE_mem hd h1]; exact k1, k2, by omega, fun o x' hx => ?_⟩
      have hlt : o < c.length := by rw [hlen]; exact (List.getElem?_eq_some_iff.1 hx).1
      obtain ⟨v, k5, k6⟩ := k4 o c[o] (List.getElem?_eq_getElem hlt)
      refine ⟨v, k5, ?_⟩
      have hrel := all2_ok (R := fun x y => absC m nm x y = true) (fun _ _ e => e) (show all2 (absC m nm) c c' = true from h3)
      obtain ⟨y, hy1, hy2⟩ := hrel.get (List.getElem?_eq_getElem hlt)
      rw [hx] at hy1
      cases hy1
      exact absC_ok hd hr hy2 k6
  · intro id l' hc
    obtain ⟨a, b, h1, h2, h3⟩ := src hc
    cases b with
    | cells c => cases h3
    | row d y => cases h3
    | map l =>
      obtain ⟨bb, es, cl, k1, k2, k3⟩ := r.maps a l h2
      refine ⟨bb, es, cl, by rw [renE_mem hd h1]; exact k1, k2, ?_⟩
      have e : all2 (fun (x y : AV × AV) => absV m nm x.1 y.1 && absV m nm x.2 y.2) l l' = true := h3
      have go : ∀ {l l' : List (AV × AV)} {es : List MapEntry}, all2 (fun (x y : AV × AV) => absV m nm x.1 y.1 && absV m nm x.2 y.2) l l' = true → All2 (fun (e : AV × AV) (x : MapEntry) => VV ρ φ e.1 x.key ∧ VV ρ φ e.2 x.val) l es → All2 (fun (e : AV × AV) (x : MapEntry) => VV ρ' (renE m φ) e.1 x.key ∧ VV ρ' (renE m φ) e.2 x.val) l' es := by
        intro l
        induction l with
        | nil =>
          intro l' es e h
          cases h
          cases l' with
          | nil => exact .nil
          | cons y l' => cases e
        | cons x l ih =>
          intro l' es e h
          cases l' with
          | nil => cases e
          | cons y l' =>
            have e' : ((absV m nm x.1 y.1 && absV m nm x.2 y.2) && all2 (fun (x y : AV × AV) => absV m nm x.1 y.1 && absV m nm x.2 y.2) l l') = true := e
            rw [Bool.and_eq_true, Bool.and_eq_true] at e'
            cases h with
            | cons q1 q2 => exact .cons ⟨absV_ok hd hr e'.1.1 q1.1, absV_ok hd hr e'.1.2 q1.2⟩ (ih e'.2 q2)
      exact go e k3
  · intro id d y hc
    obtain ⟨a, b, h1, h2, h3⟩ := src hc
    cases b <;> cases h3
  · intro i j x y hi hj hx hy he
    obtain ⟨bi, hbi⟩ := Option.isSome_iff_exists.1 hi
    obtain ⟨bj, hbj⟩ := Option.isSome_iff_exists.1 hj
    obtain ⟨a, b, h1, h2, h3⟩ := src hbi
    obtain ⟨a', b', h1', h2', h3'⟩ := src hbj
    rw [renE_mem hd h1] at hx
    rw [renE_mem hd h1'] at hy
    have := r.inj a a' x y (by rw [h2]; rfl) (by rw [h2']; rfl) hx hy he
    have := (distN_ok hd _ h1 _ h1').2 this
    exact congrArg Prod.snd this
  · intro id hi
    obtain ⟨b, hb⟩ := Option.isSome_iff_exists.1 hi
    obtain ⟨a, b', h1, _⟩ := src hb
    show id.num < s.next.num
    exact Nat.le_of_ble_eq_true (show Nat.blt id.num s.next.num = true from hnx (a, id) h1)
  · intro id hi
    show renM m φ id = none
    unfold renM
    cases hfi : m.find? fun x => decide (x.2 = id) with
    | none => rfl
    | some x =>
      exfalso
      have h1 := List.mem_of_find?_eq_some hfi
      have h2 : x.2 = id := of_decide_eq_true (List.find?_some (p := fun (x : Bid × Bid) => decide (x.2 = id)) hfi)
      have h3 : x.2.num < s.next.num := Nat.le_of_ble_eq_true (hnx x h1)
      rw [h2] at h3
      have : s.next.num ≤ id.num := hi
      omega
  · refine ⟨fun b x hb => r.frz.zin b x (by rw [← hr.z]; exact hb), ?_⟩
    intro b x hb
    refine ⟨(r.frz.at_ b x hb).1, fun id y hi hy => ?_⟩
    obtain ⟨B, hB⟩ := Option.isSome_iff_exists.1 hi
    obtain ⟨a, b', h1, h2, _⟩ := src hB
    rw [renE_mem hd h1] at hy
    exact (r.frz.at_ b x hb).2 a y (by rw [h2]; rfl) hy
  · intro i j v hv
    have hm := hfr (i, j, v) (frame_get hv)
    dsimp only at hm
    split at hm
    · rename_i u hu
      have := f i j u hu
      exact ⟨this.1, absV_ok hd hr hm this.2⟩
    · cases hm
  · intro id x hi hx
    obtain ⟨b, hb⟩ := Option.isSome_iff_exists.1 hi
    obtain ⟨a, b', h1, h2, _⟩ := src hb
    rw [renE_mem hd h1] at hx
    exact ⟨a, by rw [h2]; rfl, hx⟩
end Go.Proofs.YtjnfgapfhpihmaaGreat
