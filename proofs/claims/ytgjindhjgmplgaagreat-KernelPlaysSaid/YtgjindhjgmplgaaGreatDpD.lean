/-
  Deep values: rows read and written; the operations on them are what the model does. No function of the program is named here.
-/
import Derived.Test.YtgjindhjgmplgaaGreatDpA
import Derived.Laws.CopyRow
import Derived.Laws.Cells
import Derived.Laws.Slices
import Derived.Laws.Rows
import Derived.Laws.NewBlocks
import Derived.Below
import Derived.Laws.Entries
import Derived.Laws.StructEq
import Derived.Lib.SliceRun
import Derived.IntWalk
set_option linter.unusedVariables false
set_option linter.unusedSimpArgs false
section
set_option linter.constructorNameAsVariable false
namespace Go.Proofs.YtgjindhjgmplgaaGreat
inductive All2 {α β : Type} (R : α → β → Prop) : List α → List β → Prop where
  | nil : All2 R [] []
  | cons {x : α} {y : β} {l : List α} {m : List β} (h : R x y) (t : All2 R l m) : All2 R (x :: l) (y :: m)
namespace All2
variable {α β : Type} {R S : α → β → Prop}
theorem length {l : List α} {m : List β} (h : All2 R l m) : l.length = m.length := by
  induction h with
  | nil => rfl
  | cons _ _ ih => simp [ih]
theorem mono (hr : ∀ x y, R x y → S x y) {l : List α} {m : List β} (h : All2 R l m) : All2 S l m := by
  induction h with
  | nil => exact .nil
  | cons h _ ih => exact .cons (hr _ _ h) ih
theorem get {l : List α} {m : List β} (h : All2 R l m) {i : Nat} {x : α} (hx : l[i]? = some x) : ∃ y, m[i]? = some y ∧ R x y := by
  induction h generalizing i with
  | nil => simp at hx
  | cons h t ih =>
    cases i with
    | zero => simp at hx; subst hx; exact ⟨_, rfl, h⟩
    | succ i => simpa using ih (by simpa using hx)
theorem append {l l' : List α} {m m' : List β} (h : All2 R l m) (h' : All2 R l' m') : All2 R (l ++ l') (m ++ m') := by
  induction h with
  | nil => exact h'
  | cons h t ih => exact .cons h ih
theorem drop {l : List α} {m : List β} (h : All2 R l m) (n : Nat) : All2 R (l.drop n) (m.drop n) := by
  induction h generalizing n with
  | nil => simp; exact .nil
  | cons h t ih =>
    cases n with
    | zero => exact .cons h t
    | succ n => simpa using ih n
theorem take {l : List α} {m : List β} (h : All2 R l m) (n : Nat) : All2 R (l.take n) (m.take n) := by
  induction h generalizing n with
  | nil => simp; exact .nil
  | cons h t ih =>
    cases n with
    | zero => simp; exact .nil
    | succ n => simpa using .cons h (ih n)
theorem of_get {l : List α} {m : List β} (hl : l.length = m.length) (h : ∀ (i : Nat) x y, l[i]? = some x → m[i]? = some y → R x y) : All2 R l m := by
  induction l generalizing m with
  | nil => cases m with
    | nil => exact .nil
    | cons y m => simp at hl
  | cons x l ih => cases m with
    | nil => simp at hl
    | cons y m => exact .cons (h 0 x y rfl rfl) (ih (by simpa using hl) fun i a b ha hb => h (i + 1) a b (by simpa using ha) (by simpa using hb))
theorem set {l : List α} {m : List β} (h : All2 R l m) (i : Nat) {x : α} {y : β} (hxy : R x y) : All2 R (l.set i x) (m.set i y) := by
  induction h generalizing i with
  | nil => simp; exact .nil
  | cons h t ih =>
    cases i with
    | zero => exact .cons hxy t
    | succ i => exact .cons h (ih i)
theorem map {γ : Type} {f : γ → α} {l : List γ} {m : List β} (h : All2 (fun x y => R (f x) y) l m) : All2 R (l.map f) m := by
  induction h with
  | nil => exact .nil
  | cons h _ ih => exact .cons h ih
end All2
abbrev Emb := Nat → Option Value
abbrev Fz := Nat → Option Obj
def SlG (z : Fz) (n : Nat) (R : Row → List Value → Prop) (rows : List Row) (v : Value) : Prop :=
  ∃ p cap, v = .slice p rows.length cap ∧ rows.length ≤ cap ∧ (rows = [] ∨ ∃ b off arr T fz, p = some ⟨b, off, none⟩ ∧ z b = some (.cells arr T fz) ∧ ∀ (i : Nat) row, rows[i]? = some row → R row ((arr.toList.drop (off + i * n)).take n))
mutual
def CellD (z : Fz) : Kd → DV → Value → Prop
  | .b, d, v => ∃ x, d = .b x ∧ v = .bool x
  | .i k, d, v => ∃ n, d = .i n ∧ v = .int k n
  | .s, d, v => ∃ y, d = .s y ∧ v = .string y
  | .sl e, d, v => ∃ rows, d = .sl rows ∧ SlG z e.length (RowD z e) rows v
def RowD (z : Fz) : List Kd → Row → List Value → Prop
  | [], r, vs => r = [] ∧ vs = []
  | k :: s, r, vs => ∃ d r' v vs', r = d :: r' ∧ vs = v :: vs' ∧ CellD z k d v ∧ RowD z s r' vs'
end
def SlD (z : Fz) (e : Sh) (rows : List Row) (v : Value) : Prop := SlG z e.length (RowD z e) rows v
def Fz.le (z z' : Fz) : Prop := ∀ b x, z b = some x → z' b = some x
def Emb.le (φ φ' : Emb) : Prop := ∀ x v, φ x = some v → φ' x = some v
theorem SlG.le {z z' : Fz} (hz : Fz.le z z') {n : Nat} {R R' : Row → List Value → Prop} (hR : ∀ l vs, R l vs → R' l vs) {rows : List Row} {v : Value} (h : SlG z n R rows v) : SlG z' n R' rows v := by
  obtain ⟨p, cap, h1, h0, h2⟩ := h
  refine ⟨p, cap, h1, h0, ?_⟩
  rcases h2 with h2 | ⟨b, off, arr, T, fz, h3, h4, h5⟩
  · exact .inl h2
  · exact .inr ⟨b, off, arr, T, fz, h3, hz _ _ h4, fun i row hr => hR _ _ (h5 i row hr)⟩
mutual
theorem CellD.le {z z' : Fz} (hz : Fz.le z z') : ∀ (k : Kd) (d : DV) (v : Value), CellD z k d v → CellD z' k d v
  | .b, _, _, h => by simpa only [CellD] using h
  | .i _, _, _, h => by simpa only [CellD] using h
  | .s, _, _, h => by simpa only [CellD] using h
  | .sl e, _, _, h => by
    simp only [CellD] at h ⊢
    obtain ⟨rows, h1, h2⟩ := h
    exact ⟨rows, h1, h2.le hz (RowD.le hz e)⟩
theorem RowD.le {z z' : Fz} (hz : Fz.le z z') : ∀ (s : List Kd) (r : Row) (vs : List Value), RowD z s r vs → RowD z' s r vs
  | [], _, _, h => by simpa only [RowD] using h
  | k :: s, _, _, h => by
    simp only [RowD] at h ⊢
    obtain ⟨d, r', v, vs', h1, h2, h3, h4⟩ := h
    exact ⟨d, r', v, vs', h1, h2, CellD.le hz k _ _ h3, RowD.le hz s _ _ h4⟩
end
section
variable {z : Fz}
theorem RowD.cons {k : Kd} {s : Sh} {d : DV} {r : Row} {v : Value} {vs : List Value} (h : CellD z k d v) (t : RowD z s r vs) : RowD z (k :: s) (d :: r) (v :: vs) := by
  simp only [RowD]; exact ⟨d, r, v, vs, rfl, rfl, h, t⟩
theorem RowD.nil : RowD z [] [] [] := by simp [RowD]
theorem RowD.all : ∀ {s : Sh} {r : Row} {vs : List Value}, RowD z s r vs → r.length = s.length ∧ vs.length = s.length ∧ ∀ (j : Nat) k, s[j]? = some k → ∃ d v, r[j]? = some d ∧ vs[j]? = some v ∧ CellD z k d v
  | [], _, _, h => by
    simp only [RowD] at h
    obtain ⟨rfl, rfl⟩ := h
    exact ⟨rfl, rfl, fun j k hj => by simp at hj⟩
  | k :: s, _, _, h => by
    simp only [RowD] at h
    obtain ⟨d, r', v, vs', rfl, rfl, h3, h4⟩ := h
    obtain ⟨i1, i2, i3⟩ := RowD.all h4
    refine ⟨by simp [i1], by simp [i2], fun j q hj => ?_⟩
    cases j with
    | zero => simp at hj; subst hj; exact ⟨d, v, rfl, rfl, h3⟩
    | succ j => simpa using i3 j q (by simpa using hj)
theorem RowD.of : ∀ {s : Sh} {r : Row} {vs : List Value}, r.length = s.length → vs.length = s.length → (∀ (j : Nat) k d v, s[j]? = some k → r[j]? = some d → vs[j]? = some v → CellD z k d v) → RowD z s r vs
  | [], r, vs, h1, h2, _ => by
    rw [List.eq_nil_of_length_eq_zero h1, List.eq_nil_of_length_eq_zero h2]; exact RowD.nil
  | k :: s, r, vs, h1, h2, h => by
    cases r with
    | nil => simp at h1
    | cons d r =>
      cases vs with
      | nil => simp at h2
      | cons v vs => exact RowD.cons (h 0 k d v rfl rfl rfl) (RowD.of (by simpa using h1) (by simpa using h2) fun j q a b hq ha hb => h (j + 1) q a b (by simpa using hq) (by simpa using ha) (by simpa using hb))
theorem RowD.drop {s : Sh} {r : Row} {vs : List Value} (h : RowD z s r vs) (n : Nat) : RowD z (s.drop n) (r.drop n) (vs.drop n) := by
  obtain ⟨h1, h2, h3⟩ := h.all
  refine RowD.of (by simp [h1]) (by simp [h2]) fun j k d v hk hd hv => ?_
  rw [List.getElem?_drop] at hk hd hv
  obtain ⟨d', v', e1, e2, e3⟩ := h3 _ _ hk
  rw [hd] at e1; rw [hv] at e2; cases e1; cases e2; exact e3
theorem RowD.take {s : Sh} {r : Row} {vs : List Value} (h : RowD z s r vs) (n : Nat) : RowD z (s.take n) (r.take n) (vs.take n) := by
  obtain ⟨h1, h2, h3⟩ := h.all
  refine RowD.of (by simp [h1]) (by simp [h2]) fun j k d v hk hd hv => ?_
  rcases Nat.lt_or_ge j n with hj | hj
  · rw [List.getElem?_take_of_lt hj] at hk hd hv
    obtain ⟨d', v', e1, e2, e3⟩ := h3 _ _ hk
    rw [hd] at e1; rw [hv] at e2; cases e1; cases e2; exact e3
  · rw [List.getElem?_take_eq_none hj] at hk; cases hk
theorem RowD.append {s s' : Sh} {r r' : Row} {vs vs' : List Value} (h : RowD z s r vs) (h' : RowD z s' r' vs') : RowD z (s ++ s') (r ++ r') (vs ++ vs') := by
  obtain ⟨h1, h2, h3⟩ := h.all
  obtain ⟨i1, i2, i3⟩ := h'.all
  refine RowD.of (by simp [h1, i1]) (by simp [h2, i2]) fun j k d v hk hd hv => ?_
  rcases Nat.lt_or_ge j s.length with hj | hj
  · rw [List.getElem?_append_left hj] at hk
    rw [List.getElem?_append_left (by omega)] at hd hv
    obtain ⟨d', v', e1, e2, e3⟩ := h3 _ _ hk
    rw [hd] at e1; rw [hv] at e2; cases e1; cases e2; exact e3
  · rw [List.getElem?_append_right hj] at hk
    rw [List.getElem?_append_right (by omega), h1] at hd
    rw [List.getElem?_append_right (by omega), h2] at hv
    obtain ⟨d', v', e1, e2, e3⟩ := i3 _ _ hk
    rw [hd] at e1; rw [hv] at e2; cases e1; cases e2; exact e3
theorem RowD.set {s : Sh} {r : Row} {vs : List Value} (h : RowD z s r vs) {j : Nat} {k : Kd} (hk : s[j]? = some k) {d : DV} {v : Value} (hd : CellD z k d v) : RowD z s (r.set j d) (vs.set j v) := by
  obtain ⟨h1, h2, h3⟩ := h.all
  refine RowD.of (by simp [h1]) (by simp [h2]) fun i q a b hq ha hb => ?_
  by_cases hij : j = i
  · subst hij
    have hlt : j < s.length := (List.getElem?_eq_some_iff.1 hk).1
    rw [List.getElem?_set_self (by omega)] at ha hb
    rw [hk] at hq
    cases ha; cases hb; cases hq; exact hd
  · rw [List.getElem?_set_ne hij] at ha hb
    obtain ⟨d', v', e1, e2, e3⟩ := h3 _ _ hq
    rw [ha] at e1; rw [hb] at e2; cases e1; cases e2; exact e3
end
mutual
theorem Kd.beq_eq : ∀ (x y : Kd), Kd.beq x y = true → x = y
  | .b, y, h => by cases y <;> first | rfl | (simp [Kd.beq] at h)
  | .i k, y, h => by cases y <;> first | (simp [Kd.beq] at h; done) | (simp [Kd.beq] at h; rw [h])
  | .s, y, h => by cases y <;> first | rfl | (simp [Kd.beq] at h)
  | .sl e, y, h => by
    cases y with
    | sl e' => rw [shEq_eq e e' (by simpa [Kd.beq] using h)]
    | _ => simp [Kd.beq] at h
theorem shEq_eq : ∀ (x y : List Kd), shEq x y = true → x = y
  | [], y, h => by cases y <;> first | rfl | (simp [shEq] at h)
  | a :: l, y, h => by
    cases y with
    | nil => simp [shEq] at h
    | cons b m =>
      simp only [shEq, Bool.and_eq_true] at h
      rw [Kd.beq_eq a b h.1, shEq_eq l m h.2]
end
def PartV (p : Option Addr) (l h cap s : Nat) (v : Value) : Prop := ∃ q, v = .slice q (h - l) (cap - l) ∧ q.map (·.block) = p.map (·.block) ∧ (l < cap → q = p.map (·.add (l * s))) ∧ ((∀ a, p = some a → a.spot = none) → ∀ b, q = some b → b.spot = none) ∧ ∀ a, p = some a → ∃ i, i ≤ cap ∧ q = some (a.add (i * s))
def CV (φ : Emb) (z : Fz) (c : DC) (v : Value) : Prop :=
  match c with
  | .b x => v = .bool x
  | .i k n => v = .int k n
  | .s y => v = .string y
  | .sn => v = .slice none 0 0
  | .sl e l => SlD z e l v
  | .cl e l => SlD z e l v ∧ ∃ p, v = .slice p l.length l.length
  | .pv x off => ∃ b, φ x = some (.pointer (some ⟨b, 0, none⟩)) ∧ v = .pointer (some ⟨b, off, none⟩)
  | .pf e r off => ∃ b o arr T fz, v = .pointer (some ⟨b, o + off, none⟩) ∧ z b = some (.cells arr T fz) ∧ RowD z e r ((arr.toList.drop o).take e.length)
  | .pw x e i off => ∃ b o n cap, φ x = some (.slice (some ⟨b, o, none⟩) n cap) ∧ v = .pointer (some ⟨b, o + i * e.length + off, none⟩)
  | .ow x => φ x = some v ∧ ∃ p n cap, v = .slice p n cap
  | .fn f l => ∃ xs : List Value, v = .func (.func f) #[] xs.toArray ∧ All2 (fun x u => ∃ b, φ x = some (.pointer (some ⟨b, 0, none⟩)) ∧ u = .pointer (some ⟨b, 0, none⟩)) l xs
  | .pn => v = .pointer none
  | .fz => v = .nilFunc
  | .bp x e lo hi => ∃ (p : Option Addr) (n cap l h : Nat), φ x = some (.slice p n cap) ∧ lo = l ∧ hi = h ∧ l ≤ h ∧ h ≤ cap ∧ PartV p l h cap e.length v
  | .mp x => φ x = some v ∧ ∃ b, v = .map (some b)
  | .oe x n => ∃ b, φ x = some (.pointer (some ⟨b, 0, none⟩)) ∧ v = .slice (some ⟨b, 0, none⟩) n n
  | .fb f x => ∃ b, φ x = some (.pointer (some ⟨b, 0, none⟩)) ∧ v = .func (.func f) #[.pointer (some ⟨b, 0, none⟩)] #[]
  | .un => v.oneCell' = true
def VS (φ : Emb) (z : Fz) (x : V) (v : Value) : Prop :=
  match x with
  | .c c => CV φ z c v
  | .r s r => ∃ vs : List Value, v = .agg vs.toArray ∧ RowD z s r vs
  | .a l => ∃ vs : List Value, v = .agg vs.toArray ∧ All2 (CV φ z) l vs
  | .t _ => False
def VR (φ : Emb) (z : Fz) (x : V) (v : Value) : Prop :=
  match x with
  | .t l => ∃ vs : List Value, v = .tuple vs.toArray ∧ All2 (VS φ z) l vs
  | x => VS φ z x v
section
variable {φ φ' : Emb} {z z' : Fz}
theorem Fz.le.refl (z : Fz) : Fz.le z z := fun _ _ h => h
theorem Emb.le.refl (φ : Emb) : Emb.le φ φ := fun _ _ h => h
theorem Fz.le.trans {a b c : Fz} (h : Fz.le a b) (k : Fz.le b c) : Fz.le a c := fun x v e => k x v (h x v e)
theorem Emb.le.trans {a b c : Emb} (h : Emb.le a b) (k : Emb.le b c) : Emb.le a c := fun x v e => k x v (h x v e)
theorem CV.le (hφ : Emb.le φ φ') (hz : Fz.le z z') {c : DC} {v : Value} (h : CV φ z c v) : CV φ' z' c v := by
  cases c with
  | sl e l => exact SlG.le hz (RowD.le hz e) h
  | cl e l => exact ⟨SlG.le hz (RowD.le hz e) h.1, h.2⟩
  | pv x off => obtain ⟨b, h1, h2⟩ := h; exact ⟨b, hφ _ _ h1, h2⟩
  | pf e r off => obtain ⟨b, o, arr, T, fz, h1, h2, h3⟩ := h; exact ⟨b, o, arr, T, fz, h1, hz _ _ h2, RowD.le hz e _ _ h3⟩
  | pw x e i off => obtain ⟨b, o, n, cap, h1, h2⟩ := h; exact ⟨b, o, n, cap, hφ _ _ h1, h2⟩
  | ow x => exact ⟨hφ _ _ h.1, h.2⟩
  | bp x e lo hi => obtain ⟨p, n, cap, l, u, h1, h2⟩ := h; exact ⟨p, n, cap, l, u, hφ _ _ h1, h2⟩
  | mp x => exact ⟨hφ _ _ h.1, h.2⟩
  | oe x n => obtain ⟨b, h1, h2⟩ := h; exact ⟨b, hφ _ _ h1, h2⟩
  | fb f x => obtain ⟨b, h1, h2⟩ := h; exact ⟨b, hφ _ _ h1, h2⟩
  | fn f l => obtain ⟨xs, h1, h2⟩ := h; exact ⟨xs, h1, h2.mono fun x u ⟨b, h3, h4⟩ => ⟨b, hφ _ _ h3, h4⟩⟩
  | _ => exact h
theorem VS.le (hφ : Emb.le φ φ') (hz : Fz.le z z') {c : V} {v : Value} (h : VS φ z c v) : VS φ' z' c v := by
  cases c with
  | c c => exact CV.le hφ hz h
  | r s r => obtain ⟨vs, h1, h2⟩ := h; exact ⟨vs, h1, RowD.le hz s _ _ h2⟩
  | a l => obtain ⟨vs, h1, h2⟩ := h; exact ⟨vs, h1, h2.mono fun _ _ => CV.le hφ hz⟩
  | t l => exact h
theorem VR.le (hφ : Emb.le φ φ') (hz : Fz.le z z') {c : V} {v : Value} (h : VR φ z c v) : VR φ' z' c v := by
  cases c with
  | t l => obtain ⟨vs, h1, h2⟩ := h; exact ⟨vs, h1, h2.mono fun _ _ => VS.le hφ hz⟩
  | c c => exact VS.le hφ hz (c := .c c) h
  | r s r => exact VS.le hφ hz (c := .r s r) h
  | a l => exact VS.le hφ hz (c := .a l) h
theorem VS.vr {x : V} {v : Value} (h : VS φ z x v) : VR φ z x v := by
  cases x with
  | t l => exact h.elim
  | _ => exact h
theorem CV.one {c : DC} {v : Value} (h : CV φ z c v) : v.oneCell' = true := by
  cases c with
  | b x => rw [show v = _ from h]; rfl
  | i k n => rw [show v = _ from h]; rfl
  | s y => rw [show v = _ from h]; rfl
  | sn => rw [show v = _ from h]; rfl
  | sl e l => obtain ⟨p, cap, rfl, _⟩ := h; rfl
  | cl e l => obtain ⟨p, rfl⟩ := h.2; rfl
  | pv x off => obtain ⟨b, _, rfl⟩ := h; rfl
  | pf e r off => obtain ⟨b, o, arr, T, fz, rfl, _⟩ := h; rfl
  | pw x e i off => obtain ⟨b, o, n, cap, _, rfl⟩ := h; rfl
  | ow x => obtain ⟨p, n, cap, rfl⟩ := h.2; rfl
  | bp x e lo hi => obtain ⟨p, n, cap, l, u, _, _, _, _, _, q, rfl, _⟩ := h; rfl
  | mp x => obtain ⟨b, rfl⟩ := h.2; rfl
  | oe x n => obtain ⟨b, _, rfl⟩ := h; rfl
  | fb f x => obtain ⟨b, _, rfl⟩ := h; rfl
  | un => exact h
  | fn f l => obtain ⟨xs, rfl, _⟩ := h; rfl
  | pn => rw [show v = _ from h]; rfl
  | fz => rw [show v = _ from h]; rfl
theorem cells_one {v : Value} (h : v.oneCell' = true) : v.cells = #[v] := by cases v <;> first | rfl | cases h
theorem CellD.one {k : Kd} {d : DV} {v : Value} (h : CellD z k d v) : v.oneCell' = true := by
  cases k <;> simp only [CellD] at h
  · obtain ⟨x, _, rfl⟩ := h; rfl
  · obtain ⟨x, _, rfl⟩ := h; rfl
  · obtain ⟨x, _, rfl⟩ := h; rfl
  · obtain ⟨x, _, p, cap, rfl, _⟩ := h; rfl
theorem RowD.ones {s : Sh} {r : Row} {vs : List Value} (h : RowD z s r vs) : ∀ v ∈ vs, v.oneCell' = true := by
  obtain ⟨_, h2, h3⟩ := h.all
  intro v hv
  obtain ⟨j, hj, rfl⟩ := List.getElem_of_mem hv
  obtain ⟨d, v', _, e2, e3⟩ := h3 j _ (List.getElem?_eq_getElem (h2 ▸ hj))
  rw [List.getElem?_eq_getElem hj] at e2
  cases e2
  exact e3.one
theorem CVs.ones {l : List DC} {vs : List Value} (h : All2 (CV φ z) l vs) : ∀ v ∈ vs, v.oneCell' = true := by
  induction h with
  | nil => simp
  | cons h _ ih =>
    intro v hv
    rcases List.mem_cons.1 hv with rfl | hv
    · exact h.one
    · exact ih v hv
theorem cellK_ok {k : Kd} {r : Row} {j : Nat} {d : DV} {v : Value} (hd : r[j]? = some d) (h : CellD z k d v) : CV φ z (cellK k r j) v := by
  have hr : rat r j = d := by unfold rat; rw [List.getD_eq_getElem?_getD, hd]; rfl
  cases k <;> simp only [CellD] at h
  · obtain ⟨x, rfl, rfl⟩ := h; show _ = _; rw [show rb r j = x by unfold rb; rw [hr]; rfl]
  · obtain ⟨x, rfl, rfl⟩ := h; show _ = _; rw [show ri r j = x by unfold ri; rw [hr]; rfl]
  · obtain ⟨x, rfl, rfl⟩ := h; show _ = _; rw [show rs r j = x by unfold rs; rw [hr]; rfl]
  · obtain ⟨x, rfl, h⟩ := h; show SlD z _ _ _; rw [show rl r j = x by unfold rl; rw [hr]; rfl]; exact h
theorem dvK_ok {k : Kd} {r : Row} {j : Nat} {d : DV} {v : Value} (hd : r[j]? = some d) (h : CellD z k d v) : dvK k r j = d := by
  have hr : rat r j = d := by unfold rat; rw [List.getD_eq_getElem?_getD, hd]; rfl
  cases k <;> simp only [CellD] at h <;> obtain ⟨x, rfl, _⟩ := h
  · simp [dvK, rb, hr, DV.gb]
  · simp [dvK, ri, hr, DV.gi]
  · simp [dvK, rs, hr, DV.gs]
  · simp [dvK, rl, hr, DV.gl]
theorem rowK_ok : ∀ {s : Sh} {r q : Row} {j : Nat} {vs : List Value}, RowD z s q vs → (∀ i, i < s.length → r[j + i]? = q[i]?) → rowK s r j = q
  | [], r, q, j, vs, h, _ => by simp only [RowD] at h; exact h.1.symm
  | k :: s, r, q, j, vs, h, hq => by
    simp only [RowD] at h
    obtain ⟨d, q', v, vs', rfl, rfl, h3, h4⟩ := h
    have h0 := hq 0 (by simp)
    simp at h0
    simp only [rowK]
    rw [dvK_ok h0 h3, rowK_ok h4 (fun i hi => by have := hq (i + 1) (by simpa using hi); rw [show j + 1 + i = j + (i + 1) by omega]; simpa using this)]
theorem cellsK_ok : ∀ {s : Sh} {r q : Row} {j : Nat} {vs : List Value}, RowD z s q vs → (∀ i, i < s.length → r[j + i]? = q[i]?) → All2 (CV φ z) (cellsK s r j) vs
  | [], r, q, j, vs, h, _ => by simp only [RowD] at h; rw [h.2]; exact .nil
  | k :: s, r, q, j, vs, h, hq => by
    simp only [RowD] at h
    obtain ⟨d, q', v, vs', rfl, rfl, h3, h4⟩ := h
    have h0 := hq 0 (by simp)
    simp at h0
    exact .cons (cellK_ok h0 h3) (cellsK_ok h4 (fun i hi => by have := hq (i + 1) (by simpa using hi); rw [show j + 1 + i = j + (i + 1) by omega]; simpa using this))
theorem expl_eq {s : Sh} {r : Row} {vs : List Value} (h : RowD z s r vs) : expl s r = r := by
  unfold expl
  cases Nat.ble s.length 16 with
  | false => rfl
  | true => exact rowK_ok h fun i _ => by rw [Nat.zero_add]
theorem subRow_ok {s : Sh} {r : Row} {vs : List Value} (h : RowD z s r vs) (off n : Nat) : subRow s r off n = (r.drop off).take n := by
  unfold subRow
  cases hb : (Nat.beq off 0 && Nat.beq n s.length) with
  | true =>
    rw [Bool.and_eq_true] at hb
    have h1 := Nat.eq_of_beq_eq_true hb.1
    have h2 := Nat.eq_of_beq_eq_true hb.2
    subst h1
    simp only [cond_true, List.drop_zero]
    rw [List.take_of_length_le]
    rw [h.all.1, h2]; exact Nat.le_refl _
  | false =>
    simp only [cond_false]
    cases Nat.ble n 16 with
    | false => rfl
    | true =>
      refine rowK_ok ((h.drop off).take n) fun i hi => ?_
      have hin : i < n := by simp at hi; omega
      rw [List.getElem?_take_of_lt hin, List.getElem?_drop]
end
end Go.Proofs.YtgjindhjgmplgaaGreat
end
section
set_option linter.constructorNameAsVariable false
namespace Go.Proofs.YtgjindhjgmplgaaGreat
section
variable {α : Type}
theorem look_cons (n x : Nat) (v : α) (l : List (Nat × α)) : look n ((x, v) :: l) = cond (Nat.beq x n) (some v) (look n l) := rfl
theorem look_same (n : Nat) (v : α) (l : List (Nat × α)) : look n ((n, v) :: l) = some v := by rw [look_cons, Nat.beq_refl]; rfl
theorem look_ne {n x : Nat} (h : x ≠ n) (v : α) (l : List (Nat × α)) : look n ((x, v) :: l) = look n l := by
  rw [look_cons]
  cases hb : Nat.beq x n with
  | false => rfl
  | true => exact absurd (Nat.eq_of_beq_eq_true hb) h
theorem drp_cons (n x : Nat) (v : α) (l : List (Nat × α)) : drp n ((x, v) :: l) = cond (Nat.beq x n) (drp n l) ((x, v) :: drp n l) := rfl
theorem look_drp_same (n : Nat) : ∀ (l : List (Nat × α)), look n (drp n l) = none
  | [] => rfl
  | (x, v) :: l => by
    rw [drp_cons]
    cases hb : Nat.beq x n with
    | true => exact look_drp_same n l
    | false =>
      show look n ((x, v) :: drp n l) = none
      rw [look_cons, hb]; exact look_drp_same n l
theorem look_drp_ne {n y : Nat} (h : y ≠ n) : ∀ (l : List (Nat × α)), look y (drp n l) = look y l
  | [] => rfl
  | (x, v) :: l => by
    rw [drp_cons]
    cases hb : Nat.beq x n with
    | true =>
      have := Nat.eq_of_beq_eq_true hb
      subst this
      show look y (drp x l) = _
      rw [look_drp_ne h l, look_ne (fun e => h e.symm)]
    | false =>
      show look y ((x, v) :: drp n l) = _
      rw [look_cons, look_cons, look_drp_ne h l]
theorem look_drp_some {n y : Nat} {l : List (Nat × α)} {v : α} (h : look y (drp n l) = some v) : y ≠ n ∧ look y l = some v := by
  by_cases hy : y = n
  · subst hy; rw [look_drp_same] at h; cases h
  · rw [look_drp_ne hy] at h; exact ⟨hy, h⟩
end
structure Gd where
  w0 : World
  ext : Nat → Prop
  z0 : Fz
def blkNo : Value → Option Nat
  | .pointer (some a) => some a.block
  | .slice (some a) _ _ => some a.block
  | .map (some b) => some b
  | _ => none
def Owns (φ : Emb) (m : Mem) (x b : Nat) : Prop := (∃ B, look x m = some B ∧ B.live = true) ∧ ∃ v, φ x = some v ∧ blkNo v = some b
def KVv (z : Fz) (agg : Bool) (s : Sh) (r : Row) (v : Value) : Prop := RowD z s r v.cells.toList ∧ (agg = true → ∃ cs, v = .agg cs) ∧ (agg = false → v.oneCell' = true)
def BR (φ : Emb) (z : Fz) (w : World) (x : Nat) : Blk → Prop
  | .R s r => ∃ b arr T, φ x = some (.pointer (some ⟨b, 0, none⟩)) ∧ w.heap[b]? = some (.cells arr T (0, 0)) ∧ RowD z s r arr.toList
  | .E l => ∃ b arr T, φ x = some (.pointer (some ⟨b, 0, none⟩)) ∧ w.heap[b]? = some (.cells arr T (0, 0)) ∧ All2 (CV φ z) l arr.toList
  | .W e rows => (φ x = some (.slice none 0 0) ∧ rows = []) ∨ ∃ b off arr T cap, φ x = some (.slice (some ⟨b, off, none⟩) rows.length cap) ∧ rows.length ≤ cap ∧ off + cap * e.length ≤ arr.size ∧ w.heap[b]? = some (.cells arr T (0, 0)) ∧ ∀ (i : Nat) row, rows[i]? = some row → RowD z e row ((arr.toList.drop (off + i * e.length)).take e.length)
  | .Z e rows => ∃ v, φ x = some v ∧ (∃ p n cap, v = .slice p n cap) ∧ SlD z e rows v
  | .J e n l => (φ x = some (.slice none 0 0) ∧ l = [] ∧ n = 0) ∨ ∃ (b off : Nat) (arr : Array Value) (T : TypeId) (k : Nat), φ x = some (.slice (some ⟨b, off, none⟩) k l.length) ∧ n = k ∧ k ≤ l.length ∧ off + l.length * e.length ≤ arr.size ∧ w.heap[b]? = some (.cells arr T (0, 0)) ∧ ∀ (i : Nat) row, l[i]? = some (some row) → RowD z e row ((arr.toList.drop (off + i * e.length)).take e.length)
  | .P ka va ks vs l => ∃ (b : Nat) (es : Array MapEntry) (clock : Nat), φ x = some (.map (some b)) ∧ w.heap[b]? = some (.map es clock) ∧ All2 (fun p e => KVv z ka ks p.1 e.key ∧ KVv z va vs p.2 e.val) l es.toList
structure MR (G : Gd) (φ : Emb) (z : Fz) (m : Mem) (w : World) : Prop where
  blk : ∀ x B, look x m = some B → BR φ z w x B
  inj : ∀ x y b, Owns φ m x b → Owns φ m y b → x = y
  sep : ∀ x b, Owns φ m x b → z b = none
  low : ∀ x b, Owns φ m x b → G.w0.heap.size ≤ b ∨ G.ext b
  frz : ∀ b o, z b = some o → w.heap[b]? = some o
  zin : Fz.le G.z0 z
  znew : ∀ b o, z b = some o → G.z0 b = some o ∨ G.w0.heap.size ≤ b ∨ G.ext b
  old : ∀ b, b < G.w0.heap.size → ¬ G.ext b → w.heap[b]? = G.w0.heap[b]?
  size : G.w0.heap.size ≤ w.heap.size
  os : w.os = G.w0.os
  tape : w.tape = G.w0.tape
  output : w.output = G.w0.output
def Lt (φ : Emb) (nx : Nat) : Prop := ∀ x v, φ x = some v → x < nx
def Emb.add (φ : Emb) (x : Nat) (v : Value) : Emb := fun y => if y = x then some v else φ y
section
variable {G : Gd} {φ φ' : Emb} {z z' : Fz} {m : Mem} {w w' : World} {nx : Nat}
theorem Emb.add_same (φ : Emb) (x : Nat) (v : Value) : φ.add x v x = some v := by simp [Emb.add]
theorem Emb.add_ne {x y : Nat} (h : y ≠ x) (φ : Emb) (v : Value) : φ.add x v y = φ y := by simp [Emb.add, h]
theorem Lt.none (h : Lt φ nx) {x : Nat} (hx : nx ≤ x) : φ x = none := by
  cases hv : φ x with
  | none => rfl
  | some v => have := h x v hv; omega
def Dom (φ φ' : Emb) (nx nx' : Nat) : Prop := ∀ x v, φ' x = some v → φ x = some v ∨ (nx ≤ x ∧ x < nx')
theorem Dom.refl (φ : Emb) (nx : Nat) : Dom φ φ nx nx := fun _ _ h => .inl h
theorem Dom.add (φ : Emb) (nx : Nat) (v : Value) : Dom φ (φ.add nx v) nx (nx + 1) := by
  intro x u h
  by_cases hx : x = nx
  · exact .inr ⟨by omega, by omega⟩
  · rw [Emb.add_ne hx] at h; exact .inl h
theorem Lt.dom {nx' : Nat} (h : Lt φ nx) (d : Dom φ φ' nx nx') (hn : nx ≤ nx') : Lt φ' nx' := by
  intro x v hv
  rcases d x v hv with h1 | h1
  · have := h x v h1; omega
  · exact h1.2
theorem Lt.add (h : Lt φ nx) (v : Value) : Lt (φ.add nx v) (nx + 1) := by
  intro x u hu
  by_cases hx : x = nx
  · omega
  · rw [Emb.add_ne hx] at hu; have := h x u hu; omega
theorem Emb.le_add (h : φ nx = none) (v : Value) : Emb.le φ (φ.add nx v) := by
  intro x u hu
  by_cases hx : x = nx
  · subst hx; rw [h] at hu; cases hu
  · rw [Emb.add_ne hx]; exact hu
theorem BR.le (hφ : Emb.le φ φ') (hz : Fz.le z z') {x : Nat} {B : Blk} (h : BR φ z w x B) : BR φ' z' w x B := by
  cases B with
  | R s r => obtain ⟨b, arr, T, h1, h2, h3⟩ := h; exact ⟨b, arr, T, hφ _ _ h1, h2, RowD.le hz s _ _ h3⟩
  | E l => obtain ⟨b, arr, T, h1, h2, h3⟩ := h; exact ⟨b, arr, T, hφ _ _ h1, h2, h3.mono fun _ _ => CV.le hφ hz⟩
  | W e rows =>
    rcases h with ⟨h1, h2⟩ | ⟨b, off, arr, T, cap, h1, h2, h3, h4, h5⟩
    · exact .inl ⟨hφ _ _ h1, h2⟩
    · exact .inr ⟨b, off, arr, T, cap, hφ _ _ h1, h2, h3, h4, fun i row hr => RowD.le hz e _ _ (h5 i row hr)⟩
  | Z e rows => obtain ⟨v, h1, h2, h3⟩ := h; exact ⟨v, hφ _ _ h1, h2, SlG.le hz (RowD.le hz e) h3⟩
  | J e n l =>
    rcases h with ⟨h1, h2⟩ | ⟨b, off, arr, T, k, h1, h2, h3, h4, h5, h6⟩
    · exact .inl ⟨hφ _ _ h1, h2⟩
    · exact .inr ⟨b, off, arr, T, k, hφ _ _ h1, h2, h3, h4, h5, fun i row hr => RowD.le hz e _ _ (h6 i row hr)⟩
  | P ka va ks vs l => obtain ⟨b, es, clock, h1, h2, h3⟩ := h; exact ⟨b, es, clock, hφ _ _ h1, h2, h3.mono fun p e ⟨q1, q2⟩ => ⟨⟨RowD.le hz ks _ _ q1.1, q1.2⟩, ⟨RowD.le hz vs _ _ q2.1, q2.2⟩⟩⟩
theorem BR.world {x : Nat} {B : Blk} (h : BR φ z w x B) (k : B.live = true → ∀ b v, φ x = some v → blkNo v = some b → w'.heap[b]? = w.heap[b]?) : BR φ z w' x B := by
  cases B with
  | Z e rows => exact h
  | R s r => obtain ⟨b, arr, T, h1, h2, h3⟩ := h; exact ⟨b, arr, T, h1, (k rfl b _ h1 rfl).trans h2, h3⟩
  | E l => obtain ⟨b, arr, T, h1, h2, h3⟩ := h; exact ⟨b, arr, T, h1, (k rfl b _ h1 rfl).trans h2, h3⟩
  | W e rows =>
    rcases h with ⟨h1, h2⟩ | ⟨b, off, arr, T, cap, h1, h2, h3, h4, h5⟩
    · exact .inl ⟨h1, h2⟩
    · exact .inr ⟨b, off, arr, T, cap, h1, h2, h3, (k rfl b _ h1 rfl).trans h4, h5⟩
  | J e n l =>
    rcases h with ⟨h1, h2⟩ | ⟨b, off, arr, T, q, h1, h2, h3, h4, h5, h6⟩
    · exact .inl ⟨h1, h2⟩
    · exact .inr ⟨b, off, arr, T, q, h1, h2, h3, h4, (k rfl b _ h1 rfl).trans h5, h6⟩
  | P ka va ks vs l => obtain ⟨b, es, clock, h1, h2, h3⟩ := h; exact ⟨b, es, clock, h1, (k rfl b _ h1 rfl).trans h2, h3⟩
theorem BR.has {x : Nat} {B : Blk} (h : BR φ z w x B) : ∃ v, φ x = some v := by
  cases B with
  | R s r => obtain ⟨b, arr, T, h1, _⟩ := h; exact ⟨_, h1⟩
  | E l => obtain ⟨b, arr, T, h1, _⟩ := h; exact ⟨_, h1⟩
  | W e rows =>
    rcases h with ⟨h1, h2⟩ | ⟨b, off, arr, T, cap, h1, _⟩
    · exact ⟨_, h1⟩
    · exact ⟨_, h1⟩
  | J e n l =>
    rcases h with ⟨h1, h2⟩ | ⟨b, off, arr, T, q, h1, _⟩
    · exact ⟨_, h1⟩
    · exact ⟨_, h1⟩
  | P ka va ks vs l => obtain ⟨b, es, clock, h1, _⟩ := h; exact ⟨_, h1⟩
  | Z e rows => obtain ⟨v, h1, _⟩ := h; exact ⟨_, h1⟩
theorem BR.lt {x b : Nat} {B : Blk} {v : Value} (h : BR φ z w x B) (hl : B.live = true) (hv : φ x = some v) (hb : blkNo v = some b) : b < w.heap.size := by
  cases B with
  | Z e rows => cases hl
  | R s r =>
    obtain ⟨b', arr, T, h1, h2, _⟩ := h
    rw [hv] at h1; cases h1; cases hb
    exact (Array.getElem?_eq_some_iff.1 h2).1
  | E l =>
    obtain ⟨b', arr, T, h1, h2, _⟩ := h
    rw [hv] at h1; cases h1; cases hb
    exact (Array.getElem?_eq_some_iff.1 h2).1
  | W e rows =>
    rcases h with ⟨h1, h2⟩ | ⟨b', off, arr, T, cap, h1, _, _, h2, _⟩
    · rw [hv] at h1; cases h1; cases hb
    · rw [hv] at h1; cases h1; cases hb
      exact (Array.getElem?_eq_some_iff.1 h2).1
  | J e n l =>
    rcases h with ⟨h1, h2⟩ | ⟨b', off, arr, T, q, h1, _, _, _, h2, _⟩
    · rw [hv] at h1; cases h1; cases hb
    · rw [hv] at h1; cases h1; cases hb
      exact (Array.getElem?_eq_some_iff.1 h2).1
  | P ka va ks vs l =>
    obtain ⟨b', es, clock, h1, h2, _⟩ := h
    rw [hv] at h1; cases h1; cases hb
    exact (Array.getElem?_eq_some_iff.1 h2).1
theorem Owns.lt (r : MR G φ z m w) {x b : Nat} (h : Owns φ m x b) : b < w.heap.size := by
  obtain ⟨⟨B, hB, hl⟩, v, hv, hb⟩ := h
  exact (r.blk x B hB).lt hl hv hb
theorem Owns.sub {m' : Mem} (hm : ∀ x B, look x m' = some B → B.live = true → ∃ B', look x m = some B' ∧ B'.live = true) {x b : Nat} (h : Owns φ m' x b) : Owns φ m x b := by
  obtain ⟨⟨B, hB, hl⟩, h2⟩ := h
  exact ⟨hm x B hB hl, h2⟩
theorem MR.forget (r : MR G φ z m w) {m' : Mem} (hm : ∀ x B, look x m' = some B → look x m = some B) : MR G φ z m' w :=
  have k : ∀ x B, look x m' = some B → B.live = true → ∃ B', look x m = some B' ∧ B'.live = true := fun x B h hl => ⟨B, hm x B h, hl⟩
  ⟨fun x B h => r.blk x B (hm x B h), fun x y b h1 h2 => r.inj x y b (h1.sub k) (h2.sub k), fun x b h => r.sep x b (h.sub k), fun x b h => r.low x b (h.sub k), r.frz, r.zin, r.znew, r.old, r.size, r.os, r.tape, r.output⟩
theorem MR.dropped (r : MR G φ z m w) (y : Nat) : MR G φ z (drp y m) w := r.forget fun x B h => (look_drp_some h).2
theorem MR.same (r : MR G φ z m w) (hh : w'.heap = w.heap) (h1 : w'.os = w.os) (h2 : w'.tape = w.tape) (h3 : w'.output = w.output) : MR G φ z m w' :=
  ⟨fun x B h => (r.blk x B h).world fun _ _ _ _ _ => by rw [hh], r.inj, r.sep, r.low, fun b o h => by rw [hh]; exact r.frz b o h, r.zin, r.znew, fun b h k => by rw [hh]; exact r.old b h k, by rw [hh]; exact r.size, h1.trans r.os, h2.trans r.tape, h3.trans r.output⟩
theorem MR.new (r : MR G φ z m w) (hn : φ nx = none) {v : Value} {B : Blk} {o : Option Obj} (hh : w'.heap = match o with | some o => w.heap.push o | none => w.heap) (hv : blkNo v = o.map fun _ => w.heap.size)
    (h1 : w'.os = w.os) (h2 : w'.tape = w.tape) (h3 : w'.output = w.output) (hB : BR (φ.add nx v) z w' nx B) : MR G (φ.add nx v) z ((nx, B) :: m) w' := by
  have hle := Emb.le_add hn v
  have hkeep : ∀ g, g < w.heap.size → w'.heap[g]? = w.heap[g]? := by
    intro g hg
    rw [hh]
    cases o with
    | none => rfl
    | some o => rw [Array.getElem?_push_lt hg, Array.getElem?_eq_getElem hg]
  have hsz : w.heap.size ≤ w'.heap.size := by
    rw [hh]
    cases o with
    | none => exact Nat.le_refl _
    | some o => simp
  have old : ∀ x B', x ≠ nx → look x ((nx, B) :: m) = some B' → look x m = some B' := fun x B' hx h => by rw [look_ne (fun e => hx e.symm)] at h; exact h
  have own : ∀ x b, Owns (φ.add nx v) ((nx, B) :: m) x b → (x = nx ∧ b = w.heap.size ∧ o.isSome = true) ∨ (x ≠ nx ∧ Owns φ m x b) := by
    intro x b ⟨⟨B', hB', hl⟩, u, hu, hb⟩
    by_cases hx : x = nx
    · subst hx
      rw [Emb.add_same] at hu
      cases hu
      rw [hv] at hb
      cases o with
      | none => cases hb
      | some o => cases hb; exact .inl ⟨rfl, rfl, rfl⟩
    · rw [Emb.add_ne hx] at hu
      exact .inr ⟨hx, ⟨B', old x B' hx hB', hl⟩, u, hu, hb⟩
  refine ⟨?_, ?_, ?_, ?_, ?_, r.zin, r.znew, ?_, Nat.le_trans r.size hsz, h1.trans r.os, h2.trans r.tape, h3.trans r.output⟩
  · intro x B' h
    by_cases hx : x = nx
    · subst hx; rw [look_same] at h; cases h; exact hB
    · have := old x B' hx h
      refine ((r.blk x B' this).le hle (Fz.le.refl z)).world fun hl b u hu hb => hkeep b ?_
      rw [Emb.add_ne hx] at hu
      exact (r.blk x B' this).lt hl hu hb
  · intro x y b hx hy
    rcases own x b hx with ⟨e1, e2, _⟩ | ⟨e1, e2⟩ <;> rcases own y b hy with ⟨e3, e4, _⟩ | ⟨e3, e4⟩
    · rw [e1, e3]
    · have := e4.lt r; omega
    · have := e2.lt r; omega
    · exact r.inj x y b e2 e4
  · intro x b hx
    rcases own x b hx with ⟨e1, e2, _⟩ | ⟨e1, e2⟩
    · cases hz : z b with
      | none => rfl
      | some q => have := (Array.getElem?_eq_some_iff.1 (r.frz b q hz)).1; omega
    · exact r.sep x b e2
  · intro x b hx
    rcases own x b hx with ⟨e1, e2, _⟩ | ⟨e1, e2⟩
    · have := r.size; exact .inl (by omega)
    · exact r.low x b e2
  · intro b q h
    have := r.frz b q h
    rw [hkeep b (Array.getElem?_eq_some_iff.1 this).1]; exact this
  · intro b hb hne
    rw [hkeep b (by have := r.size; omega)]; exact r.old b hb hne
theorem MR.upd (r : MR G φ z m w) {x b : Nat} {B B' : Blk} (hx : look x m = some B) (hl : B.live = true) {v : Value} (hv : φ x = some v) (hb : blkNo v = some b) (hkeep : ∀ g, g ≠ b → w'.heap[g]? = w.heap[g]?) (hs : w'.heap.size = w.heap.size)
    (h1 : w'.os = w.os) (h2 : w'.tape = w.tape) (h3 : w'.output = w.output) (hB : BR φ z w' x B') : MR G φ z (putM x B' m) w' := by
  have hox : Owns φ m x b := ⟨⟨B, hx, hl⟩, v, hv, hb⟩
  have sub : ∀ y B1, look y (putM x B' m) = some B1 → B1.live = true → ∃ B2, look y m = some B2 ∧ B2.live = true := by
    intro y B1 h hl1
    by_cases hy : y = x
    · subst hy; exact ⟨B, hx, hl⟩
    · unfold putM at h; rw [look_ne (fun e => hy e.symm), look_drp_ne hy] at h; exact ⟨B1, h, hl1⟩
  refine ⟨?_, fun y u g k1 k2 => r.inj y u g (k1.sub sub) (k2.sub sub), fun y g k => r.sep y g (k.sub sub), fun y g k => r.low y g (k.sub sub), ?_, r.zin, r.znew, ?_, by rw [hs]; exact r.size, h1.trans r.os, h2.trans r.tape, h3.trans r.output⟩
  · intro y B1 h
    by_cases hy : y = x
    · subst hy; unfold putM at h; rw [look_same] at h; cases h; exact hB
    · unfold putM at h; rw [look_ne (fun e => hy e.symm), look_drp_ne hy] at h
      refine (r.blk y B1 h).world fun hl1 g u hu hg => hkeep g ?_
      rintro rfl
      exact hy (r.inj y x g ⟨⟨B1, h, hl1⟩, u, hu, hg⟩ hox)
  · intro g q h
    rw [hkeep g ?_]; exact r.frz g q h
    rintro rfl
    rw [r.sep x g hox] at h; cases h
  · intro g hg hne
    rw [hkeep g ?_]; exact r.old g hg hne
    rintro rfl
    rcases r.low x g hox with h | h
    · omega
    · exact hne h
theorem MR.rename (r : MR G φ z m w) (hn : φ nx = none) {x b : Nat} {B B' : Blk} (hx : look x m = some B) (hl : B.live = true) {v v' : Value} (hv : φ x = some v) (hb : blkNo v = some b) (hb' : blkNo v' = some b) (hkeep : ∀ g, g ≠ b → w'.heap[g]? = w.heap[g]?) (hs : w'.heap.size = w.heap.size)
    (h1 : w'.os = w.os) (h2 : w'.tape = w.tape) (h3 : w'.output = w.output) (hB : BR (φ.add nx v') z w' nx B') : MR G (φ.add nx v') z ((nx, B') :: drp x m) w' := by
  have hle := Emb.le_add hn v'
  have hox : Owns φ m x b := ⟨⟨B, hx, hl⟩, v, hv, hb⟩
  have hxn : x ≠ nx := by rintro rfl; rw [hn] at hv; cases hv
  have old : ∀ y B1, y ≠ nx → look y ((nx, B') :: drp x m) = some B1 → y ≠ x ∧ look y m = some B1 := fun y B1 hy h => by rw [look_ne (fun e => hy e.symm)] at h; exact look_drp_some h
  have own : ∀ y g, Owns (φ.add nx v') ((nx, B') :: drp x m) y g → (y = nx ∧ g = b) ∨ (y ≠ nx ∧ y ≠ x ∧ Owns φ m y g) := by
    intro y g ⟨⟨B1, hB1, hl1⟩, u, hu, hg⟩
    by_cases hy : y = nx
    · subst hy
      rw [Emb.add_same] at hu
      cases hu
      rw [hb'] at hg; cases hg
      exact .inl ⟨rfl, rfl⟩
    · rw [Emb.add_ne hy] at hu
      have := old y B1 hy hB1
      exact .inr ⟨hy, this.1, ⟨B1, this.2, hl1⟩, u, hu, hg⟩
  have notb : ∀ y g, y ≠ x → Owns φ m y g → g ≠ b := fun y g hy h e => hy (r.inj y x b (e ▸ h) hox)
  refine ⟨?_, ?_, ?_, ?_, ?_, r.zin, r.znew, ?_, by rw [hs]; exact r.size, h1.trans r.os, h2.trans r.tape, h3.trans r.output⟩
  · intro y B1 h
    by_cases hy : y = nx
    · subst hy; rw [look_same] at h; cases h; exact hB
    · have hm := old y B1 hy h
      refine ((r.blk y B1 hm.2).le hle (Fz.le.refl z)).world fun hl1 g u hu hg => hkeep g ?_
      rw [Emb.add_ne hy] at hu
      exact notb y g hm.1 ⟨⟨B1, hm.2, hl1⟩, u, hu, hg⟩
  · intro y u g k1 k2
    rcases own y g k1 with ⟨e1, e2⟩ | ⟨e1, e2, e3⟩ <;> rcases own u g k2 with ⟨f1, f2⟩ | ⟨f1, f2, f3⟩
    · rw [e1, f1]
    · exact absurd e2 (notb u g f2 f3)
    · exact absurd f2 (notb y g e2 e3)
    · exact r.inj y u g e3 f3
  · intro y g k
    rcases own y g k with ⟨e1, e2⟩ | ⟨e1, e2, e3⟩
    · rw [e2]; exact r.sep x b hox
    · exact r.sep y g e3
  · intro y g k
    rcases own y g k with ⟨e1, e2⟩ | ⟨e1, e2, e3⟩
    · rw [e2]; exact r.low x b hox
    · exact r.low y g e3
  · intro g q h
    rw [hkeep g ?_]; exact r.frz g q h
    rintro rfl
    rw [r.sep x g hox] at h; cases h
  · intro g hg hne
    rw [hkeep g ?_]; exact r.old g hg hne
    rintro rfl
    rcases r.low x g hox with h | h
    · omega
    · exact hne h
end
def FR (φ : Emb) (z : Fz) (fr : Frs) (tmps : Array Value) : Prop := ∀ t v, look t fr = some v → t < tmps.size ∧ VR φ z v (tmps.getD t undef)
section
variable {φ φ' : Emb} {z z' : Fz} {fr : Frs} {a : Act}
theorem FR.le {tmps : Array Value} (h : FR φ z fr tmps) (hφ : Emb.le φ φ') (hz : Fz.le z z') : FR φ' z' fr tmps := fun t v hv => ⟨(h t v hv).1, (h t v hv).2.le hφ hz⟩
theorem dcOf_ok {v : Value} {c : DC} (e : dcOf v = some c) : CV φ z c v := by
  unfold dcOf at e
  split at e <;> first | (cases e; rfl) | cases e
theorem dcsOf_ok : ∀ {vs : List Value} {l : List DC}, dcsOf vs = some l → All2 (CV φ z) l vs
  | [], l, e => by cases e; exact .nil
  | v :: vs, l, e => by
    simp only [dcsOf] at e
    split at e
    · rename_i c cs h1 h2
      cases e
      exact .cons (dcOf_ok h1) (dcsOf_ok h2)
    · cases e
theorem map_some {α β : Type} {f : α → β} {o : Option α} {b : β} (e : o.map f = some b) : ∃ x, o = some x ∧ b = f x := by
  cases o with
  | none => cases e
  | some x => cases e; exact ⟨x, rfl, rfl⟩
theorem vOf_ok {v : Value} {x : V} (e : vOf v = some x) : VR φ z x v := by
  unfold vOf at e
  split at e
  · rename_i cs
    obtain ⟨l, h1, rfl⟩ := map_some e
    exact ⟨cs.toList, by simp, dcsOf_ok h1⟩
  · rename_i vs
    cases hb : Nat.beq vs.size 0 with
    | false => rw [hb] at e; cases e
    | true =>
      rw [hb] at e
      have hx : vs = #[] := Array.eq_empty_of_size_eq_zero (Nat.eq_of_beq_eq_true hb)
      subst hx
      cases e
      exact ⟨[], rfl, .nil⟩
  · obtain ⟨c, h1, rfl⟩ := map_some e
    exact dcOf_ok h1
theorem ev_ok (hf : FR φ z fr a.tmps) {x : Operand} {v : V} (e : ev fr x = some v) : VR φ z v (a.eval x) := by
  cases x with
  | tmp t => exact (hf t v e).2
  | const u => exact vOf_ok e
  | global g => cases e
  | func f => cases e; exact ⟨[], rfl, .nil⟩
theorem evs_ok (hf : FR φ z fr a.tmps) : ∀ {xs : List Operand} {vs : List V}, evs fr xs = some vs → All2 (VR φ z) vs (xs.map a.eval)
  | [], vs, e => by cases e; exact .nil
  | x :: xs, vs, e => by
    simp only [evs] at e
    split at e
    · rename_i v us h1 h2
      cases e
      exact .cons (ev_ok hf h1) (evs_ok hf h2)
    · cases e
end
end Go.Proofs.YtgjindhjgmplgaaGreat
end
section
set_option linter.constructorNameAsVariable false
namespace Go.Proofs.YtgjindhjgmplgaaGreat
def opR (f : Operand → Value) (op : Op) (ty : TypeId) : Sem Next := execOp f ⟨none, op, ty, "", #[], none⟩
theorem execOp_eq (f : Operand → Value) (o : Oper) : execOp f o = opR f o.op o.type := by cases o; rfl
def nxv : Next → Option Value
  | .value v => some v
  | .skip => some undef
  | _ => none
theorem undef_ok {φ : Emb} {z : Fz} : VR φ z (.t []) undef := ⟨[], rfl, .nil⟩
theorem fk_ok {c : Bool} {a b : Prop} (h : fk c a b) : (c = true ∧ a) ∨ (c = false ∧ b) := by
  cases c with
  | true => exact .inl ⟨rfl, h⟩
  | false => exact .inr ⟨rfl, h⟩
theorem fk_yes {c : Bool} {a : Prop} (h : fk c a False) : c = true ∧ a := by
  rcases fk_ok h with h | h
  · exact h
  · exact h.2.elim
theorem oP_ok {α : Type} {o : Option α} {k : α → Prop} (h : oP o k) : ∃ x, o = some x ∧ k x := by
  cases o with
  | none => exact h.elim
  | some x => exact ⟨x, rfl, h⟩
theorem onC_ok {fr : Frs} {x : Operand} {k : DC → Prop} (h : onC fr x k) : ∃ c, ev fr x = some (.c c) ∧ k c := by
  unfold onC at h
  split at h
  · rename_i c hc; exact ⟨c, hc, h⟩
  · exact h.elim
theorem onB_ok {fr : Frs} {x : Operand} {k : Bool → Prop} (h : onB fr x k) : ∃ c, ev fr x = some (.c (.b c)) ∧ k c := by
  unfold onB at h
  split at h
  · rename_i c hc; exact ⟨c, hc, h⟩
  · exact h.elim
theorem onI_ok {fr : Frs} {x : Operand} {k : IntKind → Int → Prop} (h : onI fr x k) : ∃ q n, ev fr x = some (.c (.i q n)) ∧ k q n := by
  unfold onI at h
  split at h
  · rename_i q n hc; exact ⟨q, n, hc, h⟩
  · exact h.elim
theorem and2 {x y : Bool} (e : (x && y) = true) : x = true ∧ y = true := by rwa [Bool.and_eq_true] at e
section
variable {P : Program} {φ : Emb} {z : Fz} {w : World}
def aggD : TypeDesc → Bool
  | .struct _ => true
  | .array _ _ => true
  | _ => false
theorem aggT_desc {t : TypeId} {b : Bool} {n : Nat} (h : aggT P t = some (b, n)) : ∃ d i, P.underlying t = some d ∧ P.info? t = some i ∧ aggD d = b ∧ i.size = n := by
  unfold aggT at h
  split at h
  · rename_i fs i hu hi; cases h; exact ⟨_, i, hu, hi, rfl, rfl⟩
  · rename_i k e i hu hi; cases h; exact ⟨_, i, hu, hi, rfl, rfl⟩
  · rename_i d i h1 h2 hu hi
    cases h
    refine ⟨d, i, hu, hi, ?_, rfl⟩
    cases d <;> first | rfl | exact (h1 _ rfl).elim | exact (h2 _ _ rfl).elim
  · cases h
theorem run_isAgg {t : TypeId} {d : TypeDesc} (hu : P.underlying t = some d) (w : World) : (isAgg t).run P w = .ok (aggD d) w := by
  simp only [isAgg, Sem.run_bind, run_underlying hu, Result.andThen_ok]
  cases d <;> rfl
theorem aggT_run {t : TypeId} {b : Bool} {n : Nat} (h : aggT P t = some (b, n)) (w : World) : (isAgg t).run P w = .ok b w ∧ (sizeOf t).run P w = .ok n w := by
  obtain ⟨d, i, h1, h2, h3, h4⟩ := aggT_desc h
  exact ⟨by rw [run_isAgg h1, h3], by simp [sizeOf, typeInfo, h2, h4]⟩
theorem run_loads {b o : Nat} {vs : List Value} (hc : ∀ (j : Nat) v, vs[j]? = some v → w.cell? ⟨b, o + j, none⟩ = some v) {k : Nat} (hk : vs.length = k) : (loadCells ⟨b, o, none⟩ k).run P w = .ok vs.toArray w := by
  rw [← hk]
  exact run_loadCells_list w ⟨b, o, none⟩ vs fun j v hj => by rw [Addr.add_lit]; exact hc j v hj
def mkU (agg : Bool) (vs : List Value) : Value := match agg, vs with
  | true, vs => .agg vs.toArray
  | false, v :: _ => v
  | false, [] => undef
theorem run_loadVar {t : TypeId} {agg : Bool} {n : Nat} (h : aggT P t = some (agg, n)) {b o : Nat} {vs : List Value} (hn : vs.length = n) (h1 : agg = false → n = 1) (hc : ∀ (j : Nat) v, vs[j]? = some v → w.cell? ⟨b, o + j, none⟩ = some v) :
    (loadVar t ⟨b, o, none⟩).run P w = .ok (mkU agg vs) w := by
  obtain ⟨ha, hs⟩ := aggT_run h w
  cases agg with
  | true => simp [loadVar, ha, hs, run_loads hc hn, mkU]
  | false =>
    have hn1 := h1 rfl
    cases vs with
    | nil => simp at hn; omega
    | cons v vs =>
      have := hc 0 v rfl
      simp at this
      simp [loadVar, ha, this, mkU]
theorem valAt_ok {s e : Sh} {r : Row} {vs : List Value} {off : Nat} {agg : Bool} {v : V} (h : RowD z e r vs) (hf : fits e off s = true) (hv : valAt agg s e r off = some v) :
    VR φ z v (mkU agg ((vs.drop off).take s.length)) ∧ ((vs.drop off).take s.length).length = s.length ∧ (agg = false → s.length = 1) := by
  have hs := shEq_eq _ _ hf
  have hsub : RowD z s ((r.drop off).take s.length) ((vs.drop off).take s.length) := by
    have := (h.drop off).take s.length
    rwa [hs] at this
  refine ⟨?_, hsub.all.2.1, ?_⟩
  · cases agg with
    | true =>
      cases hv
      exact ⟨_, rfl, by rw [subRow_ok h]; exact hsub⟩
    | false =>
      cases s with
      | nil => cases hv
      | cons k s =>
        cases s with
        | cons k' s => cases hv
        | nil =>
          cases hv
          obtain ⟨i1, i2, i3⟩ := hsub.all
          obtain ⟨d, u, h1, h2, h3⟩ := i3 0 k rfl
          rw [List.getElem?_take_of_lt (by simp), List.getElem?_drop] at h1
          have hu : (vs.drop off).take [k].length = [u] := by
            cases hq : (vs.drop off).take [k].length with
            | nil => rw [hq] at h2; cases h2
            | cons x l =>
              rw [hq] at h2 i2
              cases h2
              cases l with
              | nil => rfl
              | cons y l => simp at i2
          rw [hu]
          exact cellK_ok h1 h3
  · intro ha
    subst ha
    cases s with
    | nil => cases hv
    | cons k s =>
      cases s with
      | cons k' s => cases hv
      | nil => rfl
theorem dvOf_ok {k : Kd} {c : DC} {d : DV} {v : Value} (e : dvOf k c = some d) (h : CV φ z c v) : CellD z k d v := by
  cases k with
  | b =>
    cases c <;> first | (cases e; done) | skip
    cases e; simp only [CellD]; exact ⟨_, rfl, h⟩
  | i q =>
    cases c <;> first | (cases e; done) | skip
    rename_i q' n
    simp only [dvOf] at e
    cases hq : decide (q = q') with
    | false => rw [hq] at e; cases e
    | true =>
      have := of_decide_eq_true hq
      subst this
      rw [hq] at e; cases e; simp only [CellD]; exact ⟨_, rfl, h⟩
  | s =>
    cases c <;> first | (cases e; done) | skip
    cases e; simp only [CellD]; exact ⟨_, rfl, h⟩
  | sl s =>
    cases c <;> first | (cases e; done) | skip
    · cases e
      simp only [CellD]
      exact ⟨[], rfl, none, 0, h, Nat.le_refl _, .inl rfl⟩
    · rename_i s' l
      simp only [dvOf] at e
      cases hq : shEq s s' with
      | false => rw [hq] at e; cases e
      | true =>
        have := shEq_eq _ _ hq
        subst this
        rw [hq] at e; cases e; simp only [CellD]; exact ⟨_, rfl, h⟩
    · rename_i s' l
      simp only [dvOf] at e
      cases hq : shEq s s' with
      | false => rw [hq] at e; cases e
      | true =>
        have := shEq_eq _ _ hq
        subst this
        rw [hq] at e; cases e; simp only [CellD]; exact ⟨_, rfl, h.1⟩
theorem dvsOf_ok : ∀ {s : Sh} {l : List DC} {r : Row} {vs : List Value}, dvsOf s l = some r → All2 (CV φ z) l vs → RowD z s r vs
  | [], l, r, vs, e, h => by
    cases l with
    | nil => cases e; cases h; exact RowD.nil
    | cons c l => cases e
  | k :: s, l, r, vs, e, h => by
    cases l with
    | nil => cases e
    | cons c l =>
      simp only [dvsOf] at e
      split at e
      · rename_i d q h1 h2
        cases e
        cases h with
        | cons hc ht => exact RowD.cons (dvOf_ok h1 hc) (dvsOf_ok h2 ht)
      · cases e
theorem rowFor_ok {s : Sh} {v : V} {r : Row} {u : Value} (e : rowFor s v = some r) (h : VR φ z v u) : RowD z s r u.cells.toList := by
  cases v with
  | c x =>
    have hc : CV φ z x u := h
    unfold rowFor at e
    cases s with
    | nil => cases e
    | cons k s =>
      cases s with
      | cons k' s => cases e
      | nil =>
        obtain ⟨d, h1, rfl⟩ := map_some e
        rw [cells_one hc.one]
        exact RowD.cons (dvOf_ok h1 hc) RowD.nil
  | r s' q =>
    obtain ⟨vs, rfl, h2⟩ := h
    have e : (bif shEq s s' then some q else none) = some r := e
    cases hq : shEq s s' with
    | false => rw [hq] at e; cases e
    | true =>
      have := shEq_eq _ _ hq
      subst this
      rw [hq] at e; cases e; exact h2
  | a l =>
    obtain ⟨vs, rfl, h2⟩ := h
    exact dvsOf_ok e h2
  | t l => cases e
theorem cellsV_ok {v : V} {l : List DC} {u : Value} (e : cellsV v = some l) (h : VR φ z v u) : All2 (CV φ z) l u.cells.toList := by
  cases v with
  | c x =>
    cases e
    have hc : CV φ z x u := h
    rw [cells_one hc.one]
    exact .cons hc .nil
  | r s q =>
    obtain ⟨vs, rfl, h2⟩ := h
    cases e
    exact cellsK_ok h2 fun i _ => by rw [Nat.zero_add]
  | a m =>
    cases e
    obtain ⟨vs, rfl, h2⟩ := h
    exact h2
  | t m => cases e
theorem list_over {α : Type} : ∀ (q : List α) (r : List α) (off : Nat) (f : List α → Nat → List α → List α), (∀ r off, f r off [] = r) → (∀ r off d l, f r off (d :: l) = f (r.set off d) (off + 1) l) → off + q.length ≤ r.length → f r off q = r.take off ++ (q ++ r.drop (off + q.length))
  | [], r, off, f, h0, _, _ => by rw [h0]; simp
  | d :: q, r, off, f, h0, h1, hl => by
    have hlt : off < r.length := by simp at hl; omega
    rw [h1, list_over q _ _ f h0 h1 (by simp at hl ⊢; omega)]
    rw [List.take_add_one, List.getElem?_set_self hlt, List.take_set_of_le (Nat.le_refl _), List.drop_set_of_lt (by omega)]
    simp [Nat.add_assoc, Nat.add_comm 1]
theorem setsR_eq (r : Row) (off : Nat) (q : Row) (h : off + q.length ≤ r.length) : setsR r off q = r.take off ++ (q ++ r.drop (off + q.length)) := list_over q r off setsR (fun _ _ => rfl) (fun _ _ _ _ => rfl) h
theorem setsE_eq (r : List DC) (off : Nat) (q : List DC) (h : off + q.length ≤ r.length) : setsE r off q = r.take off ++ (q ++ r.drop (off + q.length)) := list_over q r off setsE (fun _ _ => rfl) (fun _ _ _ _ => rfl) h
theorem fits_split {e s : Sh} {off : Nat} (h : fits e off s = true) : e = e.take off ++ (s ++ e.drop (off + s.length)) := by
  have hs := shEq_eq _ _ h
  conv => lhs; rw [← List.take_append_drop off e, ← List.take_append_drop s.length (e.drop off), hs, List.drop_drop]
theorem putRow_ok {e s : Sh} {r q : Row} {vs us : List Value} {off : Nat} (h : RowD z e r vs) (hf : fits e off s = true) (hq : RowD z s q us) : RowD z e (putRow e r off s.length q) (vs.take off ++ (us ++ vs.drop (off + s.length))) := by
  have hsp := fits_split hf
  have hs := shEq_eq _ _ hf
  obtain ⟨i1, i2, i3⟩ := h.all
  obtain ⟨j1, j2, j3⟩ := hq.all
  have hlen : s.length ≤ e.length - off := by
    have : ((e.drop off).take s.length).length = s.length := by rw [hs]
    simp at this; omega
  have key : putRow e r off s.length q = r.take off ++ (q ++ r.drop (off + s.length)) := by
    unfold putRow
    cases hb : (Nat.beq off 0 && Nat.beq s.length e.length) with
    | true =>
      obtain ⟨h1, h2⟩ := and2 hb
      have h1 := Nat.eq_of_beq_eq_true h1
      have h2 := Nat.eq_of_beq_eq_true h2
      subst h1
      simp only [cond_true, List.take_zero, List.nil_append, Nat.zero_add]
      rw [List.drop_of_length_le (by omega), List.append_nil]
    | false =>
      simp only [cond_false]
      cases Nat.ble s.length 16 with
      | false => rfl
      | true =>
        simp only [cond_true]
        rw [expl_eq h, hs, expl_eq hq]
        by_cases h0 : s.length = 0
        · have : q = [] := List.eq_nil_of_length_eq_zero (by omega)
          subst this
          simp [setsR, h0]
        · rw [setsR_eq _ _ _ (by omega), j1]
  rw [key, hsp]
  exact (h.take off).append (hq.append (h.drop (off + s.length)))
end
end Go.Proofs.YtgjindhjgmplgaaGreat
end
