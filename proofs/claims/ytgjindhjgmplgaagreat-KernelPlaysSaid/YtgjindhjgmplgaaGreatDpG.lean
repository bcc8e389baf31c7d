/-
  Deep values: slices. No function of the program is named here.
-/
import Derived.Test.YtgjindhjgmplgaaGreatDpD
import Derived.ChangeKeysEq
import Derived.Laws.Append
import Derived.Laws.BytesArg
set_option linter.unusedVariables false
set_option linter.unusedSimpArgs false
section
set_option linter.constructorNameAsVariable false
namespace Go.Proofs.YtgjindhjgmplgaaGreat
open Go.RowKit
def Done (P : Program) (G : Gd) (φ : Emb) (z : Fz) (nx : Nat) (op : Op) (ty : TypeId) (f : Operand → Value) (w : World) (k : KVk) : Prop :=
  ∃ v m' nx' φ' z' u w' n, k v m' nx' ∧ Emb.le φ φ' ∧ Fz.le z z' ∧ MR G φ' z' m' w' ∧ Dom φ φ' nx nx' ∧ nx ≤ nx' ∧ VR φ' z' v u ∧ (opR f op ty).run P w = .ok n w' ∧ nxv n = some u
section
variable {P : Program} {G : Gd} {φ : Emb} {z : Fz} {fr : Frs} {m : Mem} {nx : Nat} {a : Act} {w : World} {k : KVk} {ty : TypeId} {call : CallF}
structure Gv (G : Gd) (φ : Emb) (z : Fz) (fr : Frs) (m : Mem) (nx : Nat) (a : Act) (w : World) (k : KVk) : Prop where
  fr : FR φ z fr a.tmps
  m : MR G φ z m w
  new : ∀ v m' nx', k v m' nx' → ∀ x, nx ≤ x → x < nx' → φ x = none
theorem Done.val (g : Gv G φ z fr m nx a w k) {v : V} {u : Value} {op : Op} (hk : k v m nx) (hv : VR φ z v u) (hr : (opR a.eval op ty).run P w = .ok (.value u) w) : Done P G φ z nx op ty a.eval w k :=
  ⟨v, m, nx, φ, z, u, w, .value u, hk, .refl _, .refl _, g.m, Dom.refl _ _, Nat.le_refl _, hv, hr, rfl⟩
theorem d_move {x : Operand} {op : Op} (ho : op = .move x ∨ op = .assign x) (g : Gv G φ z fr m nx a w k) (h : oP (ev fr x) fun v => k v m nx) : Done P G φ z nx op ty a.eval w k := by
  obtain ⟨v, h1, h2⟩ := oP_ok h
  rcases ho with rfl | rfl <;> exact Done.val g h2 (ev_ok g.fr h1) rfl
theorem d_pick {c x y : Operand} (g : Gv G φ z fr m nx a w k) (h : onB fr c fun t => oP (ev fr x) fun v => oP (ev fr y) fun u => fk t (k v m nx) (k u m nx)) : Done P G φ z nx (.pick c x y) ty a.eval w k := by
  obtain ⟨b, h1, h2⟩ := onB_ok h
  obtain ⟨v, h3, h4⟩ := oP_ok h2
  obtain ⟨u, h5, h6⟩ := oP_ok h4
  have hb : a.eval c = .bool b := ev_ok g.fr h1
  rcases fk_ok h6 with ⟨rfl, h7⟩ | ⟨rfl, h7⟩
  · exact Done.val g h7 (ev_ok g.fr h3) (by simp [opR, execOp, hb, asBool])
  · exact Done.val g h7 (ev_ok g.fr h5) (by simp [opR, execOp, hb, asBool])
theorem zOk_ok : ∀ {s : Sh} {vs : List Value}, zOk s vs = true → RowD z s (zRow s) vs
  | [], vs, h => by
    cases vs with
    | nil => exact RowD.nil
    | cons v vs => cases h
  | k :: s, vs, h => by
    cases vs with
    | nil => cases h
    | cons v vs =>
      obtain ⟨h1, h2⟩ := and2 (show (zOkK k v && zOk s vs) = true from h)
      refine RowD.cons ?_ (zOk_ok h2)
      unfold zOkK at h1
      split at h1
      · simp only [CellD]; exact ⟨_, rfl, rfl⟩
      · obtain ⟨h3, h4⟩ := and2 h1
        have h3 := of_decide_eq_true h3
        have h4 := of_decide_eq_true h4
        subst h3; subst h4
        simp only [CellD]; exact ⟨_, rfl, rfl⟩
      · rename_i y
        have h3 := of_decide_eq_true h1
        simp only [CellD]
        refine ⟨_, rfl, ?_⟩
        have : y = ⟨#[]⟩ := by
          cases y with | mk d =>
          have : d = #[] := Array.eq_empty_of_size_eq_zero h3
          rw [this]
        rw [this]
      · simp only [CellD]; exact ⟨[], rfl, none, 0, rfl, Nat.le_refl _, .inl rfl⟩
      · cases h1
theorem zeroR_ok {t : TypeId} {s : Sh} {r : Row} (e : zeroR P t = some (s, r)) : ∃ i u, P.info? t = some i ∧ i.zero = some u ∧ (∀ w, (zeroValue t).run P w = .ok u w) ∧ RowD z s r u.cells.toList := by
  unfold zeroR at e
  split at e
  · rename_i s' i hs hi
    split at e
    · rename_i u hu
      cases hb : zOk s' u.cells.toList with
      | false => rw [hb] at e; cases e
      | true =>
        rw [hb] at e; cases e
        exact ⟨i, u, hi, hu, fun w => by simp [zeroValue, typeInfo, hi, hu], zOk_ok hb⟩
    · cases e
  · cases e
theorem zeroC_ok {t : TypeId} {l : List DC} (e : zeroC P t = some l) : ∃ i u, P.info? t = some i ∧ i.zero = some u ∧ (∀ w, (zeroValue t).run P w = .ok u w) ∧ All2 (CV φ z) l u.cells.toList := by
  unfold zeroC at e
  split at e
  · rename_i i hi
    split at e
    · rename_i u hu
      exact ⟨i, u, hi, hu, fun w => by simp [zeroValue, typeInfo, hi, hu], dcsOf_ok e⟩
    · cases e
  · cases e
theorem Done.newVar (g : Gv G φ z fr m nx a w k) {op : Op} {cells : Array Value} {t : TypeId} {B : Blk} (hk : k (.c (.pv nx 0)) ((nx, B) :: m) (nx + 1))
    (hr : (opR a.eval op ty).run P w = .ok (.value (.pointer (some ⟨w.heap.size, 0, none⟩))) { w with heap := w.heap.push (.cells cells t (0, 0)) })
    (hB : (∃ s r, B = .R s r ∧ RowD z s r cells.toList) ∨ ∃ l, B = .E l ∧ All2 (CV φ z) l cells.toList) : Done P G φ z nx op ty a.eval w k := by
  have hnew := g.new _ _ _ hk nx (Nat.le_refl _) (Nat.lt_succ_self _)
  have hle := Emb.le_add hnew (.pointer (some ⟨w.heap.size, 0, none⟩))
  refine ⟨_, _, _, φ.add nx (.pointer (some ⟨w.heap.size, 0, none⟩)), z, _, _, _, hk, hle, .refl z, ?_, Dom.add _ _ _, Nat.le_succ _, ⟨w.heap.size, Emb.add_same _ _ _, rfl⟩, hr, rfl⟩
  refine g.m.new hnew (o := some (.cells cells t (0, 0))) rfl rfl rfl rfl rfl ?_
  have hget : (w.heap.push (.cells cells t (0, 0)))[w.heap.size]? = some (.cells cells t (0, 0)) := by simp
  rcases hB with ⟨s, r, rfl, h⟩ | ⟨l, rfl, h⟩
  · exact ⟨_, cells, t, Emb.add_same _ _ _, hget, h⟩
  · exact ⟨_, cells, t, Emb.add_same _ _ _, hget, h.mono fun _ _ => CV.le hle (.refl z)⟩
theorem d_alloc {t : TypeId} (g : Gv G φ z fr m nx a w k) (h : dop P call fr m nx (.alloc t) k) : Done P G φ z nx (.alloc t) ty a.eval w k := by
  simp only [dop] at h
  split at h
  · rename_i s r hz
    obtain ⟨i, u, h1, h2, h3, h4⟩ := zeroR_ok (z := z) hz
    exact Done.newVar (t := t) g h (by simp [opR, execOp, Instr.alloc, h3, newVar, newRow]) (.inl ⟨s, r, rfl, h4⟩)
  · obtain ⟨c, hc, h⟩ := oP_ok h
    obtain ⟨i, u, h1, h2, h3, h4⟩ := zeroC_ok (φ := φ) (z := z) hc
    exact Done.newVar (t := t) g h (by simp [opR, execOp, Instr.alloc, h3, newVar, newRow]) (.inr ⟨c, rfl, h4⟩)
theorem blkOf_ok {o : Option Sh} {v : V} {B : Blk} {u : Value} (e : blkOf o v = some B) (h : VR φ z v u) : (∃ s r, B = .R s r ∧ RowD z s r u.cells.toList) ∨ ∃ l, B = .E l ∧ All2 (CV φ z) l u.cells.toList := by
  unfold blkOf at e
  split at e
  · rename_i s
    split at e
    · rename_i r hr
      cases e; exact .inl ⟨s, r, rfl, rowFor_ok hr h⟩
    · obtain ⟨l, h1, rfl⟩ := map_some e
      exact .inr ⟨l, rfl, cellsV_ok h1 h⟩
  · obtain ⟨l, h1, rfl⟩ := map_some e
    exact .inr ⟨l, rfl, cellsV_ok h1 h⟩
theorem d_box {t : TypeId} {x : Operand} (g : Gv G φ z fr m nx a w k) (h : dop P call fr m nx (.box t x) k) : Done P G φ z nx (.box t x) ty a.eval w k := by
  obtain ⟨v, h1, h⟩ := oP_ok h
  obtain ⟨B, h2, h⟩ := oP_ok h
  exact Done.newVar (cells := (a.eval x).cells) (t := t) g h (by simp [opR, execOp, Instr.box, newVar, newRow]) (blkOf_ok h2 (ev_ok g.fr h1))
theorem load_ok {t : TypeId} {agg : Bool} {n : Nat} (ht : aggT P t = some (agg, n)) {o : Option Sh} {c : DC} {p : Value} {K : V → Prop} (r : MR G φ z m w) (hc : CV φ z c p) (h : loadAt agg n o m c K) : ∃ v u ad, K v ∧ VR φ z v u ∧ p = .pointer (some ad) ∧ (loadVar t ad).run P w = .ok u w := by
  have plain : ∀ {s e : Sh} {rr : Row} {off b base : Nat} {arr : Array Value} {T : TypeId} {fz : Nat × Nat} {v : V}, (fits e off s && Nat.beq s.length n) = true → valAt agg s e rr off = some v → w.heap[b]? = some (.cells arr T fz) → RowD z e rr ((arr.toList.drop base).take e.length) →
      ∃ u, VR φ z v u ∧ (loadVar t ⟨b, base + off, none⟩).run P w = .ok u w := by
    intro s e rr off b base arr T fz v hf hv hw hrow
    obtain ⟨hf1, hf2⟩ := and2 hf
    have hn := Nat.eq_of_beq_eq_true hf2
    obtain ⟨i1, i2, i3⟩ := valAt_ok (φ := φ) hrow hf1 hv
    refine ⟨_, i1, run_loadVar ht (by rw [i2, hn]) (fun ha => by rw [← hn]; exact i3 ha) fun j y hj => ?_⟩
    rw [cell_of_row w b _ arr T _ hw, ← Array.getElem?_toList]
    have hlt : j < s.length := by have := (List.getElem?_eq_some_iff.1 hj).1; omega
    rw [List.getElem?_take_of_lt hlt, List.getElem?_drop] at hj
    have hlt2 : off + j < e.length := by
      have := (List.getElem?_eq_some_iff.1 hj).1
      simp at this; omega
    rw [List.getElem?_take_of_lt hlt2, List.getElem?_drop] at hj
    rw [← hj]; congr 1; omega
  unfold loadAt at h
  split at h
  · rename_i x off
    obtain ⟨b, hb, rfl⟩ := hc
    split at h
    · rename_i e rr hx
      obtain ⟨b', arr, T, h1, h2, h3⟩ := r.blk x _ hx
      rw [hb] at h1; cases h1
      split at h
      · obtain ⟨hf, h⟩ := fk_yes h
        obtain ⟨v, hv, h⟩ := oP_ok h
        obtain ⟨u, h4, h5⟩ := plain (base := 0) hf hv h2 (by rw [List.drop_zero, List.take_of_length_le (by rw [h3.all.2.1]; exact Nat.le_refl _)]; exact h3)
        exact ⟨v, u, _, h, h4, rfl, by simpa using h5⟩
      · exact h.elim
    · rename_i l hx
      obtain ⟨b', arr, T, h1, h2, h3⟩ := r.blk x _ hx
      rw [hb] at h1; cases h1
      obtain ⟨hle, h⟩ := fk_yes h
      have hle : off + n ≤ l.length := Nat.le_of_ble_eq_true hle
      have hll := h3.length
      have hcell : ∀ (j : Nat) y, ((arr.toList.drop off).take n)[j]? = some y → w.cell? ⟨b, off + j, none⟩ = some y := fun j y hj => by
        rw [cell_of_row w b _ arr T _ h2, ← Array.getElem?_toList]
        have hlt : j < n := by have := (List.getElem?_eq_some_iff.1 hj).1; simp at this; omega
        rw [List.getElem?_take_of_lt hlt, List.getElem?_drop] at hj
        exact hj
      cases agg with
      | true =>
        refine ⟨_, _, _, h, ⟨_, rfl, (h3.drop off).take n⟩, rfl, ?_⟩
        exact run_loadVar ht (by simp at hll ⊢; omega) (fun ha => by cases ha) hcell
      | false =>
        obtain ⟨dd, ii, hu, hi, hd, hn⟩ := aggT_desc ht
        simp only [cond_false] at h
        split at h
        · rename_i c hc
          obtain ⟨y, h4, h5⟩ := h3.get hc
          refine ⟨_, y, _, h, h5, rfl, ?_⟩
          obtain ⟨q1, q2⟩ := aggT_run ht w
          have : w.cell? ⟨b, off, none⟩ = some y := by rw [cell_of_row w b _ arr T _ h2, ← Array.getElem?_toList]; exact h4
          simp [loadVar, q1, this]
        · exact h.elim
    · exact h.elim
  · rename_i e rr off
    obtain ⟨b, base, arr, T, fz, rfl, hz, hrow⟩ := hc
    split at h
    · obtain ⟨hf, h⟩ := fk_yes h
      obtain ⟨v, hv, h⟩ := oP_ok h
      obtain ⟨u, h4, h5⟩ := plain hf hv (r.frz b _ hz) hrow
      exact ⟨v, u, _, h, h4, rfl, h5⟩
    · exact h.elim
  · rename_i x e i off
    obtain ⟨b, o, n', cap, hb, rfl⟩ := hc
    split at h
    · rename_i e' rows s hx
      obtain ⟨hf0, h1⟩ := fk_yes h
      obtain ⟨hee0, hf⟩ := and2 hf0
      have hee := shEq_eq _ _ hee0
      subst hee
      obtain ⟨hlt0, h2⟩ := fk_yes h1
      have hlt : i < rows.length := of_decide_eq_true hlt0
      obtain ⟨v, hv, hK⟩ := oP_ok h2
      clear h h1 h2
      rcases r.blk x _ hx with ⟨h1, h2⟩ | ⟨b', o', arr, T, cap', h1, h2, h3, h4, h5⟩
      · subst h2; cases hlt
      · rw [hb] at h1; cases h1
        have hr := h5 i (rw' rows i) (by unfold rw'; rw [List.getD_eq_getElem?_getD, List.getElem?_eq_getElem hlt]; rfl)
        obtain ⟨u, h6, h7⟩ := plain hf hv h4 hr
        exact ⟨v, u, _, hK, h6, rfl, h7⟩
    · exact h.elim
  · exact h.elim
theorem d_load {t : TypeId} {x : Operand} (g : Gv G φ z fr m nx a w k) (h : dop P call fr m nx (.load t x) k) : Done P G φ z nx (.load t x) ty a.eval w k := by
  simp only [dop] at h
  split at h
  · rename_i agg n ht
    obtain ⟨c, h1, h⟩ := onC_ok h
    obtain ⟨v, u, ad, h2, h3, h4, h5⟩ := load_ok ht g.m (show CV φ z c (a.eval x) from ev_ok g.fr h1) h
    exact Done.val g h2 h3 (by simp [opR, execOp, Instr.loadAt, h4, Instr.sureAddr, h5])
  · exact h.elim
theorem over_get {α : Type} (A us : List α) (p n q : Nat) (hA : p + n ≤ A.length) (hu : us.length = n) : (A.take p ++ (us ++ A.drop (p + n)))[q]? = if q < p then A[q]? else if q < p + n then us[q - p]? else A[q]? := by
  by_cases h1 : q < p
  · rw [if_pos h1, List.getElem?_append_left (by simp; omega), List.getElem?_take_of_lt h1]
  · rw [if_neg h1, List.getElem?_append_right (by simp; omega)]
    have hl : (A.take p).length = p := by simp; omega
    rw [hl]
    by_cases h2 : q < p + n
    · rw [if_pos h2, List.getElem?_append_left (by omega)]
    · rw [if_neg h2, List.getElem?_append_right (by omega), List.getElem?_drop]
      congr 1; omega
theorem seg_over {α : Type} (A us : List α) (L i j o off n : Nat) (hA : o + i * L + off + n ≤ A.length) (hu : us.length = n) (hL : off + n ≤ L) :
    ((A.take (o + i * L + off) ++ (us ++ A.drop (o + i * L + off + n))).drop (o + j * L)).take L = if j = i then (((A.drop (o + i * L)).take L).take off ++ (us ++ ((A.drop (o + i * L)).take L).drop (off + n))) else (A.drop (o + j * L)).take L := by
  apply List.ext_getElem?
  intro q
  by_cases hq : q < L
  · rw [List.getElem?_take_of_lt hq, List.getElem?_drop, over_get A us _ n _ hA hu]
    by_cases hji : j = i
    · subst hji
      rw [if_pos rfl]
      by_cases h1 : q < off
      · rw [if_pos (by omega), List.getElem?_append_left (by simp; omega), List.getElem?_take_of_lt h1, List.getElem?_take_of_lt hq, List.getElem?_drop]
      · rw [if_neg (by omega)]
        have hl : (((A.drop (o + j * L)).take L).take off).length = off := by simp; omega
        rw [List.getElem?_append_right (by omega), hl]
        by_cases h2 : q < off + n
        · rw [if_pos (by omega), List.getElem?_append_left (by omega)]
          congr 1; omega
        · rw [if_neg (by omega), List.getElem?_append_right (by omega), List.getElem?_drop, hu, show off + n + (q - off - n) = q by omega, List.getElem?_take_of_lt hq, List.getElem?_drop]
    · rw [if_neg hji, List.getElem?_take_of_lt hq, List.getElem?_drop]
      rcases Nat.lt_or_gt_of_ne hji with h | h
      · have : (j + 1) * L ≤ i * L := Nat.mul_le_mul_right _ h
        rw [Nat.add_mul, Nat.one_mul] at this
        rw [if_pos (by omega)]
      · have : (i + 1) * L ≤ j * L := Nat.mul_le_mul_right _ h
        rw [Nat.add_mul, Nat.one_mul] at this
        rw [if_neg (by omega), if_neg (by omega)]
  · rw [List.getElem?_take_eq_none (by omega)]
    by_cases hji : j = i
    · rw [if_pos hji]
      symm
      apply List.getElem?_eq_none
      simp; omega
    · rw [if_neg hji, List.getElem?_take_eq_none (by omega)]
theorem store_ok {t : TypeId} {agg : Bool} {n : Nat} (ht : aggT P t = some (agg, n)) {o : Option Sh} {c : DC} {p : Value} {v : V} {u : Value} {K : Mem → Prop} (r : MR G φ z m w) (hc : CV φ z c p) (hu : VR φ z v u) (h : storeAt n o m c v K) : ∃ m' w' ad, K m' ∧ MR G φ z m' w' ∧ p = .pointer (some ad) ∧ (storeVar t ad u).run P w = .ok () w' := by
  have hs := (aggT_run ht w).2
  have wr : ∀ {b off : Nat} {arr : Array Value} {T : TypeId}, w.heap[b]? = some (.cells arr T (0, 0)) → off + n ≤ arr.size → u.cells.size = n → (∀ x ∈ u.cells.toList, x.oneCell' = true) →
      ∃ w', (storeVar t ⟨b, off, none⟩ u).run P w = .ok () w' ∧ w'.heap[b]? = some (.cells (arr.toList.take off ++ (u.cells.toList ++ arr.toList.drop (off + n))).toArray T (0, 0)) ∧ (∀ g, g ≠ b → w'.heap[g]? = w.heap[g]?) ∧ w'.heap.size = w.heap.size ∧ w'.os = w.os ∧ w'.tape = w.tape ∧ w'.output = w.output := by
    intro b off arr T hw hle hn h1
    refine ⟨w.setRow b (arr.toList.take off ++ u.cells.toList ++ arr.toList.drop (off + u.cells.toList.length)).toArray, ?_, ?_, fun g hg => setRow_other _ _ _ _ hg, by simp [World.setRow], rfl, rfl, rfl⟩
    · have := run_storeCells_at P b off T u.cells.toList 0 arr w hw (by simp; omega) h1
      simpa [storeVar, hs, hn] using this
    · rw [setRow_heap w b arr _ T (0, 0) hw]
      simp [hn]
  unfold storeAt at h
  split at h
  · rename_i x off
    obtain ⟨b, hb, rfl⟩ := hc
    split at h
    · rename_i e rr hx
      obtain ⟨b', arr, T, h1, h2, h3⟩ := r.blk x _ hx
      rw [hb] at h1; cases h1
      split at h
      · rename_i q hq
        cases o with
        | none => cases hq
        | some s =>
          have hq : rowFor s v = some q := hq
          obtain ⟨hf, h⟩ := fk_yes h
          obtain ⟨hf1, hf2⟩ := and2 hf
          obtain ⟨hf3, hf4⟩ := and2 hf2
          have hn := Nat.eq_of_beq_eq_true hf3
          have hn1 : 1 ≤ n := Nat.le_of_ble_eq_true hf4
          have hrow := rowFor_ok hq hu
          have hlen : off + n ≤ arr.size := by
            have hsh := shEq_eq _ _ hf1
            have : ((e.drop off).take s.length).length = s.length := by rw [hsh]
            have h4 := h3.all.2.1
            simp at this h4
            omega
          have hz := hrow.all.2.1
          obtain ⟨w', k1, k2, k3, k4, k5, k6, k7⟩ := wr (off := off) h2 hlen (by simp at hz; omega) hrow.ones
          refine ⟨_, w', _, h, ?_, rfl, k1⟩
          refine r.upd hx rfl hb rfl k3 k4 k5 k6 k7 ⟨b, _, T, hb, k2, ?_⟩
          have := putRow_ok h3 hf1 hrow
          rw [hn] at this
          simpa using this
      · split at h
        · rename_i cs hcs
          obtain ⟨hf, h⟩ := fk_yes h
          obtain ⟨hf1, hf2⟩ := and2 hf
          have hf1 : off + n ≤ e.length := Nat.le_of_ble_eq_true hf1
          have hn := Nat.eq_of_beq_eq_true hf2
          have hcells := cellsV_ok hcs hu
          have hl := hcells.length
          have h4 := h3.all.2.1
          obtain ⟨w', k1, k2, k3, k4, k5, k6, k7⟩ := wr (off := off) h2 (by simp at h4; omega) (by simp at hl; omega) (CVs.ones hcells)
          refine ⟨_, w', _, h, ?_, rfl, k1⟩
          refine r.upd hx rfl hb rfl k3 k4 k5 k6 k7 ⟨b, _, T, hb, k2, ?_⟩
          have hE : All2 (CV φ z) (cellsK e rr 0) arr.toList := cellsK_ok h3 fun i _ => by rw [Nat.zero_add]
          have hEl := hE.length
          rw [setsE_eq _ _ _ (by simp at hEl h4; omega)]
          rw [hn]
          exact (hE.take off).append (hcells.append (hE.drop _))
        · exact h.elim
    · rename_i l hx
      obtain ⟨b', arr, T, h1, h2, h3⟩ := r.blk x _ hx
      rw [hb] at h1; cases h1
      split at h
      · rename_i cs hcs
        obtain ⟨hf, h⟩ := fk_yes h
        obtain ⟨hf1, hf2⟩ := and2 hf
        have hf1 : off + n ≤ l.length := Nat.le_of_ble_eq_true hf1
        have hn := Nat.eq_of_beq_eq_true hf2
        have hcells := cellsV_ok hcs hu
        have hl := hcells.length
        have h4 := h3.length
        obtain ⟨w', k1, k2, k3, k4, k5, k6, k7⟩ := wr (off := off) h2 (by simp at h4; omega) (by simp at hl; omega) (CVs.ones hcells)
        refine ⟨_, w', _, h, ?_, rfl, k1⟩
        refine r.upd hx rfl hb rfl k3 k4 k5 k6 k7 ⟨b, _, T, hb, k2, ?_⟩
        rw [setsE_eq _ _ _ (by omega)]
        rw [hn]
        exact (h3.take off).append (hcells.append (h3.drop _))
      · exact h.elim
    · exact h.elim
  · rename_i x e i off
    obtain ⟨b, o, n', cap, hb, rfl⟩ := hc
    split at h
    · rename_i e' rows s hx
      split at h
      · rename_i q hq
        obtain ⟨hf0, ha⟩ := fk_yes h
        obtain ⟨hee0, hf⟩ := and2 hf0
        have hee := shEq_eq _ _ hee0
        subst hee
        obtain ⟨hf1, hf2⟩ := and2 hf
        obtain ⟨hf3, hf4⟩ := and2 hf2
        have hn := Nat.eq_of_beq_eq_true hf3
        have hn1 : 1 ≤ n := Nat.le_of_ble_eq_true hf4
        obtain ⟨hlt0, hK⟩ := fk_yes ha
        have hlt : i < rows.length := of_decide_eq_true hlt0
        clear h ha
        have hrow := rowFor_ok hq hu
        rcases r.blk x _ hx with ⟨h1, h2⟩ | ⟨b', o', arr, T, cap', h1, h2, h3, h4, h5⟩
        · subst h2; cases hlt
        · rw [hb] at h1; cases h1
          have hri := h5 i (rw' rows i) (by unfold rw'; rw [List.getD_eq_getElem?_getD, List.getElem?_eq_getElem hlt]; rfl)
          have hz := hrow.all.2.1
          have hsz : o + (i + 1) * e.length ≤ arr.size := Nat.le_trans (Nat.add_le_add_left (Nat.mul_le_mul_right _ (by omega)) _) h3
          rw [Nat.add_mul, Nat.one_mul] at hsz
          have hlen : off + n ≤ e.length := by
            have hsh := shEq_eq _ _ hf1
            have : ((e.drop off).take s.length).length = s.length := by rw [hsh]
            simp at this
            omega
          obtain ⟨w', k1, k2, k3, k4, k5, k6, k7⟩ := wr (off := o + i * e.length + off) h4 (by omega) (by simp at hz; omega) hrow.ones
          refine ⟨_, w', _, hK, ?_, rfl, k1⟩
          refine r.upd hx rfl hb rfl k3 k4 k5 k6 k7 (.inr ⟨b, o, _, T, _, by rw [show (lst rows i (putRow e (rw' rows i) off n q)).length = rows.length by simp [lst]]; exact hb, by simpa [lst] using h2, ?_, k2, ?_⟩)
          · simp at hz ⊢; omega
          · intro j row hj
            have hA : o + i * e.length + off + n ≤ arr.toList.length := by simp; omega
            have hso := seg_over arr.toList u.cells.toList e.length i j o off n hA (by rw [hz, hn]) hlen
            rw [hso]
            by_cases hji : j = i
            · subst hji
              rw [if_pos rfl]
              rw [show (lst rows j (putRow e (rw' rows j) off n q))[j]? = some (putRow e (rw' rows j) off n q) from List.getElem?_set_self hlt] at hj
              cases hj
              have := putRow_ok hri hf1 hrow
              rwa [hn] at this
            · rw [if_neg hji]
              rw [show (lst rows i (putRow e (rw' rows i) off n q))[j]? = rows[j]? from List.getElem?_set_ne (fun e => hji e.symm)] at hj
              exact h5 j row hj
      · exact h.elim
    · exact h.elim
  · exact h.elim
theorem d_store {t : TypeId} {x y : Operand} (g : Gv G φ z fr m nx a w k) (h : dop P call fr m nx (.store t x y) k) : Done P G φ z nx (.store t x y) ty a.eval w k := by
  simp only [dop] at h
  split at h
  · rename_i agg n ht
    obtain ⟨c, h1, h⟩ := onC_ok h
    obtain ⟨v, h2, h⟩ := oP_ok h
    obtain ⟨m', w', ad, h3, h4, h5, h6⟩ := store_ok ht g.m (show CV φ z c (a.eval x) from ev_ok g.fr h1) (ev_ok g.fr h2) h
    exact ⟨_, _, _, φ, z, undef, w', .skip, h3, .refl _, .refl _, h4, Dom.refl _ _, Nat.le_refl _, undef_ok, by simp [opR, execOp, Instr.storeAt, h5, Instr.sureAddr, h6], rfl⟩
  · exact h.elim
end
end Go.Proofs.YtgjindhjgmplgaaGreat
end
section
set_option linter.constructorNameAsVariable false
namespace Go.Proofs.YtgjindhjgmplgaaGreat
open Go.RowKit
section eqa
variable {P : Program} {φ : Emb} {z : Fz} {w : World}
theorem run_part {t : TypeId} {agg : Bool} {n : Nat} (h : aggT P t = some (agg, n)) {vs : List Value} {off : Nat} {y : Value} (ha : agg = true → y = .agg ((vs.drop off).take n).toArray) (ho : agg = false → vs[off]? = some y) (w : World) : (part t vs.toArray off).run P w = .ok y w := by
  obtain ⟨h1, h2⟩ := aggT_run h w
  cases agg with
  | true => rw [ha rfl]; simp [part, h1, h2, List.extract_eq_take_drop, Nat.add_sub_cancel_left]
  | false => simp [part, h1, ho rfl]
theorem int_beq (m n : Int) : (m == n) = decide (m = n) := rfl
theorem str_eq (x y : ByteArray) : (x.toList == y.toList) = decide (x = y) := by
  rw [ByteArray.toList_eq, ByteArray.toList_eq, Bool.eq_iff_iff, beq_iff_eq, decide_eq_true_eq]
  refine ⟨fun e => ?_, fun e => by rw [e]⟩
  cases x with | mk x => cases y with | mk y =>
  congr 1
  exact Array.ext' e
theorem eqRow_append : ∀ {k1 k2 : Sh} {r q : Row} {j : Nat} {b : Bool}, eqRow (k1 ++ k2) r q j = some b → ∃ b1 b2, eqRow k1 r q j = some b1 ∧ eqRow k2 r q (j + k1.length) = some b2 ∧ b = (b1 && b2)
  | [], k2, r, q, j, b, e => ⟨true, b, rfl, by simpa using e, by simp⟩
  | k :: k1, k2, r, q, j, b, e => by
    simp only [List.cons_append, eqRow] at e
    cases h1 : eqDV k (rat r j) (rat q j) with
    | none => rw [h1] at e; cases e
    | some c =>
      cases h2 : eqRow (k1 ++ k2) r q (j + 1) with
      | none => rw [h1, h2] at e; cases e
      | some d =>
        rw [h1, h2] at e
        cases e
        obtain ⟨b1, b2, h3, h4, rfl⟩ := eqRow_append h2
        exact ⟨c && b1, b2, by simp [eqRow, h1, h3, an], by rw [List.length_cons, show j + (k1.length + 1) = j + 1 + k1.length by omega]; exact h4, by simp [Bool.and_assoc, an]⟩
def PartEq (P : Program) (z : Fz) (w : World) (d : Nat) (t : TypeId) (ks : Sh) : Prop :=
  ∀ D, d ≤ D → ∀ (e : Sh) (r q : Row) (vx vy : List Value) (off : Nat) (b : Bool), RowD z e r vx → RowD z e q vy → (e.drop off).take ks.length = ks → eqRow ks r q off = some b →
    ∃ p u, (part t vx.toArray off).run P w = .ok p w ∧ (part t vy.toArray off).run P w = .ok u w ∧ (Op.equalIn D t p u).run P w = .ok b w
theorem fields_run {d D : Nat} (hD : d ≤ D) (ih : ∀ t ks, eqSh P d t = some ks → szT P t = some ks.length → PartEq P z w d t ks) {e : Sh} {r q : Row} {vx vy : List Value} (hx : RowD z e r vx) (hy : RowD z e q vy) :
    ∀ {fs : List Field} {n : Nat} {ks : Sh} {b : Bool}, eqFs P (eqSh P d) fs n = some ks → (e.drop n).take ks.length = ks → eqRow ks r q n = some b → (Op.eqFields D vx.toArray vy.toArray fs).run P w = .ok b w
  | [], n, ks, b, h, _, hb => by cases h; cases hb; rfl
  | f :: fs, n, ks, b, h, he, hb => by
    simp only [eqFs] at h
    split at h
    · cases h
    · rename_i hn
      have hname : f.name ≠ "_" := fun h => hn (.inl h)
      have hoff : f.offset = n := Classical.byContradiction fun h => hn (.inr h)
      split at h
      · rename_i k s hk hs
        split at h
        · rename_i hks
          split at h
          · rename_i l hl
            cases h
            obtain ⟨b1, b2, h1, h2, rfl⟩ := eqRow_append hb
            have he1 : (e.drop n).take k.length = k := by
              have := congrArg (List.take k.length) he
              rwa [List.take_take, Nat.min_eq_left (by simp), List.take_left] at this
            have he2 : (e.drop (n + s)).take l.length = l := by
              have := congrArg (List.drop k.length) he
              rw [List.drop_left, List.drop_take, List.drop_drop] at this
              rw [← hks]
              simpa using this
            obtain ⟨p, u, hp, hq, hr⟩ := ih f.type k hk (by rw [hs, hks]) D hD e r q vx vy n b1 hx hy he1 h1
            have h3 := fields_run hD ih hx hy (n := n + s) hl he2 (by rw [← hks]; exact h2)
            simp only [Op.eqFields, if_pos hname, hoff, Sem.run_bind, hp, hq, hr, Result.andThen_ok, Sem.run_ite]
            cases b1 with
            | false => simp
            | true => simpa using h3
          · cases h
        · cases h
      · cases h
theorem part_one {t : TypeId} {k : Kd} {dd : TypeDesc} (hu : P.underlying t = some dd) (hd : aggD dd = false)
    (hk : (k = .b ∧ P.underlying t = some .bool) ∨ (∃ q, k = .i q ∧ ∃ q', P.underlying t = some (.int q')) ∨ (k = .s ∧ P.underlying t = some .string)) (d : Nat) : PartEq P z w (d + 1) t [k] := by
  intro D hD e r q vx vy off b hx hy he hb
  obtain ⟨D', rfl⟩ : ∃ D', D = D' + 1 := ⟨D - 1, by omega⟩
  have hk0 : e[off]? = some k := by
    have h0 : ((e.drop off).take 1)[0]? = some k := by rw [show (e.drop off).take 1 = [k] from he]; rfl
    simpa using h0
  obtain ⟨dx, x, h1, h2, h3⟩ := hx.all.2.2 off k hk0
  obtain ⟨dy, y, h4, h5, h6⟩ := hy.all.2.2 off k hk0
  have hia : (isAgg t).run P w = .ok false w := by rw [run_isAgg hu, hd]
  refine ⟨x, y, by simp [part, hia, h2], by simp [part, hia, h5], ?_⟩
  have er : rat r off = dx := by unfold rat; rw [List.getD_eq_getElem?_getD, h1]; rfl
  have eq' : rat q off = dy := by unfold rat; rw [List.getD_eq_getElem?_getD, h4]; rfl
  simp only [eqRow, er, eq'] at hb
  rcases hk with ⟨rfl, hk⟩ | ⟨q1, rfl, q2, hk⟩ | ⟨rfl, hk⟩
  · simp only [CellD] at h3 h6
    obtain ⟨m, rfl, rfl⟩ := h3
    obtain ⟨n, rfl, rfl⟩ := h6
    simp only [eqDV, DV.gb, Option.some.injEq, an, beqB, Bool.and_true] at hb
    rw [← hb, run_equalIn_bool' w D' t _ _ hk]
    cases m <;> cases n <;> rfl
  · simp only [CellD] at h3 h6
    obtain ⟨m, rfl, rfl⟩ := h3
    obtain ⟨n, rfl, rfl⟩ := h6
    simp only [eqDV, DV.gi, Option.some.injEq, an, ieq, Bool.and_true] at hb
    rw [← hb, run_equalIn_int w D' t q1 q2 m n hk]
    rfl
  · simp only [CellD] at h3 h6
    obtain ⟨m, rfl, rfl⟩ := h3
    obtain ⟨n, rfl, rfl⟩ := h6
    simp only [eqDV, DV.gs, Option.some.injEq, an, seqB, Bool.and_true] at hb
    rw [← hb, run_equalIn_string w D' t m n hk, str_eq]
    exact congrArg (fun b => Result.ok b w) (decide_eq_decide.2 Iff.rfl)
theorem items_run {d D : Nat} (hD : d ≤ D) {el : TypeId} {ks : Sh} (ih : PartEq P z w d el ks) {e : Sh} {r q : Row} {vx vy : List Value} (hx : RowD z e r vx) (hy : RowD z e q vy) :
    ∀ (m k : Nat) (b : Bool), (e.drop (k * ks.length)).take (shRep ks m).length = shRep ks m → eqRow (shRep ks m) r q (k * ks.length) = some b → (Op.eqItems D el ks.length vx.toArray vy.toArray (List.range' k m)).run P w = .ok b w
  | 0, k, b, _, hb => by cases hb; rfl
  | m + 1, k, b, he, hb => by
    obtain ⟨b1, b2, h1, h2, rfl⟩ := eqRow_append (show eqRow (ks ++ shRep ks m) _ _ _ = some b from hb)
    have he : (e.drop (k * ks.length)).take (ks ++ shRep ks m).length = ks ++ shRep ks m := he
    have he1 : (e.drop (k * ks.length)).take ks.length = ks := by
      have := congrArg (List.take ks.length) he
      rwa [List.take_take, Nat.min_eq_left (by simp), List.take_left] at this
    have he2 : (e.drop ((k + 1) * ks.length)).take (shRep ks m).length = shRep ks m := by
      have := congrArg (List.drop ks.length) he
      rw [List.drop_left, List.drop_take, List.drop_drop] at this
      rw [Nat.succ_mul]
      simpa using this
    obtain ⟨p, u, hp, hq, hr⟩ := ih D hD e r q vx vy (k * ks.length) b1 hx hy he1 h1
    have h3 := items_run hD ih hx hy m (k + 1) b2 he2 (by rw [Nat.succ_mul]; exact h2)
    rw [List.range'_succ]
    simp only [Op.eqItems, Sem.run_bind, hp, hq, hr, Result.andThen_ok]
    cases b1 with
    | false => simp
    | true => simpa using h3
theorem run_part_agg {t : TypeId} {d : TypeDesc} (hu : P.underlying t = some d) (hd : aggD d = true) {s : Nat} (hs : szT P t = some s) (vs : List Value) (off : Nat) (w : World) : (part t vs.toArray off).run P w = .ok (.agg ((vs.drop off).take s).toArray) w := by
  have h1 : (isAgg t).run P w = .ok true w := by rw [run_isAgg hu, hd]
  have h2 : (sizeOf t).run P w = .ok s w := by
    unfold szT at hs
    cases hi : P.info? t with
    | none => rw [hi] at hs; cases hs
    | some i => rw [hi] at hs; cases hs; simp [sizeOf, typeInfo, hi]
  simp [part, h1, h2, List.extract_eq_take_drop, Nat.add_sub_cancel_left]
theorem eqRow_shift : ∀ {ks : Sh} {r q : Row} {off n j : Nat}, j + ks.length ≤ n → eqRow ks ((r.drop off).take n) ((q.drop off).take n) j = eqRow ks r q (off + j)
  | [], _, _, _, _, _, _ => rfl
  | k :: ks, r, q, off, n, j, h => by
    have hj : j < n := by simp at h; omega
    have e : ∀ r : Row, rat ((r.drop off).take n) j = rat r (off + j) := fun r => by
      unfold rat
      rw [List.getD_eq_getElem?_getD, List.getD_eq_getElem?_getD, List.getElem?_take_of_lt hj, List.getElem?_drop]
    have h2 : j + 1 + ks.length ≤ n := by simp at h; omega
    simp only [eqRow, e, eqRow_shift h2, Nat.add_assoc]
theorem plain_run : ∀ (d : Nat) (t : TypeId) (ks : Sh), eqSh P d t = some ks → szT P t = some ks.length → PartEq P z w d t ks
  | 0, t, ks, e, _ => by cases e
  | d + 1, t, ks, e, hs => by
    simp only [eqSh] at e
    split at e
    · rename_i hu; cases e; exact part_one hu rfl (.inl ⟨rfl, hu⟩) d
    · rename_i q hu; cases e; exact part_one hu rfl (.inr (.inl ⟨q, rfl, q, hu⟩)) d
    · rename_i hu; cases e; exact part_one hu rfl (.inr (.inr ⟨rfl, hu⟩)) d
    · rename_i fs hu
      split at e
      · cases e
      · rename_i hst
        intro D hD e' r q vx vy off b hx hy he hb
        obtain ⟨D', rfl⟩ : ∃ D', D = D' + 1 := ⟨D - 1, by omega⟩
        refine ⟨_, _, run_part_agg hu rfl hs vx off w, run_part_agg hu rfl hs vy off w, ?_⟩
        have hf : P.fieldsOf t = fs := by simp [Program.fieldsOf, hu]
        rw [run_equalIn_agg w D' t _ _ (by rw [hf]; exact hu) (by simpa using hst), hf]
        refine fields_run (by omega) (fun t ks => plain_run d t ks) ((hx.drop off).take _) ((hy.drop off).take _) e ?_ (by rw [eqRow_shift (by omega)]; simpa using hb)
        rw [List.drop_zero, List.take_take, Nat.min_self]; exact he
    · rename_i n el hu
      split at e
      · rename_i ks' s' hk hsz
        split at e
        · rename_i hl
          cases e
          intro D hD e' r q vx vy off b hx hy he hb
          obtain ⟨D', rfl⟩ : ∃ D', D = D' + 1 := ⟨D - 1, by omega⟩
          refine ⟨_, _, run_part_agg hu rfl hs vx off w, run_part_agg hu rfl hs vy off w, ?_⟩
          obtain ⟨i, hi, hi2⟩ : ∃ i, P.info? el = some i ∧ i.size = s' := by
            unfold szT at hsz
            cases h : P.info? el with
            | none => rw [h] at hsz; cases hsz
            | some i => rw [h] at hsz; cases hsz; exact ⟨i, rfl, rfl⟩
          have hco : P.cellsOf el = ks'.length := by simp [Program.cellsOf, hi, hi2, hl]
          rw [run_equalIn_array w D' _ _ hu hi, hco, List.range_eq_range']
          refine items_run (by omega) (plain_run d el ks' hk (by rw [hsz, hl])) ((hx.drop off).take _) ((hy.drop off).take _) n 0 b ?_ (by rw [Nat.zero_mul, eqRow_shift (by omega)]; simpa using hb)
          rw [Nat.zero_mul, List.drop_zero, List.take_take, Nat.min_self]; exact he
        · cases e
      · cases e
    · cases e
end eqa
section
variable {P : Program} {G : Gd} {φ : Emb} {z : Fz} {fr : Frs} {m : Mem} {nx : Nat} {a : Act} {w : World} {k : KVk} {ty : TypeId} {call : CallF}
theorem binI_ok {op : BinOp} {q : IntKind} {x y : Int} {f : DC → Prop} (h : binI op q x y f) (t : TypeId) (p r : Operand) : ∃ c u, f c ∧ CV φ z c u ∧ (do eqGuard op t p r (.int q x) (.int q y); binOp op t (.int q x) (.int q y) : Sem Value).run P w = .ok u w := by
  cases op
  case and => exact ⟨_, _, h, rfl, by simp [eqGuard, binOp, Op.intBits, xbit]⟩
  case or => exact ⟨_, _, h, rfl, by simp [eqGuard, binOp, Op.intBits, xbit]⟩
  case xor => exact ⟨_, _, h, rfl, by simp [eqGuard, binOp, Op.intBits, xbit]⟩
  case andNot => exact ⟨_, _, h, rfl, by simp [eqGuard, binOp, Op.intBits, xbit]⟩
  all_goals first
    | exact h.elim
    | exact ⟨_, _, h, rfl, by simp [eqGuard, binOp, Op.intArith, Op.intCmp, bne, int_beq, wr, xadd, xsub, xmul, ieq, ilt, ile, nt]⟩
    | (rcases fk_ok h with ⟨_, h⟩ | ⟨h0, h⟩
       · exact h.elim
       · have h0 : ¬ y = 0 := of_decide_eq_false h0
         exact ⟨_, _, h, rfl, by simp [eqGuard, binOp, Op.intArith, Op.intDiv, h0, wr, xquo, xrem]⟩)
theorem shI_ok {op : BinOp} {q q' : IntKind} {x y : Int} {f : DC → Prop} (h : shI op q x y f) (t : TypeId) (p r : Operand) : ∃ c u, f c ∧ CV φ z c u ∧ (do eqGuard op t p r (.int q x) (.int q' y); binOp op t (.int q x) (.int q' y) : Sem Value).run P w = .ok u w := by
  cases op <;> first
    | exact h.elim
    | (rcases fk_ok h with ⟨_, h⟩ | ⟨h0, h⟩
       · exact h.elim
       · have h0 : ¬ y < 0 := of_decide_eq_false h0
         exact ⟨_, _, h, rfl, by simp [eqGuard, binOp, Op.shift, h0, xsh]⟩)
theorem binV_ok {t : TypeId} {op : BinOp} {x y : V} {f : DC → Prop} {ux uy : Value} (h : binV P t op x y f) (hx : VR φ z x ux) (hy : VR φ z y uy) (p r : Operand) : ∃ c u, f c ∧ CV φ z c u ∧ (do eqGuard op t p r ux uy; binOp op t ux uy : Sem Value).run P w = .ok u w := by
  unfold binV at h
  split at h
  · rename_i q b q' b'
    rw [show ux = .int q b from hx, show uy = .int q' b' from hy]
    cases hs : isSh op with
    | true => rw [hs] at h; exact shI_ok h t p r
    | false =>
      rw [hs] at h
      obtain ⟨hq, h'⟩ := fk_yes h
      have hq := of_decide_eq_true hq
      subst hq
      exact binI_ok h' t p r
  · rename_i b b'
    rw [show ux = .bool b from hx, show uy = .bool b' from hy]
    split at h
    · rename_i hu
      exact ⟨_, _, h, rfl, by cases b <;> cases b' <;> simp [eqGuard, binOp, Op.equal, Op.maxDepth, run_equalIn_bool' w 9999 t _ _ hu, beqB]⟩
    · rename_i hu
      exact ⟨_, _, h, rfl, by cases b <;> cases b' <;> simp [eqGuard, binOp, Op.equal, Op.maxDepth, run_equalIn_bool' w 9999 t _ _ hu, beqB, nt]⟩
    · exact h.elim
  · rename_i b b'
    rw [show ux = .string b from hx, show uy = .string b' from hy]
    split at h
    · exact ⟨_, _, h, rfl, by simp [eqGuard, binOp, Op.stringOp, seqB, str_eq]⟩
    · exact ⟨_, _, h, rfl, by simp [eqGuard, binOp, Op.stringOp, seqB, str_eq, nt, bne]⟩
    · obtain ⟨hc, h⟩ := fk_yes h
      have hc : b.size + b'.size ≤ 9223372036854775807 := of_decide_eq_true hc
      exact ⟨_, _, h, rfl, by simp [eqGuard, binOp, Op.stringOp, scat]; omega⟩
    · exact h.elim
  · rename_i s r1 s' r2
    obtain ⟨hs, h⟩ := fk_yes h
    split at hs
    · rename_i s0 h0
      obtain ⟨e1, e2⟩ := and2 hs
      have e1 := shEq_eq _ _ e1
      have e2 := shEq_eq _ _ e2
      subst e1; subst e2
      split at h
      · rename_i b hb
        unfold eqT at h0
        split at h0
        · cases h0
        · rename_i hg
          split at h0
          · rename_i s1 n h1 h2
            split at h0
            · rename_i hn
              cases h0
              obtain ⟨vx, rfl, hvx⟩ := hx
              obtain ⟨vy, rfl, hvy⟩ := hy
              obtain ⟨dd, i, hu, hi, hd, hsz⟩ := aggT_desc h2
              have hst : szT P t = some s'.length := by simp [szT, hi, hsz, hn]
              obtain ⟨p', q', hp, hq, hr⟩ := plain_run (P := P) (z := z) (w := w) 8 t s' h1 hst 10000 (by omega) s' r1 r2 vx vy 0 b hvx hvy (by simp) hb
              rw [run_part_agg hu hd hst] at hp hq
              cases hp; cases hq
              have l1 := hvx.all.2.1
              have l2 := hvy.all.2.1
              rw [List.drop_zero, List.drop_zero, List.take_of_length_le (by omega), List.take_of_length_le (by omega)] at hr
              split at h
              · refine ⟨_, _, h, rfl, ?_⟩
                rw [Sem.run_bind, run_eqGuard_agg w .eql t p r _ _ (by simpa using hg), Result.andThen_ok, run_eql_struct, hr]; simp
              · refine ⟨_, _, h, rfl, ?_⟩
                rw [Sem.run_bind, run_eqGuard_agg w .neq t p r _ _ (by simpa using hg), Result.andThen_ok, run_neq_struct, hr]; simp [nt]
              · exact h.elim
            · cases h0
          · cases h0
      · exact h.elim
    · cases hs
  · exact h.elim
theorem nilB_ok {op : BinOp} {p : Bool → Prop} {f : DC → Prop} {t e : TypeId} {a : Option Addr} {n c : Nat} (h : nilB op p f) (hp : p a.isNone) (ht : P.underlying t = some (.slice e)) (p1 p2 : Operand) : ∃ d u, f d ∧ CV φ z d u ∧ (do eqGuard op t p1 p2 (.slice a n c) (.slice none 0 0); binOp op t (.slice a n c) (.slice none 0 0) : Sem Value).run P w = .ok u w := by
  cases op <;> first | exact False.elim h | skip
  · exact ⟨_, _, h _ hp, rfl, by simp [eqGuard, Lib.run_eql_slice_nil w t e a n c 0 0 ht]⟩
  · exact ⟨_, _, h _ hp, rfl, by simp [eqGuard, binOp, Op.equal, Op.maxDepth, Lib.run_equalIn_slice_nil w 9999 t e a n c 0 0 ht, nt]⟩
theorem nilV_ok {op : BinOp} {f : DC → Prop} {t : TypeId} {x : DC} {u : Value} (h : nilV P t op x f) (hx : CV φ z x u) (p1 p2 : Operand) : ∃ d v, f d ∧ CV φ z d v ∧ (do eqGuard op t p1 p2 u (.slice none 0 0); binOp op t u (.slice none 0 0) : Sem Value).run P w = .ok v w := by
  unfold nilV at h
  split at h
  · rename_i e ht
    have plain : ∀ {e : Sh} {l : List Row}, SlD z e l u → nilB op (fun b => b = true → l = []) f → ∃ d v, f d ∧ CV φ z d v ∧ (do eqGuard op t p1 p2 u (.slice none 0 0); binOp op t u (.slice none 0 0) : Sem Value).run P w = .ok v w := by
      rintro e l ⟨p, cap, rfl, h1, h2⟩ h
      refine nilB_ok h (fun hn => ?_) ht p1 p2
      rcases h2 with h2 | ⟨b, off, arr, T, fz, rfl, _⟩
      · exact h2
      · cases hn
    split at h
    · have hx : u = .slice none 0 0 := hx
      subst hx
      exact nilB_ok h rfl ht p1 p2
    · exact plain hx h
    · exact plain hx.1 h
    · obtain ⟨_, p, n, cap, rfl⟩ := hx
      exact nilB_ok h trivial ht p1 p2
    · exact h.elim
  · exact h.elim
theorem isNilC_eq {y : Operand} (h : isNilC y = true) : y = .const (.slice none 0 0) := by
  unfold isNilC at h
  split at h
  · rfl
  · cases h
theorem d_binOp {op : BinOp} {t u : TypeId} {x y : Operand} (g : Gv G φ z fr m nx a w k) (h : dop P call fr m nx (.binOp op t x y u) k) : Done P G φ z nx (.binOp op t x y u) ty a.eval w k := by
  simp only [dop] at h
  cases hn : isNilC y with
  | true =>
    rw [hn] at h
    have := isNilC_eq hn
    subst this
    obtain ⟨c, h1, h⟩ := onC_ok h
    obtain ⟨d, v, h3, h4, h5⟩ := nilV_ok (w := w) h (ev_ok g.fr h1) x (.const (.slice none 0 0))
    refine Done.val g h3 (show VR φ z (.c d) v from h4) ?_
    simp only [opR, execOp]
    rw [Sem.run_bind]
    show ((do eqGuard op t x (.const (.slice none 0 0)) (a.eval x) (.slice none 0 0); binOp op t (a.eval x) (.slice none 0 0) : Sem Value).run P w).andThen _ = _
    rw [h5]; rfl
  | false =>
  rw [hn] at h
  obtain ⟨v1, h1, h⟩ := oP_ok h
  obtain ⟨v2, h2, h⟩ := oP_ok h
  obtain ⟨c, uu, h3, h4, h5⟩ := binV_ok (w := w) h (ev_ok g.fr h1) (ev_ok g.fr h2) x y
  refine Done.val g h3 h4 ?_
  simp only [opR, execOp]
  rw [Sem.run_bind, h5]; rfl
theorem d_not {t : TypeId} {x : Operand} (g : Gv G φ z fr m nx a w k) (h : dop P call fr m nx (.unOp .not t x) k) : Done P G φ z nx (.unOp .not t x) ty a.eval w k := by
  obtain ⟨b, h1, h⟩ := onB_ok h
  have hb : a.eval x = .bool b := ev_ok g.fr h1
  exact Done.val g (v := .c (.b (nt b))) (u := .bool (!b)) h rfl (by simp [opR, execOp, hb, Op.unary])
theorem d_neg {t : TypeId} {x : Operand} (g : Gv G φ z fr m nx a w k) (h : dop P call fr m nx (.unOp .neg t x) k) : Done P G φ z nx (.unOp .neg t x) ty a.eval w k := by
  obtain ⟨q, n, h1, h⟩ := onI_ok h
  have hb : a.eval x = .int q n := ev_ok g.fr h1
  exact Done.val g (u := .int q (q.wrap (0 - n))) h rfl (by simp [opR, execOp, hb, Op.unary, Op.intArith])
theorem d_xorU {t : TypeId} {x : Operand} (g : Gv G φ z fr m nx a w k) (h : dop P call fr m nx (.unOp .xor t x) k) : Done P G φ z nx (.unOp .xor t x) ty a.eval w k := by
  obtain ⟨q, n, h1, h⟩ := onI_ok h
  have hb : a.eval x = .int q n := ev_ok g.fr h1
  refine Done.val g (u := .int q (xbit .xor q (bif q.signed then -1 else q.max) n)) h rfl ?_
  cases hs : q.signed <;> simp [opR, execOp, hb, Op.unary, Op.intBits, xbit, hs]
theorem d_nilCheck {x : Operand} (g : Gv G φ z fr m nx a w k) (h : dop P call fr m nx (.nilCheck x) k) : Done P G φ z nx (.nilCheck x) ty a.eval w k := by
  obtain ⟨c, h1, h⟩ := onC_ok h
  have hv : CV φ z c (a.eval x) := ev_ok g.fr h1
  split at h
  · obtain ⟨b, _, hp⟩ := hv
    exact Done.val g h (show VR φ z _ (a.eval x) from ev_ok g.fr h1) (by simp [opR, execOp, hp])
  · obtain ⟨b, o, arr, T, fz, hp, _⟩ := hv
    exact Done.val g h (show VR φ z _ (a.eval x) from ev_ok g.fr h1) (by simp [opR, execOp, hp])
  · obtain ⟨b, n, cap, _, hp⟩ := hv
    exact Done.val g h (show VR φ z _ (a.eval x) from ev_ok g.fr h1) (by simp [opR, execOp, hp])
  · obtain ⟨xs, hp, _⟩ := hv
    exact Done.val g h (show VR φ z _ (a.eval x) from ev_ok g.fr h1) (by simp [opR, execOp, hp])
  · exact h.elim
theorem d_convert {s d : TypeId} {x : Operand} (g : Gv G φ z fr m nx a w k) (hB : ∀ e, P.underlying s = some (.slice e) → P.underlying d = some .string → convB P e fr m x (fun c => k (.c c) m nx) → Done P G φ z nx (.convert s d x) ty a.eval w k) (h : dop P call fr m nx (.convert s d x) k) : Done P G φ z nx (.convert s d x) ty a.eval w k := by
  simp only [dop] at h
  split at h
  · rename_i q1 q hs hd
    obtain ⟨q0, n, h1, h⟩ := onI_ok h
    have hb : a.eval x = .int q0 n := ev_ok g.fr h1
    exact Done.val g (v := .c (.i q (wr q n))) (u := .int q (q.wrap n)) h rfl (by simp [opR, execOp, hb, convert, run_underlying hs, run_underlying hd, Conv.intToInt])
  · rename_i hs hd
    obtain ⟨c, h1, h⟩ := onC_ok h
    split at h
    · rename_i y
      have hb : a.eval x = .string y := ev_ok g.fr h1
      exact Done.val g (v := .c (.s y)) (u := .string y) h rfl (by simp [opR, execOp, hb, convert, run_underlying hs, run_underlying hd])
    · exact h.elim
  · rename_i e hs hd
    exact hB e hs hd h
  · exact h.elim
theorem offOf_ok {t : TypeId} {f o n : Nat} {b : Bool} (h : offOf P t f = some (o, b, n)) : ∃ fs fd, P.underlying t = some (.struct fs) ∧ fs[f]? = some fd ∧ aggT P fd.type = some (b, n) ∧ fd.offset = o := by
  unfold offOf at h
  split at h
  · rename_i fs hu
    split at h
    · rename_i fd hf
      split at h
      · rename_i b' n' ha
        cases h; exact ⟨fs, fd, hu, hf, ha, rfl⟩
      · cases h
    · cases h
  · cases h
theorem d_fieldAddr {t : TypeId} {x : Operand} {f : Nat} (g : Gv G φ z fr m nx a w k) (h : dop P call fr m nx (.fieldAddr t x f) k) : Done P G φ z nx (.fieldAddr t x f) ty a.eval w k := by
  simp only [dop] at h
  split at h
  · rename_i o b n ho
    obtain ⟨fs, fd, hu, hf, ha, rfl⟩ := offOf_ok ho
    obtain ⟨hn, h⟩ := fk_yes h
    have hn : 1 ≤ n := Nat.le_of_ble_eq_true hn
    have hne : n ≠ 0 := by omega
    have hs := (aggT_run ha w).2
    obtain ⟨c, h1, h⟩ := onC_ok h
    have hv : CV φ z c (a.eval x) := ev_ok g.fr h1
    split at h
    · rename_i y off
      obtain ⟨bl, h2, hp⟩ := hv
      refine Done.val g (u := .pointer (some ⟨bl, off + fd.offset, none⟩)) h ⟨bl, h2, rfl⟩ ?_
      simp [opR, execOp, Instr.fieldAt, run_underlying hu, hf, hp, Instr.sureAddr, fieldPlace, hs, hne, Addr.add_lit, Nat.add_assoc]
    · rename_i e r off
      obtain ⟨bl, base, arr, T, fz, hp, h3⟩ := hv
      refine Done.val g (u := .pointer (some ⟨bl, base + (off + fd.offset), none⟩)) h ⟨bl, base, arr, T, fz, rfl, h3⟩ ?_
      simp [opR, execOp, Instr.fieldAt, run_underlying hu, hf, hp, Instr.sureAddr, fieldPlace, hs, hne, Addr.add_lit, Nat.add_assoc]
    · rename_i y e i off
      obtain ⟨bl, o, n', cap, h2, hp⟩ := hv
      refine Done.val g (u := .pointer (some ⟨bl, o + i * e.length + (off + fd.offset), none⟩)) h ⟨bl, o, n', cap, h2, rfl⟩ ?_
      simp [opR, execOp, Instr.fieldAt, run_underlying hu, hf, hp, Instr.sureAddr, fieldPlace, hs, hne, Addr.add_lit, Nat.add_assoc]
    · exact h.elim
  · exact h.elim
theorem shEq_refl : ∀ (s : Sh), shEq s s = true
  | [] => rfl
  | k :: s => by
    simp only [shEq, shEq_refl s, Bool.and_true]
    exact kd k where
 kd : ∀ (k : Kd), Kd.beq k k = true
  | .b => rfl
  | .i q => by simp [Kd.beq]
  | .s => rfl
  | .sl e => by simp only [Kd.beq]; exact shEq_refl e
theorem fieldV_ok {agg : Bool} {off n : Nat} {v u : V} {vs : List Value} (e : fieldV agg off n v = some u) (h : VR φ z v (.agg vs.toArray)) : ∃ y, VR φ z u y ∧ (agg = true → y = .agg ((vs.drop off).take n).toArray) ∧ (agg = false → vs[off]? = some y) := by
  cases v with
  | c c =>  cases e
  | t l => cases e
  | r s r =>
    obtain ⟨vs', he, hr⟩ := h
    have : vs' = vs := by
      have := congrArg (fun v : Value => match v with | .agg x => x.toList | _ => []) he
      simpa using this.symm
    subst this
    have hf : fits s off ((s.drop off).take n) = true := by
      unfold fits
      have : (s.drop off).take ((s.drop off).take n).length = (s.drop off).take n := by
        rw [List.length_take]
        rcases Nat.le_total n (s.drop off).length with h | h
        · rw [Nat.min_eq_left h]
        · rw [Nat.min_eq_right h, List.take_of_length_le (Nat.le_refl _), List.take_of_length_le h]
      rw [this]; exact shEq_refl _
    obtain ⟨i1, i2, i3⟩ := valAt_ok (φ := φ) hr hf e
    have hl := hr.all.2.1
    have htk : (vs'.drop off).take ((s.drop off).take n).length = (vs'.drop off).take n := by
      rw [List.length_take]
      have hlen : (s.drop off).length = (vs'.drop off).length := by simp [hl]
      rcases Nat.le_total n (s.drop off).length with h | h
      · rw [Nat.min_eq_left h]
      · rw [Nat.min_eq_right h, List.take_of_length_le (by omega), List.take_of_length_le (by omega)]
    refine ⟨_, i1, fun ha => by subst ha; rw [htk]; rfl, fun ha => ?_⟩
    subst ha
    have h1 := i3 rfl
    rw [h1] at i2 ⊢
    cases hq : (vs'.drop off).take 1 with
    | nil => rw [hq] at i2; cases i2
    | cons y l =>
      have : ((vs'.drop off).take 1)[0]? = some y := by rw [hq]; rfl
      simpa [mkU] using this
  | a l =>
    obtain ⟨vs', he, hr⟩ := h
    have : vs' = vs := by
      have := congrArg (fun v : Value => match v with | .agg x => x.toList | _ => []) he
      simpa using this.symm
    subst this
    have e : (bif agg then some (V.a ((l.drop off).take n)) else (l[off]?).map .c) = some u := e
    cases agg with
    | true =>
      cases e
      exact ⟨_, ⟨_, rfl, (hr.drop off).take n⟩, fun _ => rfl, fun h => by cases h⟩
    | false =>
      obtain ⟨c, hc, rfl⟩ := map_some e
      obtain ⟨y, h1, h2⟩ := hr.get hc
      exact ⟨y, h2, (fun h => by cases h), fun _ => h1⟩
theorem aggV {v u : V} {agg : Bool} {off n : Nat} {x : Value} (e : fieldV agg off n v = some u) (h : VR φ z v x) : ∃ vs : List Value, x = .agg vs.toArray := by
  cases v with
  | c c => cases e
  | t l => cases e
  | r s r => obtain ⟨vs, rfl, _⟩ := h; exact ⟨vs, rfl⟩
  | a l => obtain ⟨vs, rfl, _⟩ := h; exact ⟨vs, rfl⟩
theorem d_field {t : TypeId} {x : Operand} {f : Nat} (g : Gv G φ z fr m nx a w k) (h : dop P call fr m nx (.field t x f) k) : Done P G φ z nx (.field t x f) ty a.eval w k := by
  simp only [dop] at h
  split at h
  · rename_i o b n ho
    obtain ⟨fs, fd, hu, hf, ha, rfl⟩ := offOf_ok ho
    obtain ⟨v, h1, h⟩ := oP_ok h
    obtain ⟨u, h2, h⟩ := oP_ok h
    have hv : VR φ z v (a.eval x) := ev_ok g.fr h1
    obtain ⟨vs, hvs⟩ := aggV h2 hv
    rw [hvs] at hv
    obtain ⟨y, h3, h4, h5⟩ := fieldV_ok h2 hv
    refine Done.val g h h3 ?_
    simp [opR, execOp, Instr.field, run_underlying hu, hf, hvs, asAgg, run_part ha h4 h5]
  · exact h.elim
theorem inR_ok {j n : Int} (h : inR j n = true) : ∃ i : Nat, j = (i : Int) ∧ (i : Int) < n ∧ tn j = i := by
  obtain ⟨h1, h2⟩ := and2 h
  have h1 : 0 ≤ j := of_decide_eq_true h1
  have h2 : j < n := of_decide_eq_true h2
  refine ⟨j.toNat, by omega, by omega, rfl⟩
theorem run_asIntOf (k : IntKind) (n : Int) : asIntOf (.int k n) = pure (k, n) := rfl
theorem splitI_ok {f : Nat → Prop} {j : Int} : ∀ {n i : Nat}, splitI f j n i → ∃ t : Nat, j = (t : Int) ∧ f t
  | 0, i, h => h.elim
  | n + 1, i, h => by
    rcases fk_ok (show fk (ieq j (Int.ofNat i)) (f i) (splitI f j n (i + 1)) from h) with ⟨h1, h2⟩ | ⟨_, h2⟩
    · exact ⟨i, of_decide_eq_true h1, h2⟩
    · exact splitI_ok h2
theorem d_index {t : TypeId} {x i : Operand} (g : Gv G φ z fr m nx a w k) (h : dop P call fr m nx (.index t x i) k) : Done P G φ z nx (.index t x i) ty a.eval w k := by
  simp only [dop] at h
  split at h
  · rename_i hu
    obtain ⟨c, h1, h'⟩ := onC_ok h
    obtain ⟨kk, j, h2, h⟩ := onI_ok h'
    clear h'
    split at h
    · rename_i y
      obtain ⟨hj, h⟩ := fk_yes h
      obtain ⟨i', rfl, hlt, htn⟩ := inR_ok hj
      have hlt : i' < y.size := by unfold ssz at hlt; omega
      have hv : a.eval x = .string y := ev_ok g.fr h1
      have hi : a.eval i = .int kk (i' : Int) := ev_ok g.fr h2
      refine Done.val g (u := .int .u8 (byt y i')) h rfl ?_
      have hlt2 : i' < y.data.size := hlt
      have hb : y[i'] = y.data[i'] := rfl
      simp [opR, execOp, Instr.index, hi, run_asIntOf, run_underlying hu, hv, hlt, byt, hlt2, hb]
    · exact h.elim
  · rename_i q e hu
    split at h
    · rename_i agg n ha
      obtain ⟨v, h1, h⟩ := oP_ok h
      obtain ⟨kk, j, h2, h⟩ := onI_ok h
      obtain ⟨hj, h⟩ := fk_yes h
      obtain ⟨i', rfl, hlt, htn⟩ := inR_ok hj
      obtain ⟨t0, ht0, hs1⟩ := splitI_ok h
      have ht1 : t0 = i' := by omega
      subst ht1
      obtain ⟨u, h3, hK⟩ := oP_ok hs1
      have hlt : t0 < q := by omega
      have hi : a.eval i = .int kk (t0 : Int) := ev_ok g.fr h2
      have hv : VR φ z v (a.eval x) := ev_ok g.fr h1
      obtain ⟨vs, hvs⟩ := aggV h3 hv
      rw [hvs] at hv
      obtain ⟨y, h4, h5, h6⟩ := fieldV_ok h3 hv
      refine Done.val g hK h4 ?_
      simp [opR, execOp, Instr.index, hi, run_asIntOf, run_underlying hu, hvs, hlt, (aggT_run ha w).2, run_part ha h5 h6]
    · exact h.elim
  · exact h.elim
theorem d_extract {x : Operand} {i : Nat} (g : Gv G φ z fr m nx a w k) (h : dop P call fr m nx (.extract x i) k) : Done P G φ z nx (.extract x i) ty a.eval w k := by
  obtain ⟨v, h1, h⟩ := oP_ok h
  obtain ⟨l, h2, h⟩ := oP_ok h
  obtain ⟨u, h3, hK⟩ := oP_ok h
  clear h
  cases v <;> first | (cases h2; done) | skip
  cases h2
  obtain ⟨vs, hvs, h4⟩ : VR φ z (.t _) (a.eval x) := ev_ok g.fr h1
  obtain ⟨y, h5, h6⟩ := h4.get h3
  exact Done.val g hK h6.vr (by simp [opR, execOp, Instr.extract, hvs, h5])
theorem d_makeFunc {f : FuncId} {first caps : Array Operand} (g : Gv G φ z fr m nx a w k) (h : dop P call fr m nx (.makeFunc (.func f) first caps) k) : Done P G φ z nx (.makeFunc (.func f) first caps) ty a.eval w k := by
  simp only [dop] at h
  split at h
  · rename_i hf0
    obtain ⟨vs, h1, h⟩ := oP_ok h
    obtain ⟨l, h2, h⟩ := oP_ok h
    have hvs := evs_ok g.fr h1
    refine Done.val g (u := .func (.func f) (first.map a.eval) (caps.map a.eval)) h ?_ (by simp [opR, execOp, Instr.makeFunc])
    have hfe : first = #[] := by cases first; simpa using hf0
    subst hfe
    refine ⟨caps.toList.map a.eval, by rw [show caps.map a.eval = (caps.toList.map a.eval).toArray from Array.ext' (by simp)]; simp, ?_⟩
    have key : ∀ {vs : List V} {l : List Nat} {us : List Value}, vs.foldr (fun v o => match v, o with | .c (.pv x 0), some l => some (x :: l) | _, _ => none) (some []) = some l → All2 (VR φ z) vs us → All2 (fun x u => ∃ b, φ x = some (.pointer (some ⟨b, 0, none⟩)) ∧ u = .pointer (some ⟨b, 0, none⟩)) l us := by
      intro vs
      induction vs with
      | nil => intro l us h1 h2; cases h1; cases h2; exact .nil
      | cons v vs ih =>
        intro l us h1 h2
        cases h2 with
        | cons hv ht =>
          simp only [List.foldr_cons] at h1
          split at h1
          · rename_i x l' heq
            cases h1
            exact .cons hv (ih heq ht)
          · cases h1
    exact key h2 hvs
  · rename_i y hf0
    split at h
    · rename_i hc0
      obtain ⟨c, h1, h⟩ := onC_ok h
      split at h
      · rename_i x
        obtain ⟨b, hb, hv⟩ : CV φ z (.pv x 0) (a.eval y) := ev_ok g.fr h1
        have hfe : first = #[y] := by cases first; simpa using hf0
        have hce : caps = #[] := by cases caps; simpa using hc0
        subst hfe; subst hce
        exact Done.val g (u := .func (.func f) (#[y].map a.eval) (#[].map a.eval)) h (show ∃ b, _ from ⟨b, hb, by simp [hv]⟩) (by simp [opR, execOp, Instr.makeFunc])
      · exact h.elim
    · exact h.elim
  · exact h.elim
end
end Go.Proofs.YtgjindhjgmplgaaGreat
end
section
set_option linter.constructorNameAsVariable false
namespace Go.Proofs.YtgjindhjgmplgaaGreat
open Go.RowKit
section
variable {P : Program} {G : Gd} {φ : Emb} {z : Fz} {fr : Frs} {m : Mem} {nx : Nat} {a : Act} {w : World} {k : KVk} {ty : TypeId} {call : CallF}
theorem rw'_get {l : List Row} {i : Nat} (h : i < l.length) : l[i]? = some (rw' l i) := by
  unfold rw'; rw [List.getD_eq_getElem?_getD, List.getElem?_eq_getElem h]; rfl
theorem rowsOf_ok (r : MR G φ z m w) {c : DC} {s : Sh} {l : List Row} {u : Value} (e : rowsOf m c = some (s, l)) (h : CV φ z c u) : ∃ p cap, u = .slice p l.length cap ∧ l.length ≤ cap := by
  unfold rowsOf at e
  split at e
  · cases e; obtain ⟨p, cap, rfl, h1, _⟩ := h; exact ⟨p, cap, rfl, h1⟩
  · cases e; obtain ⟨p, rfl⟩ := h.2; exact ⟨p, _, rfl, Nat.le_refl _⟩
  · split at e
    · rename_i x _ s' l' hx
      cases e
      rcases r.blk x _ hx with ⟨h1, h2⟩ | ⟨b, off, arr, T, cap, h1, h2, _⟩
      · obtain ⟨hu, _⟩ := h; rw [h1] at hu; cases hu; subst h2; exact ⟨none, 0, rfl, Nat.le_refl _⟩
      · obtain ⟨hu, _⟩ := h; rw [h1] at hu; cases hu; exact ⟨_, cap, rfl, h2⟩
    · cases e
  · cases e
theorem d_indexAddr {t : TypeId} {x i : Operand} (g : Gv G φ z fr m nx a w k) (h : dop P call fr m nx (.indexAddr t x i) k) : Done P G φ z nx (.indexAddr t x i) ty a.eval w k := by
  simp only [dop] at h
  split at h
  · rename_i el hu
    split at h
    · rename_i agg n ha
      obtain ⟨c, h1, hA⟩ := onC_ok h
      obtain ⟨kk, j, h2, hB⟩ := onI_ok hA
      clear h hA
      have h := hB
      clear hB
      have hv : CV φ z c (a.eval x) := ev_ok g.fr h1
      split at h
      · rename_i y cnt
        obtain ⟨hn, h0⟩ := fk_yes h
        obtain ⟨hj, hK⟩ := fk_yes h0
        clear h h0
        have hn := Nat.eq_of_beq_eq_true hn
        obtain ⟨i', rfl, hlt, htn⟩ := inR_ok hj
        obtain ⟨t0, ht0, hK1⟩ := splitI_ok hK
        have ht1 : t0 = i' := by omega
        subst ht1
        have hlt : t0 < cnt := by simpa using hlt
        have hi : a.eval i = .int kk (t0 : Int) := ev_ok g.fr h2
        have hs := (aggT_run ha w).2
        obtain ⟨b, hb, hp⟩ := hv
        refine Done.val g (u := .pointer (some ⟨b, t0, none⟩)) hK1 ⟨b, hb, rfl⟩ ?_
        simp [opR, execOp, Instr.indexAt, hi, run_asIntOf, run_underlying hu, hp, hlt, hs, hn, Addr.add_lit]
      rename_i hno
      split at h
      · rename_i s l hr
        obtain ⟨hn, h⟩ := fk_yes h
        obtain ⟨hj, hK⟩ := fk_yes h
        clear h
        have hn := Nat.eq_of_beq_eq_true hn
        obtain ⟨i', rfl, hlt, htn⟩ := inR_ok hj
        rw [htn] at hK
        have hlt : i' < l.length := by unfold ln at hlt; omega
        have hi : a.eval i = .int kk (i' : Int) := ev_ok g.fr h2
        have hs := (aggT_run ha w).2
        unfold rowsOf at hr
        have frz : SlD z s l (a.eval x) → k (.c (.pf s (rw' l i') 0)) m nx → Done P G φ z nx (.indexAddr t x i) ty a.eval w k := by
          intro hsl hK
          obtain ⟨p, cap, hp, hcap, hrows⟩ := hsl
          rcases hrows with hrows | ⟨b, off, arr, T, fz, rfl, h5, h6⟩
          · rw [hrows] at hlt; cases hlt
          · refine Done.val g (u := .pointer (some ⟨b, off + i' * s.length + 0, none⟩)) hK ⟨b, off + i' * s.length, arr, T, fz, rfl, h5, h6 i' _ (rw'_get hlt)⟩ ?_
            simp [opR, execOp, Instr.indexAt, hi, run_asIntOf, run_underlying hu, hp, hlt, hs, Addr.add_lit, hn]
        split at hr
        · cases hr; exact frz hv hK
        · cases hr; exact frz hv.1 hK
        · split at hr
          · rename_i hy
            cases hr
            rcases g.m.blk _ _ hy with ⟨q1, q2⟩ | ⟨b, off, arr, T, cap, q1, q2, q3, q4, q5⟩
            · rw [q2] at hlt; cases hlt
            · obtain ⟨hv, _⟩ := hv
              have hp : a.eval x = .slice (some ⟨b, off, none⟩) l.length cap := Option.some.inj (hv.symm.trans q1)
              refine Done.val g (u := .pointer (some ⟨b, off + i' * s.length + 0, none⟩)) hK ⟨b, off, _, _, q1, rfl⟩ ?_
              simp [opR, execOp, Instr.indexAt, hi, run_asIntOf, run_underlying hu, hp, hlt, hs, Addr.add_lit, hn]
          · cases hr
        · cases hr
      · exact h.elim
    · exact h.elim
  · rename_i q e hu
    split at h
    · rename_i agg n ha
      obtain ⟨c, h1, h⟩ := onC_ok h
      obtain ⟨kk, j, h2, h⟩ := onI_ok h
      have hv : CV φ z c (a.eval x) := ev_ok g.fr h1
      obtain ⟨hj, hK⟩ := fk_yes h
      clear h
      obtain ⟨i', rfl, hlt, htn⟩ := inR_ok hj
      have hlt : i' < q := by omega
      obtain ⟨t0, ht0, hK1⟩ := splitI_ok hK
      clear hK
      have ht1 : t0 = i' := by omega
      subst ht1
      have hi : a.eval i = .int kk (t0 : Int) := ev_ok g.fr h2
      have hs := (aggT_run ha w).2
      split at hK1
      · rename_i y off
        obtain ⟨b, h3, hp⟩ := hv
        refine Done.val g (u := .pointer (some ⟨b, off + t0 * n, none⟩)) hK1 ⟨b, h3, rfl⟩ ?_
        simp [opR, execOp, Instr.indexAt, hi, run_asIntOf, run_underlying hu, hp, Instr.sureAddr, hlt, hs, Addr.add_lit, Nat.add_assoc]
      · rename_i s r off
        obtain ⟨b, o, arr, T, fz, hp, h3⟩ := hv
        refine Done.val g (u := .pointer (some ⟨b, o + (off + t0 * n), none⟩)) hK1 ⟨b, o, arr, T, fz, rfl, h3⟩ ?_
        simp [opR, execOp, Instr.indexAt, hi, run_asIntOf, run_underlying hu, hp, Instr.sureAddr, hlt, hs, Addr.add_lit, Nat.add_assoc]
      · rename_i y s o off
        obtain ⟨b, p0, n', cap, h3, hp⟩ := hv
        refine Done.val g (u := .pointer (some ⟨b, p0 + o * s.length + (off + t0 * n), none⟩)) hK1 ⟨b, p0, n', cap, h3, rfl⟩ ?_
        simp [opR, execOp, Instr.indexAt, hi, run_asIntOf, run_underlying hu, hp, Instr.sureAddr, hlt, hs, Addr.add_lit, Nat.add_assoc]
      · exact hK1.elim
    · exact h.elim
  · exact h.elim
theorem SlD.part {e : Sh} {rows : List Row} {p : Option Addr} {cap l u m : Nat} (h : SlD z e rows (.slice p rows.length cap)) (hl : l ≤ u) (hu : u ≤ rows.length) (hm : u ≤ m) : SlD z e ((rows.take u).drop l) (.slice (if m = l then p else p.map (·.add (l * e.length))) (u - l) (m - l)) := by
  obtain ⟨p', cap', h1, h2, h3⟩ := h
  cases h1
  have hlen : ((rows.take u).drop l).length = u - l := by simp; omega
  refine ⟨_, _, by rw [hlen], by rw [hlen]; omega, ?_⟩
  by_cases hlu : l = u
  · left; subst hlu; simp
  · rcases h3 with h3 | ⟨b, off, arr, T, fz, rfl, h5, h6⟩
    · rw [h3] at hu; simp at hu; omega
    · refine .inr ⟨b, off + l * e.length, arr, T, fz, ?_, h5, fun i row hr => ?_⟩
      · rw [if_neg (by omega)]; simp [Addr.add_lit]
      · have hi : i < u - l := by
          have := (List.getElem?_eq_some_iff.1 hr).1
          omega
        rw [List.getElem?_drop, List.getElem?_take_of_lt (by omega)] at hr
        have := h6 (l + i) row hr
        rw [Nat.add_mul, ← Nat.add_assoc] at this
        exact this
theorem run_sliceBound {q : IntKind} {n y : Nat} (hn : n ≤ y) (code : BoundsCode) : (Instr.sliceBound (.int q n) y code).run P w = .ok n w := by
  simp [Instr.sliceBound, run_asIntOf, hn]
theorem bnd_ok (hf : FR φ z fr a.tmps) {d : Int} {o : Option Operand} {K : Int → Prop} (h : bnd fr d o K) : (o = none ∧ K d) ∨ ∃ x q n, o = some x ∧ a.eval x = .int q n ∧ K n := by
  cases o with
  | none => exact .inl ⟨rfl, h⟩
  | some x =>
    obtain ⟨q, n, h1, h2⟩ := onI_ok h
    exact .inr ⟨x, q, n, rfl, ev_ok hf h1, h2⟩
theorem partOf_ok (r : MR G φ z m w) {c : DC} {x : Nat} {e : Sh} {lo hi n : Int} {l : List (Option Row)} {u : Value} (h : partOf m c = some (x, e, lo, hi, n, l)) (hc : CV φ z c u) : look x m = some (.J e n l) ∧ ∃ (p : Option Addr) (k a b : Nat), φ x = some (.slice p k l.length) ∧ n = k ∧ k ≤ l.length ∧ lo = a ∧ hi = b ∧ a ≤ b ∧ b ≤ l.length ∧ PartV p a b l.length e.length u := by
  have cap : ∀ {y : Nat} {e : Sh} {n : Int} {l : List (Option Row)}, look y m = some (.J e n l) → ∃ (p : Option Addr) (k : Nat), φ y = some (.slice p k l.length) ∧ n = k ∧ k ≤ l.length := by
    intro y e n l hy
    rcases r.blk y _ hy with ⟨h1, rfl, rfl⟩ | ⟨b, off, arr, T, k, h1, h2, h3, _⟩
    · exact ⟨none, 0, h1, rfl, Nat.le_refl _⟩
    · exact ⟨_, k, h1, h2, h3⟩
  unfold partOf at h
  split at h
  · rename_i y e1 lo1 hi1
    split at h
    · rename_i e' n' l' hy
      cases hb : shEq e1 e' with
      | false => rw [hb] at h; cases h
      | true =>
        rw [hb] at h; cases h
        have := shEq_eq _ _ hb
        subst this
        obtain ⟨p, k, q1, q2, q3⟩ := cap hy
        obtain ⟨p', k', cap', a, b, h1, h2, h3, h4, h5, h6⟩ := hc
        rw [q1] at h1; cases h1
        exact ⟨hy, p, k, a, b, q1, q2, q3, h2, h3, h4, h5, h6⟩
    · cases h
  · rename_i y
    split at h
    · rename_i e' n' l' hy
      cases h
      obtain ⟨p, k, q1, q2, q3⟩ := cap hy
      obtain ⟨h1, _⟩ := hc
      rw [q1] at h1; cases h1
      refine ⟨hy, p, k, 0, k, q1, q2, q3, rfl, q2, Nat.zero_le _, q3, p, by simp, rfl, fun _ => ?_, fun h => h, fun a ha => ⟨0, Nat.zero_le _, by rw [ha]; simp [Addr.add]⟩⟩
      cases p with
      | none => simp
      | some a => simp [Addr.add]
    · cases h
  · cases h
theorem addr_add (p : Addr) (x y : Nat) : (p.add x).add y = p.add (x + y) := by
  unfold Addr.add
  by_cases h1 : x = 0 <;> by_cases h2 : y = 0 <;> simp [h1, h2, Nat.add_assoc]
theorem PartV.part {p : Option Addr} {a b cap s c d : Nat} {u : Value} (h : PartV p a b cap s u) (h1 : a ≤ b) (h2 : b ≤ cap) (h3 : c ≤ d) (h4 : d ≤ cap - a) : ∃ q, u = .slice q (b - a) (cap - a) ∧ PartV p (a + c) (a + d) cap s (.slice (if cap - a = c then q else q.map (·.add (c * s))) (d - c) (cap - a - c)) := by
  obtain ⟨q, rfl, hq1, hq2, hq3, hq4⟩ := h
  refine ⟨q, rfl, _, by rw [show a + d - (a + c) = d - c by omega, show cap - (a + c) = cap - a - c by omega], ?_, fun hlt => ?_, fun h0 b hb => ?_, fun x hx => ?_⟩
  · split
    · exact hq1
    · rw [← hq1]
      cases q with
      | none => rfl
      | some q => simp [Addr.add]; split <;> rfl
  · rw [if_neg (by omega), hq2 (by omega)]
    cases p with
    | none => rfl
    | some p =>
      simp only [Option.map_some, Nat.add_mul, addr_add]
  · split at hb
    · exact hq3 h0 b hb
    · obtain ⟨q0, h1, rfl⟩ := map_some hb
      unfold Addr.add
      split
      · exact hq3 h0 q0 h1
      · rfl
  · by_cases hc : cap - a = c
    · rw [if_pos hc]; exact hq4 x hx
    · rw [if_neg hc, hq2 (by omega), hx]
      exact ⟨a + c, by omega, by simp [addr_add, Nat.add_mul]⟩
theorem d_slice {t : TypeId} {x : Operand} {lo hi mx : Option Operand} (g : Gv G φ z fr m nx a w k) (h : dop P call fr m nx (.slice t x lo hi mx) k) : Done P G φ z nx (.slice t x lo hi mx) ty a.eval w k := by
  simp only [dop] at h
  split at h
  · rename_i el hu
    split at h
    case h_2 => exact h.elim
    rename_i agg0 n0 ha0
    obtain ⟨c, h1, h⟩ := onC_ok h
    have hv : CV φ z c (a.eval x) := ev_ok g.fr h1
    have key : ∀ {e : Sh} {l : List Row} {s : Nat}, (∀ w, (sizeOf el).run P w = .ok s w) → s = e.length → SlD z e l (a.eval x) → (bnd fr 0 lo fun a => bnd fr (ln l) hi fun b => fk (an (ile 0 a) (an (ile a b) (ile b (ln l)))) (k (.c (.sl e (lsub l a b))) m nx) False) → Done P G φ z nx (.slice t x lo hi none) ty a.eval w k := by
      intro e l s hsz hse hsl h
      obtain ⟨p, cap, hp, hcap, hrows⟩ := hsl
      have hsl' : SlD z e l (.slice p l.length cap) := ⟨p, cap, rfl, hcap, hrows⟩
      have fin : ∀ {A B : Int} {n1 n2 : Nat}, A = n1 → B = n2 → an (ile 0 A) (an (ile A B) (ile B (ln l))) = true → k (.c (.sl e (lsub l A B))) m nx → (Instr.sliceBounds true l.length cap (lo.map a.eval) (hi.map a.eval) none).run P w = .ok (n1, n2, cap) w → Done P G φ z nx (.slice t x lo hi none) ty a.eval w k := by
        intro A B n1 n2 hA hB hc hk hb
        subst hA; subst hB
        obtain ⟨c1, c2⟩ := and2 hc
        obtain ⟨c3, c4⟩ := and2 c2
        have c3 : (n1 : Int) ≤ n2 := of_decide_eq_true c3
        have c4 : (n2 : Int) ≤ l.length := of_decide_eq_true c4
        have hpart := hsl'.part (l := n1) (u := n2) (m := cap) (by omega) (by omega) (by omega)
        refine Done.val g hk (show VR φ z (.c (.sl e (lsub l n1 n2))) _ from hpart) ?_
        simp only [opR, execOp, hp]
        rw [Sem.run_bind]
        have : (Instr.sliceAt t (.slice p l.length cap) (lo.map a.eval) (hi.map a.eval) (Option.map a.eval none)).run P w = .ok (.slice (if cap = n1 then p else p.map (·.add (n1 * s))) (n2 - n1) (cap - n1)) w := by
          simp [Instr.sliceAt, Instr.slice, run_underlying hu, hb, hsz w]
        rw [this, hse]; rfl
      have nn : ∀ {A B : Int}, an (ile 0 A) (an (ile A B) (ile B (ln l))) = true → ∃ n1 n2 : Nat, A = n1 ∧ B = n2 ∧ n1 ≤ n2 ∧ n2 ≤ l.length := by
        intro A B hc
        obtain ⟨c1, c2⟩ := and2 hc
        obtain ⟨c3, c4⟩ := and2 c2
        have c1 : (0 : Int) ≤ A := of_decide_eq_true c1
        have c3 : A ≤ B := of_decide_eq_true c3
        have c4 : B ≤ l.length := of_decide_eq_true c4
        exact ⟨A.toNat, B.toNat, by omega, by omega, by omega, by omega⟩
      rcases bnd_ok g.fr h with ⟨hlo, ha1⟩ | ⟨xl, ql, A, hlo, eA, ha1⟩
      · subst hlo
        rcases bnd_ok g.fr ha1 with ⟨hhi, hb1⟩ | ⟨xh, qh, B, hhi, eB, hb1⟩
        · subst hhi
          obtain ⟨hc, hk⟩ := fk_yes hb1
          exact fin (n1 := 0) (n2 := l.length) rfl rfl hc hk (by simp [Instr.sliceBounds])
        · subst hhi
          obtain ⟨hc, hk⟩ := fk_yes hb1
          obtain ⟨n1, n2, e1, e2, h3, h4⟩ := nn hc
          exact fin (n1 := 0) (n2 := n2) rfl e2 hc hk (by simp [Instr.sliceBounds, eB, e2, run_sliceBound (show n2 ≤ cap by omega)])
      · subst hlo
        rcases bnd_ok g.fr ha1 with ⟨hhi, hb1⟩ | ⟨xh, qh, B, hhi, eB, hb1⟩
        · subst hhi
          obtain ⟨hc, hk⟩ := fk_yes hb1
          obtain ⟨n1, n2, e1, e2, h3, h4⟩ := nn hc
          exact fin (n1 := n1) (n2 := l.length) e1 rfl hc hk (by simp [Instr.sliceBounds, eA, e1, run_sliceBound (show n1 ≤ l.length by omega)])
        · subst hhi
          obtain ⟨hc, hk⟩ := fk_yes hb1
          obtain ⟨n1, n2, e1, e2, h3, h4⟩ := nn hc
          exact fin (n1 := n1) (n2 := n2) e1 e2 hc hk (by simp [Instr.sliceBounds, eA, eB, e1, e2, run_sliceBound h3, run_sliceBound (show n2 ≤ cap by omega)])
    have hsz : ∀ w, (sizeOf el).run P w = .ok n0 w := fun w => (aggT_run ha0 w).2
    split at h
    · obtain ⟨hn, h⟩ := fk_yes h
      exact key hsz (Nat.eq_of_beq_eq_true hn).symm hv h
    · obtain ⟨hn, h⟩ := fk_yes h
      exact key hsz (Nat.eq_of_beq_eq_true hn).symm hv.1 h
    · split at h
      · rename_i y e o u n1 l hpt
        obtain ⟨hn, h⟩ := fk_yes h
        have hn := Nat.eq_of_beq_eq_true hn
        obtain ⟨hy, p, k1, A0, B0, q1, q2, q3, rfl, rfl, q6, q7, q8⟩ := partOf_ok g.m hpt hv
        have fin : ∀ {A B : Int} {n1 n2 : Nat}, A = n1 → B = n2 → an (ile 0 A) (an (ile A B) (ile B (xsub (jcap l) A0))) = true → k (.c (.bp y e (xadd A0 A) (xadd A0 B))) m nx → (Instr.sliceBounds true (B0 - A0) (l.length - A0) (lo.map a.eval) (hi.map a.eval) none).run P w = .ok (n1, n2, l.length - A0) w → Done P G φ z nx (.slice t x lo hi none) ty a.eval w k := by
          intro A B n1 n2 hA hB hc hk hb
          subst hA; subst hB
          obtain ⟨c1, c2⟩ := and2 hc
          obtain ⟨c3, c4⟩ := and2 c2
          have c3 : (n1 : Int) ≤ n2 := of_decide_eq_true c3
          have c4 : (n2 : Int) ≤ l.length - A0 := of_decide_eq_true c4
          obtain ⟨qa, rfl', hpart⟩ := q8.part q6 q7 (c := n1) (d := n2) (by omega) (by omega)
          refine Done.val g hk (show VR φ z (.c (.bp y e (xadd A0 n1) (xadd A0 n2))) _ from ⟨p, k1, l.length, A0 + n1, A0 + n2, q1, by simp [xadd], by simp [xadd], by omega, by omega, hpart⟩) ?_
          simp only [opR, execOp]
          rw [Sem.run_bind]
          have : (Instr.sliceAt t (a.eval x) (lo.map a.eval) (hi.map a.eval) (Option.map a.eval none)).run P w = .ok (.slice (if l.length - A0 = n1 then qa else qa.map (·.add (n1 * n0))) (n2 - n1) (l.length - A0 - n1)) w := by
            rw [rfl']
            simp [Instr.sliceAt, Instr.slice, run_underlying hu, hb, hsz w]
          rw [this, hn]; rfl
        have nn : ∀ {A B : Int}, an (ile 0 A) (an (ile A B) (ile B (xsub (jcap l) A0))) = true → ∃ n1 n2 : Nat, A = n1 ∧ B = n2 ∧ n1 ≤ n2 ∧ n2 ≤ l.length - A0 := by
          intro A B hc
          obtain ⟨c1, c2⟩ := and2 hc
          obtain ⟨c3, c4⟩ := and2 c2
          have c1 : (0 : Int) ≤ A := of_decide_eq_true c1
          have c3 : A ≤ B := of_decide_eq_true c3
          have c4 : B ≤ l.length - A0 := of_decide_eq_true c4
          exact ⟨A.toNat, B.toNat, by omega, by omega, by omega, by omega⟩
        have eu : xsub (B0 : Int) (A0 : Int) = ((B0 - A0 : Nat) : Int) := by unfold xsub; omega
        rcases bnd_ok g.fr h with ⟨hlo, ha1⟩ | ⟨xl, ql, A, hlo, eA, ha1⟩
        · subst hlo
          rcases bnd_ok g.fr ha1 with ⟨hhi, hb1⟩ | ⟨xh, qh, B, hhi, eB, hb1⟩
          · subst hhi
            obtain ⟨hc, hk⟩ := fk_yes hb1
            exact fin (n1 := 0) (n2 := B0 - A0) rfl eu hc hk (by simp [Instr.sliceBounds])
          · subst hhi
            obtain ⟨hc, hk⟩ := fk_yes hb1
            obtain ⟨n1, n2, e1, e2, h3, h4⟩ := nn hc
            exact fin (n1 := 0) (n2 := n2) rfl e2 hc hk (by simp [Instr.sliceBounds, eB, e2, run_sliceBound h4])
        · subst hlo
          rcases bnd_ok g.fr ha1 with ⟨hhi, hb1⟩ | ⟨xh, qh, B, hhi, eB, hb1⟩
          · subst hhi
            obtain ⟨hc, hk⟩ := fk_yes hb1
            obtain ⟨n1, n2, e1, e2, h3, h4⟩ := nn hc
            have e2' : n2 = B0 - A0 := by rw [eu] at e2; omega
            exact fin (n1 := n1) (n2 := B0 - A0) e1 eu hc hk (by simp [Instr.sliceBounds, eA, e1, run_sliceBound (show n1 ≤ B0 - A0 by omega)])
          · subst hhi
            obtain ⟨hc, hk⟩ := fk_yes hb1
            obtain ⟨n1, n2, e1, e2, h3, h4⟩ := nn hc
            exact fin (n1 := n1) (n2 := n2) e1 e2 hc hk (by simp [Instr.sliceBounds, eA, eB, e1, e2, run_sliceBound h3, run_sliceBound h4])
      · exact h.elim
  · -- strings
    rename_i hu
    obtain ⟨c, h1, h⟩ := onC_ok h
    split at h
    · rename_i y
      have hv : a.eval x = .string y := ev_ok g.fr h1
      have fin : ∀ {A B : Int} {n1 n2 : Nat}, A = n1 → B = n2 → k (.c (.s (ssub y A B))) m nx → (Instr.sliceBounds false y.size y.size (lo.map a.eval) (hi.map a.eval) none).run P w = .ok (n1, n2, y.size) w → Done P G φ z nx (.slice t x lo hi none) ty a.eval w k := by
        intro A B n1 n2 hA hB hk hb
        subst hA; subst hB
        refine Done.val g (u := .string (y.extract n1 n2)) hk rfl ?_
        simp [opR, execOp, hv, Instr.sliceAt, Instr.slice, run_underlying hu, hb]
      have nn : ∀ {A B : Int}, an (ile 0 A) (an (ile A B) (ile B (ssz y))) = true → ∃ n1 n2 : Nat, A = n1 ∧ B = n2 ∧ n1 ≤ n2 ∧ n2 ≤ y.size := by
        intro A B hc
        obtain ⟨c1, c2⟩ := and2 hc
        obtain ⟨c3, c4⟩ := and2 c2
        have c1 : (0 : Int) ≤ A := of_decide_eq_true c1
        have c3 : A ≤ B := of_decide_eq_true c3
        have c4 : B ≤ y.size := of_decide_eq_true c4
        exact ⟨A.toNat, B.toNat, by omega, by omega, by omega, by omega⟩
      rcases bnd_ok g.fr h with ⟨hlo, ha1⟩ | ⟨xl, ql, A, hlo, eA, ha1⟩
      · subst hlo
        rcases bnd_ok g.fr ha1 with ⟨hhi, hb1⟩ | ⟨xh, qh, B, hhi, eB, hb1⟩
        · subst hhi
          obtain ⟨hc, hk⟩ := fk_yes hb1
          exact fin (n1 := 0) (n2 := y.size) rfl rfl hk (by simp [Instr.sliceBounds])
        · subst hhi
          obtain ⟨hc, hk⟩ := fk_yes hb1
          obtain ⟨n1, n2, e1, e2, h3, h4⟩ := nn hc
          exact fin (n1 := 0) (n2 := n2) rfl e2 hk (by simp [Instr.sliceBounds, eB, e2, run_sliceBound h4])
      · subst hlo
        rcases bnd_ok g.fr ha1 with ⟨hhi, hb1⟩ | ⟨xh, qh, B, hhi, eB, hb1⟩
        · subst hhi
          obtain ⟨hc, hk⟩ := fk_yes hb1
          obtain ⟨n1, n2, e1, e2, h3, h4⟩ := nn hc
          have e2' : n2 = y.size := by unfold ssz at e2; omega
          exact fin (n1 := n1) (n2 := y.size) e1 rfl hk (by simp [Instr.sliceBounds, eA, e1, run_sliceBound (show n1 ≤ y.size by omega)])
        · subst hhi
          obtain ⟨hc, hk⟩ := fk_yes hb1
          obtain ⟨n1, n2, e1, e2, h3, h4⟩ := nn hc
          exact fin (n1 := n1) (n2 := n2) e1 e2 hk (by simp [Instr.sliceBounds, eA, eB, e1, e2, run_sliceBound h3, run_sliceBound h4])
    · exact h.elim
  · rename_i el mo hu
    split at h
    case h_2 => exact h.elim
    rename_i agg0 n0 ha0
    obtain ⟨c, h1, h⟩ := onC_ok h
    obtain ⟨qm, M, hM, h⟩ := onI_ok h
    have eM : a.eval mo = .int qm M := ev_ok g.fr hM
    have hv : CV φ z c (a.eval x) := ev_ok g.fr h1
    have hsz : ∀ w, (sizeOf el).run P w = .ok n0 w := fun w => (aggT_run ha0 w).2
    have key : ∀ {e : Sh} {l : List Row}, (Nat.beq e.length n0 && hi.isSome) = true → SlD z e l (a.eval x) → (bnd fr 0 lo fun a => bnd fr (ln l) hi fun b => fk (an (ile 0 a) (an (ile a b) (an (ile b (ln l)) (ieq b M)))) (k (.c (.cl e (lsub l a b))) m nx) False) → Done P G φ z nx (.slice t x lo hi (some mo)) ty a.eval w k := by
      intro e l hn hsl h
      obtain ⟨hn, hhs⟩ := and2 hn
      have hse := Nat.eq_of_beq_eq_true hn
      obtain ⟨p, cap, hp, hcap, hrows⟩ := hsl
      have hsl' : SlD z e l (.slice p l.length cap) := ⟨p, cap, rfl, hcap, hrows⟩
      have fin : ∀ {A B : Int} {n1 n2 : Nat}, A = n1 → B = n2 → an (ile 0 A) (an (ile A B) (an (ile B (ln l)) (ieq B M))) = true → k (.c (.cl e (lsub l A B))) m nx → (∀ M', M' = M → (Instr.sliceBounds true l.length cap (lo.map a.eval) (hi.map a.eval) (some (.int qm n2))).run P w = .ok (n1, n2, n2) w) → Done P G φ z nx (.slice t x lo hi (some mo)) ty a.eval w k := by
        intro A B n1 n2 hA hB hc hk hb
        subst hA; subst hB
        obtain ⟨c1, c2⟩ := and2 hc
        obtain ⟨c3, c4⟩ := and2 c2
        obtain ⟨c4, c5⟩ := and2 c4
        have c3 : (n1 : Int) ≤ n2 := of_decide_eq_true c3
        have c4 : (n2 : Int) ≤ l.length := of_decide_eq_true c4
        have c5 : (n2 : Int) = M := of_decide_eq_true c5
        have hpart := hsl'.part (l := n1) (u := n2) (m := n2) (by omega) (by omega) (by omega)
        have hlen : (lsub l n1 n2).length = n2 - n1 := by simp [lsub]; omega
        refine Done.val g hk (show VR φ z (.c (.cl e (lsub l n1 n2))) _ from ⟨hpart, _, by rw [hlen]⟩) ?_
        simp only [opR, execOp, hp]
        rw [Sem.run_bind]
        have : (Instr.sliceAt t (.slice p l.length cap) (lo.map a.eval) (hi.map a.eval) (Option.map a.eval (some mo))).run P w = .ok (.slice (if n2 = n1 then p else p.map (·.add (n1 * n0))) (n2 - n1) (n2 - n1)) w := by
          simp [Instr.sliceAt, Instr.slice, run_underlying hu, eM, ← c5, hb _ rfl, hsz w]
        rw [this, ← hse]; rfl
      have nn : ∀ {A B : Int}, an (ile 0 A) (an (ile A B) (an (ile B (ln l)) (ieq B M))) = true → ∃ n1 n2 : Nat, A = n1 ∧ B = n2 ∧ n1 ≤ n2 ∧ n2 ≤ l.length := by
        intro A B hc
        obtain ⟨c1, c2⟩ := and2 hc
        obtain ⟨c3, c4⟩ := and2 c2
        obtain ⟨c4, c5⟩ := and2 c4
        have c1 : (0 : Int) ≤ A := of_decide_eq_true c1
        have c3 : A ≤ B := of_decide_eq_true c3
        have c4 : B ≤ l.length := of_decide_eq_true c4
        exact ⟨A.toNat, B.toNat, by omega, by omega, by omega, by omega⟩
      rcases bnd_ok g.fr h with ⟨hlo, ha1⟩ | ⟨xl, ql, A, hlo, eA, ha1⟩
      · subst hlo
        rcases bnd_ok g.fr ha1 with ⟨hhi, hb1⟩ | ⟨xh, qh, B, hhi, eB, hb1⟩
        · subst hhi; cases hhs
        · subst hhi
          obtain ⟨hc, hk⟩ := fk_yes hb1
          obtain ⟨n1, n2, e1, e2, h3, h4⟩ := nn hc
          exact fin (n1 := 0) (n2 := n2) rfl e2 hc hk fun _ _ => by simp [Instr.sliceBounds, eB, e2, run_sliceBound (show n2 ≤ cap by omega), run_sliceBound (Nat.le_refl n2)]
      · subst hlo
        rcases bnd_ok g.fr ha1 with ⟨hhi, hb1⟩ | ⟨xh, qh, B, hhi, eB, hb1⟩
        · subst hhi; cases hhs
        · subst hhi
          obtain ⟨hc, hk⟩ := fk_yes hb1
          obtain ⟨n1, n2, e1, e2, h3, h4⟩ := nn hc
          exact fin (n1 := n1) (n2 := n2) e1 e2 hc hk fun _ _ => by simp [Instr.sliceBounds, eA, eB, e1, e2, run_sliceBound h3, run_sliceBound (show n2 ≤ cap by omega), run_sliceBound (Nat.le_refl n2)]
    split at h
    · obtain ⟨hn, h⟩ := fk_yes h
      exact key hn hv h
    · obtain ⟨hn, h⟩ := fk_yes h
      exact key hn hv.1 h
    · split at h
      · rename_i y e o u n1 l hpt
        obtain ⟨hhs, h⟩ := fk_yes h
        obtain ⟨hy, p, k1, A0, B0, q1, q2, q3, rfl, rfl, q6, q7, qq, hqv, _⟩ := partOf_ok g.m hpt hv
        have nn : ∀ {A B : Int}, an (ile 0 A) (an (ile A B) (an (ile B M) (ile M (xsub (jcap l) A0)))) = true → ∃ n1 n2 n3 : Nat, A = n1 ∧ B = n2 ∧ M = n3 ∧ n1 ≤ n2 ∧ n2 ≤ n3 ∧ n3 ≤ l.length - A0 := by
          intro A B hc
          obtain ⟨c1, c2⟩ := and2 hc
          obtain ⟨c3, c4⟩ := and2 c2
          obtain ⟨c4, c5⟩ := and2 c4
          have c1 : (0 : Int) ≤ A := of_decide_eq_true c1
          have c3 : A ≤ B := of_decide_eq_true c3
          have c4 : B ≤ M := of_decide_eq_true c4
          have c5 : M ≤ l.length - A0 := of_decide_eq_true c5
          exact ⟨A.toNat, B.toNat, M.toNat, by omega, by omega, by omega, by omega, by omega, by omega⟩
        have fin : ∀ {n1 n2 n3 : Nat}, M = n3 → k (.c .un) m nx → (Instr.sliceBounds true (B0 - A0) (l.length - A0) (lo.map a.eval) (hi.map a.eval) (some (.int qm n3))).run P w = .ok (n1, n2, n3) w → Done P G φ z nx (.slice t x lo hi (some mo)) ty a.eval w k := by
          intro n1 n2 n3 hM hk hb
          refine Done.val g (u := .slice (if n3 = n1 then qq else qq.map (·.add (n1 * n0))) (n2 - n1) (n3 - n1)) hk (show Value.oneCell' _ = true from rfl) ?_
          simp only [opR, execOp]
          rw [Sem.run_bind, hqv]
          have : (Instr.sliceAt t (.slice qq (B0 - A0) (l.length - A0)) (lo.map a.eval) (hi.map a.eval) (Option.map a.eval (some mo))).run P w = .ok (.slice (if n3 = n1 then qq else qq.map (·.add (n1 * n0))) (n2 - n1) (n3 - n1)) w := by
            simp [Instr.sliceAt, Instr.slice, run_underlying hu, eM, hM, hb, hsz w]
          rw [this]; rfl
        rcases bnd_ok g.fr h with ⟨hlo, ha1⟩ | ⟨xl, ql, A, hlo, eA, ha1⟩
        · subst hlo
          rcases bnd_ok g.fr ha1 with ⟨hhi, hb1⟩ | ⟨xh, qh, B, hhi, eB, hb1⟩
          · subst hhi; cases hhs
          · subst hhi
            obtain ⟨hc, hk⟩ := fk_yes hb1
            obtain ⟨n1, n2, n3, e1, e2, e3, h3, h4, h5⟩ := nn hc
            exact fin (n1 := 0) (n2 := n2) (n3 := n3) e3 hk (by simp [Instr.sliceBounds, eB, e2, run_sliceBound h4, run_sliceBound h5])
        · subst hlo
          rcases bnd_ok g.fr ha1 with ⟨hhi, hb1⟩ | ⟨xh, qh, B, hhi, eB, hb1⟩
          · subst hhi; cases hhs
          · subst hhi
            obtain ⟨hc, hk⟩ := fk_yes hb1
            obtain ⟨n1, n2, n3, e1, e2, e3, h3, h4, h5⟩ := nn hc
            exact fin (n1 := n1) (n2 := n2) (n3 := n3) e3 hk (by simp [Instr.sliceBounds, eA, eB, e1, e2, run_sliceBound h3, run_sliceBound h4, run_sliceBound h5])
      · exact h.elim
  · exact h.elim
end
end Go.Proofs.YtgjindhjgmplgaaGreat
end
