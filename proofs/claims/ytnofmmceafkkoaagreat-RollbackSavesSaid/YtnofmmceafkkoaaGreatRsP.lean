/-
  RollbackSaves: what holds at the states, in plain Lean: logs that grow, lists that count, cells and the writes that made them.
-/
import Derived.Test.YtnofmmceafkkoaaGreatRsA
import Derived.Test.YtnofmmceafkkoaaGreatTriD
set_option linter.unusedVariables false
set_option linter.unusedSimpArgs false
namespace Go.Proofs.YtnofmmceafkkoaaGreat
open Go.RowKit
theorem subC_ok {ρ : Vn} : ∀ {L : List (AC × AC)}, (∀ x ∈ L, ∀ φ v, VC ρ φ x.1 v → VC ρ φ x.2 v) → ∀ φ c v, VC ρ φ c v → VC ρ φ (subC L c) v
  | [], _, φ, c, v, hv => hv
  | x :: L, h, φ, c, v, hv => by
    show VC ρ φ (bif decide (x.1 = c) then x.2 else subC L c) v
    cases hd : decide (x.1 = c) with
    | true =>
      have := of_decide_eq_true hd
      subst this
      exact h x List.mem_cons_self φ v hv
    | false => exact subC_ok (fun y hy => h y (List.mem_cons_of_mem _ hy)) φ c v hv
def iot (n : Nat) : List (List DV) := nsD ((List.range n).map fun i => ((i + 1 : Nat) : Int))
theorem iot_len (n : Nat) : (iot n).length = n := by simp [iot, nsD]
theorem iot_succ (n : Nat) : iot (n + 1) = iot n ++ [[DV.i ((n + 1 : Nat) : Int)]] := by
  unfold iot nsD
  rw [List.range_succ, List.map_append, List.map_append]; rfl
theorem iot_get {n i : Nat} (h : i < n) : (iot n)[i]? = some [DV.i ((i + 1 : Nat) : Int)] := by
  unfold iot nsD
  rw [List.getElem?_map, List.getElem?_map, List.getElem?_range h]; rfl
theorem iot_del (n : Nat) : (iot (n + 1)).eraseIdx n = iot n := by
  rw [iot_succ, List.eraseIdx_append_of_length_le (by rw [iot_len]; exact Nat.le_refl _), iot_len, Nat.sub_self]
  exact List.append_nil _
theorem iot_asc {n : Nat} {m : Int} (h1 : (n : Int) ≤ m) (h2 : m ≤ 4000) : Asc (iot n) m := by
  refine ⟨by rw [iot_len]; omega, h2, _, rfl, ?_, fun x hx => ?_⟩
  · rw [List.pairwise_map]
    exact List.pairwise_lt_range.imp fun h => by omega
  · obtain ⟨i, hi, rfl⟩ := List.mem_map.1 hx
    have := List.mem_range.1 hi
    omega
theorem JV.push {d : List (List DV)} {row : List DV} (h : JV d) (hl : d.length < 4000) (hr : EnOk d.length row) : JV (d ++ [row]) := by
  refine ⟨by rw [List.length_append]; simp; omega, fun i r hi => ?_⟩
  by_cases hlt : i < d.length
  · rw [List.getElem?_append_left hlt] at hi; exact h.2 i r hi
  · rw [List.getElem?_append_right (by omega)] at hi
    have : i = d.length := by
      have := (List.getElem?_eq_some_iff.1 hi).1
      simp at this; omega
    subst this
    rw [Nat.sub_self] at hi
    cases hi
    exact hr
structure KI (ns k p : Nat) (b : Nat → MV) : Prop where
  y : JV (b 0).d
  n : (b 0).d.length ≤ 900
  la : (b 2).i = (b 0).d.length
  pl : k ≠ 0 → (b 3).i = (b 0).d.length
  du : (b 4).i = 0
  q : (b 1).d = iot p
  pn : p ≤ (b 0).d.length
  k0 : k = 0 ↔ (b 0).d.length = 0
  c : k ≠ 0 → ∀ i, i < ns → VCell (b (20 + 2 * i)).b (b (21 + 2 * i)).s
section
variable {g : Nm → Value} {z : Nat → Option Obj} {b : Nat → MV} {k p : Nat}
theorem KI.asc {ns : Nat} (h : KI ns k p b) : Asc (b 1).d (b 2).i := by
  rw [h.q, h.la]
  exact iot_asc (by have := h.pn; omega) (by have := h.n; omega)
theorem fb4_ok (h : KI 4 k p b) : ∀ f ∈ fb4 k, f.holds QR (vb b g z) := by
  have hn := h.n
  have hl := h.la
  have hq : (((b 1).d.length : Nat) : Int) = p := by rw [h.q, iot_len]
  have hp := h.pn
  have hd := h.du
  cases k with
  | zero =>
    have h0 := h.k0.1 rfl
    exact facts_cons ⟨(by show (0 : Int) ≤ (((b 0).d.length : Nat) : Int); omega), (by show (((b 0).d.length : Nat) : Int) ≤ 0; omega)⟩ (facts_cons ⟨(by show (0 : Int) ≤ (b 2).i; omega), (by show (b 2).i ≤ 0; omega)⟩ (facts_cons ⟨(by show (0 : Int) ≤ (b 4).i; omega), (by show (b 4).i ≤ 0; omega)⟩
      (facts_cons ⟨(by show (0 : Int) ≤ (((b 1).d.length : Nat) : Int); omega), (by show (((b 1).d.length : Nat) : Int) ≤ 0; omega)⟩ (facts_cons ⟨(by show (0 : Int) ≤ (b 2).i - (((b 0).d.length : Nat) : Int); omega), (by show (b 2).i - (((b 0).d.length : Nat) : Int) ≤ 0; omega)⟩ (facts_cons (show JV (b 0).d from h.y) (facts_cons (show Asc (b 1).d (b 2).i from h.asc) facts_nil))))))
  | succ k =>
    have h0 : (b 0).d.length ≠ 0 := fun e => absurd (h.k0.2 e) (by omega)
    have h3 := h.pl (by omega)
    have hc := h.c (by omega)
    exact facts_cons ⟨(by show (1 : Int) ≤ (((b 0).d.length : Nat) : Int); omega), (by show (((b 0).d.length : Nat) : Int) ≤ 900; omega)⟩ (facts_cons ⟨(by show (1 : Int) ≤ (b 2).i; omega), (by show (b 2).i ≤ 900; omega)⟩ (facts_cons ⟨(by show (1 : Int) ≤ (b 3).i; omega), (by show (b 3).i ≤ 900; omega)⟩ (facts_cons ⟨(by show (0 : Int) ≤ (b 4).i; omega), (by show (b 4).i ≤ 0; omega)⟩
      (facts_cons ⟨(by show (0 : Int) ≤ (((b 1).d.length : Nat) : Int); omega), (by show (((b 1).d.length : Nat) : Int) ≤ 900; omega)⟩ (facts_cons ⟨(by show (0 : Int) ≤ (b 2).i - (((b 0).d.length : Nat) : Int); omega), (by show (b 2).i - (((b 0).d.length : Nat) : Int) ≤ 0; omega)⟩ (facts_cons ⟨(by show (0 : Int) ≤ (b 3).i - (((b 0).d.length : Nat) : Int); omega), (by show (b 3).i - (((b 0).d.length : Nat) : Int) ≤ 0; omega)⟩
      (facts_cons ⟨(by show (-900 : Int) ≤ (b 4).i - (((b 0).d.length : Nat) : Int); omega), (by show (b 4).i - (((b 0).d.length : Nat) : Int) ≤ -1; omega)⟩ (facts_cons ⟨(by show (-900 : Int) ≤ (((b 1).d.length : Nat) : Int) - (((b 0).d.length : Nat) : Int); omega), (by show (((b 1).d.length : Nat) : Int) - (((b 0).d.length : Nat) : Int) ≤ 0; omega)⟩
      (facts_cons (show JV (b 0).d from h.y) (facts_cons (show Asc (b 1).d (b 2).i from h.asc) (facts_cons (hc 0 (by decide)) (facts_cons (hc 1 (by decide)) (facts_cons (hc 2 (by decide)) (facts_cons (hc 3 (by decide)) facts_nil))))))))))))))
theorem fb6_ok (h : KI 6 k p b) : ∀ f ∈ fb6 k, f.holds QR (vb b g z) := by
  have hn := h.n
  have hl := h.la
  have hq : (((b 1).d.length : Nat) : Int) = p := by rw [h.q, iot_len]
  have hp := h.pn
  have hd := h.du
  cases k with
  | zero =>
    have h0 := h.k0.1 rfl
    exact facts_cons ⟨(by show (0 : Int) ≤ (((b 0).d.length : Nat) : Int); omega), (by show (((b 0).d.length : Nat) : Int) ≤ 0; omega)⟩ (facts_cons ⟨(by show (0 : Int) ≤ (b 2).i; omega), (by show (b 2).i ≤ 0; omega)⟩ (facts_cons ⟨(by show (0 : Int) ≤ (b 4).i; omega), (by show (b 4).i ≤ 0; omega)⟩
      (facts_cons ⟨(by show (0 : Int) ≤ (((b 1).d.length : Nat) : Int); omega), (by show (((b 1).d.length : Nat) : Int) ≤ 0; omega)⟩ (facts_cons ⟨(by show (0 : Int) ≤ (b 2).i - (((b 0).d.length : Nat) : Int); omega), (by show (b 2).i - (((b 0).d.length : Nat) : Int) ≤ 0; omega)⟩ (facts_cons (show JV (b 0).d from h.y) (facts_cons (show Asc (b 1).d (b 2).i from h.asc) facts_nil))))))
  | succ k =>
    have h0 : (b 0).d.length ≠ 0 := fun e => absurd (h.k0.2 e) (by omega)
    have h3 := h.pl (by omega)
    have hc := h.c (by omega)
    exact facts_cons ⟨(by show (1 : Int) ≤ (((b 0).d.length : Nat) : Int); omega), (by show (((b 0).d.length : Nat) : Int) ≤ 900; omega)⟩ (facts_cons ⟨(by show (1 : Int) ≤ (b 2).i; omega), (by show (b 2).i ≤ 900; omega)⟩ (facts_cons ⟨(by show (1 : Int) ≤ (b 3).i; omega), (by show (b 3).i ≤ 900; omega)⟩ (facts_cons ⟨(by show (0 : Int) ≤ (b 4).i; omega), (by show (b 4).i ≤ 0; omega)⟩
      (facts_cons ⟨(by show (0 : Int) ≤ (((b 1).d.length : Nat) : Int); omega), (by show (((b 1).d.length : Nat) : Int) ≤ 900; omega)⟩ (facts_cons ⟨(by show (0 : Int) ≤ (b 2).i - (((b 0).d.length : Nat) : Int); omega), (by show (b 2).i - (((b 0).d.length : Nat) : Int) ≤ 0; omega)⟩ (facts_cons ⟨(by show (0 : Int) ≤ (b 3).i - (((b 0).d.length : Nat) : Int); omega), (by show (b 3).i - (((b 0).d.length : Nat) : Int) ≤ 0; omega)⟩
      (facts_cons ⟨(by show (-900 : Int) ≤ (b 4).i - (((b 0).d.length : Nat) : Int); omega), (by show (b 4).i - (((b 0).d.length : Nat) : Int) ≤ -1; omega)⟩ (facts_cons ⟨(by show (-900 : Int) ≤ (((b 1).d.length : Nat) : Int) - (((b 0).d.length : Nat) : Int); omega), (by show (((b 1).d.length : Nat) : Int) - (((b 0).d.length : Nat) : Int) ≤ 0; omega)⟩
      (facts_cons (show JV (b 0).d from h.y) (facts_cons (show Asc (b 1).d (b 2).i from h.asc) (facts_cons (hc 0 (by decide)) (facts_cons (hc 1 (by decide)) (facts_cons (hc 2 (by decide)) (facts_cons (hc 3 (by decide)) (facts_cons (hc 4 (by decide)) (facts_cons (hc 5 (by decide)) facts_nil))))))))))))))))
end
theorem en_ok {n : Nat} {kind ptx pp ref : Int} {s : Nat} {bs az : Bool} {bd ad : ByteArray} (hs : s < 16) (hk : kind = 1 ∧ ref = 0 ∨ kind = 2 ∧ 1 ≤ ref ∧ ref ≤ ptx) (h1 : 0 ≤ ptx) (h2 : ptx ≤ n) (h3 : 0 ≤ pp) (h4 : pp ≤ n) (h5 : ref ≤ n) (hb : VCell bs bd) (ha : VCell az ad) :
    EnOk n (enR ((n : Int) + 1) kind 1 ptx pp ref 0 s bs bd az ad) := by
  refine ⟨kind, 1, ptx, pp, ref, 0, s, bs, bd, az, ad, rfl, by decide, by decide, h1, h2, h3, h4, by omega, h5, ?_⟩
  have hc : ChgOk 0 s bs bd az ad := ⟨by decide, by decide, by omega, by omega, hb, ha⟩
  rcases hk with ⟨rfl, rfl⟩ | ⟨rfl, h6, h7⟩
  · exact .inl ⟨rfl, rfl, hc⟩
  · exact .inr (.inl ⟨rfl, h6, h7, hc⟩)
theorem KI.next {ns k p s : Nat} {b b' : Nat → MV} (h : KI ns k p b) (hs : s < 6) (hn : (b 0).d.length < 900) {ptx pp : Int} {bs az : Bool} {bd ad : ByteArray} (hptx : ptx = (b 2).i) (hpp : 0 ≤ pp ∧ pp ≤ (b 0).d.length) (vb : VCell bs bd) (va : VCell az ad)
    (hy : (b' 0).d = (b 0).d ++ [enR (((b 0).d.length : Int) + 1) 1 1 ptx pp 0 0 s bs bd az ad]) (hpn : p = (b 0).d.length) (hq : (b' 1).d = (b 1).d ++ [[DV.i (((b 0).d.length : Int) + 1)]]) (h2 : (b' 2).i = ((b 0).d.length : Int) + 1) (h3 : (b' 3).i = ((b 0).d.length : Int) + 1) (h4 : (b' 4).i = 0)
    (hc : ∀ i, i < ns → VCell (b' (20 + 2 * i)).b (b' (21 + 2 * i)).s) : KI ns (k ||| 2 ^ s) (p + 1) b' := by
  have hl : (b' 0).d.length = (b 0).d.length + 1 := by rw [hy]; simp
  have hk : k ||| 2 ^ s ≠ 0 := by
    intro e
    have : (k ||| 2 ^ s).testBit s = false := by rw [e]; simp
    rw [Nat.testBit_or, Nat.testBit_two_pow_self] at this
    simp at this
  have hla := h.la
  refine ⟨?_, by omega, by rw [h2, hl]; rfl, fun _ => by rw [h3, hl]; rfl, h4, ?_, by omega, ⟨fun e => absurd e hk, fun e => by omega⟩, fun _ => hc⟩
  · rw [hy]
    exact h.y.push (by omega) (en_ok (by omega) (.inl ⟨rfl, rfl⟩) (by omega) (by omega) hpp.1 hpp.2 (by omega) vb va)
  · rw [hq, h.q, iot_succ, ← hpn]; rfl
def Byt (d : List (List DV)) : Prop := ∀ (i : Nat) row, d[i]? = some row → ∃ x : Int, row = [.i x] ∧ 0 ≤ x ∧ x ≤ 255
theorem tmod_cases4 {x : Int} (h0 : 0 ≤ x) : x.tmod 4 = 0 ∨ x.tmod 4 = 1 ∨ x.tmod 4 = 2 ∨ x.tmod 4 = 3 := by
  obtain ⟨m, rfl⟩ := Int.eq_ofNat_of_zero_le h0
  have : Int.tmod (m : Int) 4 = ((m % 4 : Nat) : Int) := rfl
  omega
theorem tmod_cases6 {x : Int} (h0 : 0 ≤ x) : x.tmod 6 = 0 ∨ x.tmod 6 = 1 ∨ x.tmod 6 = 2 ∨ x.tmod 6 = 3 ∨ x.tmod 6 = 4 ∨ x.tmod 6 = 5 := by
  obtain ⟨m, rfl⟩ := Int.eq_ofNat_of_zero_le h0
  have : Int.tmod (m : Int) 6 = ((m % 6 : Nat) : Int) := rfl
  omega
theorem tmod26 {x : Int} (h0 : 0 ≤ x) : 0 ≤ x.tmod 26 ∧ x.tmod 26 ≤ 25 := by
  obtain ⟨m, rfl⟩ := Int.eq_ofNat_of_zero_le h0
  have : Int.tmod (m : Int) 26 = ((m % 26 : Nat) : Int) := rfl
  omega
theorem size_one (x : Int) : (strOfNums [x]).size = 1 := by
  rw [← size_list, strOfNums_data]; rfl
theorem v1_ok (x : Int) : VCell true (strOfNums [x]) := ⟨by rw [size_one]; decide, fun h => (nomatch h)⟩
theorem v0_ok : VCell false ⟨#[]⟩ := ⟨by decide, fun _ => rfl⟩
structure I1 (d50 d51 : List (List DV)) (k : Nat) (b : Nat → MV) : Prop where
  f : (b 50).d = d50
  s : (b 51).d = d51
  ln : (b 8).i = d50.length
  i0 : 0 ≤ (b 7).i
  i1 : (b 7).i ≤ d50.length
  n : ((b 0).d.length : Int) = (b 7).i
  k16 : k < 16
  kb : KI 4 k (b 0).d.length b
abbrev Cel := Bool × ByteArray
def updC (c : Nat → Cel) (s : Nat) (x : Cel) (i : Nat) : Cel := if i = s then x else c i
abbrev Wr := Nat × Cel × Cel
inductive Ch (w : Nat → Cel) : List Wr → (Nat → Cel) → Prop where
  | nil : Ch w [] w
  | snoc {H : List Wr} {c : Nat → Cel} (h : Ch w H c) (s : Nat) (x : Cel) : Ch w (H ++ [(s, c s, x)]) (updC c s x)
theorem Ch.last {w : Nat → Cel} {H : List Wr} {x : Wr} {c : Nat → Cel} (h : Ch w (H ++ [x]) c) : ∃ c0, Ch w H c0 ∧ x.2.1 = c0 x.1 ∧ c = updC c0 x.1 x.2.2 := by
  generalize hH : H ++ [x] = H' at h
  cases h with
  | nil => simp at hH
  | snoc h s y =>
    rename_i H2 c2
    have := List.append_inj' hH rfl
    obtain ⟨rfl, e⟩ := this
    cases e
    exact ⟨c2, h, rfl, rfl⟩
def Rws (d : List (List DV)) (n0 : Nat) (H : List Wr) : Prop := ∀ (j : Nat) x, H[j]? = some x → ∃ ptx pp : Int, d[n0 + j]? = some (enR (((n0 + j : Nat) : Int) + 1) 1 1 ptx pp 0 0 x.1 x.2.1.1 x.2.1.2 x.2.2.1 x.2.2.2)
theorem Rws.push {d : List (List DV)} {n0 : Nat} {H : List Wr} (h : Rws d n0 H) (hl : n0 + H.length ≤ d.length) (row : List DV) : Rws (d ++ [row]) n0 H := fun j x hx => by
  obtain ⟨ptx, pp, e⟩ := h j x hx
  have hj := (List.getElem?_eq_some_iff.1 hx).1
  exact ⟨ptx, pp, by rw [List.getElem?_append_left (by omega)]; exact e⟩
theorem Rws.snoc {d : List (List DV)} {n0 : Nat} {H : List Wr} (h : Rws d n0 H) (hl : n0 + H.length = d.length) (x : Wr) (ptx pp : Int) : Rws (d ++ [enR ((d.length : Int) + 1) 1 1 ptx pp 0 0 x.1 x.2.1.1 x.2.1.2 x.2.2.1 x.2.2.2]) n0 (H ++ [x]) := fun j y hy => by
  by_cases hj : j < H.length
  · rw [List.getElem?_append_left hj] at hy
    exact h.push (by omega) _ j y hy
  · have hj2 : j = H.length := by
      have := (List.getElem?_eq_some_iff.1 hy).1
      simp at this; omega
    subst hj2
    rw [List.getElem?_append_right (Nat.le_refl _), Nat.sub_self] at hy
    cases hy
    refine ⟨ptx, pp, ?_⟩
    rw [hl, List.getElem?_append_right (Nat.le_refl _), Nat.sub_self]; rfl
theorem Rws.take {d : List (List DV)} {n0 : Nat} {H : List Wr} {x : Wr} (h : Rws d n0 (H ++ [x])) : Rws d n0 H := fun j y hy => h j y (by rw [List.getElem?_append_left (List.getElem?_eq_some_iff.1 hy).1]; exact hy)
def pc (k : Nat) (b : Nat → MV) (i : Nat) : Cel := if k = 0 then (false, ⟨#[]⟩) else ((b (20 + 2 * i)).b, (b (21 + 2 * i)).s)
structure I3 (d51 : List (List DV)) (w : Nat → Cel) (k n0 : Nat) (H : List Wr) (b : Nat → MV) : Prop where
  s : (b 51).d = d51
  k64 : k < 64
  kb : KI 6 k (n0 + H.length) b
  sv : (b 5).i = n0
  rw : Rws (b 0).d n0 H
  ch : ∃ c, Ch w H c ∧ ∀ i, i < 6 → pc k b i = c i
  ws : ∀ i, i < 4 → ((b (60 + 2 * i)).b, (b (61 + 2 * i)).s) = w i
  w4 : w 4 = (false, ⟨#[]⟩)
  w5 : w 5 = (false, ⟨#[]⟩)
  wv : ∀ i, i < 4 → VCell (w i).1 (w i).2
  sl : ∀ x ∈ H, x.1 < 6 ∧ k.testBit x.1 = true
end Go.Proofs.YtnofmmceafkkoaaGreat
