/-
  RollbackEnds: what holds at the states, in plain Lean: logs that grow, lists that count, cells and the writes that made them.
-/
import Derived.Test.YtnofmmceafkkoaaGreatEdA
import Derived.Test.YtnofmmceafkkoaaGreatTriP
set_option linter.unusedVariables false
set_option linter.unusedSimpArgs false
namespace Go.Proofs.YtnofmmceafkkoaaGreat
open Go.RowKit
theorem subC_ok {ρ : Vn} : ∀ {L : List (AC × AC)}, (∀ x ∈ L, ∀ φ v, VC ρ φ x.1 v → VC ρ φ x.2 v) → ∀ φ c v, VC ρ φ c v → VC ρ φ (subC L c) v
  | [], _, φ, c, v, hv => hv
  | x :: L, h, φ, c, v, hv => by
    show VC ρ φ (bif decide (x.1 = c) then x.2 else subC L c) v
    cases hd : decide (x.1 = c) with
    | true =>
      have := of_decide_eq_true hd
      subst this
      exact h x List.mem_cons_self φ v hv
    | false => exact subC_ok (fun y hy => h y (List.mem_cons_of_mem _ hy)) φ c v hv
def ion (m n : Nat) : List (List DV) := nsD ((List.range n).map fun i => ((m + i + 1 : Nat) : Int))
theorem ion_len (m n : Nat) : (ion m n).length = n := by simp [ion, nsD]
theorem ion_succ (m n : Nat) : ion m (n + 1) = ion m n ++ [[DV.i ((m + n + 1 : Nat) : Int)]] := by
  unfold ion nsD
  rw [List.range_succ, List.map_append, List.map_append]; rfl
theorem ion_get {m n i : Nat} (h : i < n) : (ion m n)[i]? = some [DV.i ((m + i + 1 : Nat) : Int)] := by
  unfold ion nsD
  rw [List.getElem?_map, List.getElem?_map, List.getElem?_range h]; rfl
theorem ion_del (m n : Nat) : (ion m (n + 1)).eraseIdx n = ion m n := by
  rw [ion_succ, List.eraseIdx_append_of_length_le (by rw [ion_len]; exact Nat.le_refl _), ion_len, Nat.sub_self]
  exact List.append_nil _
theorem ion_asc {m n : Nat} {x : Int} (h1 : ((m + n : Nat) : Int) ≤ x) (h2 : x ≤ 4000) : Asc (ion m n) x := by
  refine ⟨by rw [ion_len]; omega, h2, _, rfl, ?_, fun y hy => ?_⟩
  · rw [List.pairwise_map]
    exact List.pairwise_lt_range.imp fun h => by omega
  · obtain ⟨i, hi, rfl⟩ := List.mem_map.1 hy
    have := List.mem_range.1 hi
    omega
theorem JV.push {d : List (List DV)} {row : List DV} (h : JV d) (hl : d.length < 4000) (hr : EnOk d.length row) : JV (d ++ [row]) := by
  refine ⟨by rw [List.length_append]; simp; omega, fun i r hi => ?_⟩
  by_cases hlt : i < d.length
  · rw [List.getElem?_append_left hlt] at hi; exact h.2 i r hi
  · rw [List.getElem?_append_right (by omega)] at hi
    have : i = d.length := by
      have := (List.getElem?_eq_some_iff.1 hi).1
      simp at this; omega
    subst this
    rw [Nat.sub_self] at hi
    cases hi
    exact hr
structure KI (ns k p : Nat) (b : Nat → MV) : Prop where
  y : JV (b 0).d
  n : (b 0).d.length ≤ 900
  la : (b 2).i = (b 0).d.length
  pl : k ≠ 0 → (b 3).i = (b 0).d.length
  du : (b 4).i = 0
  q : (b 1).d = ion 0 p
  pn : p ≤ (b 0).d.length
  k0 : k = 0 ↔ (b 0).d.length = 0
  c : k ≠ 0 → ∀ i, i < ns → VCell (b (20 + 2 * i)).b (b (21 + 2 * i)).s
section
variable {g : Nm → Value} {z : Nat → Option Obj} {b : Nat → MV} {k p : Nat}
theorem KI.asc {ns : Nat} (h : KI ns k p b) : Asc (b 1).d (b 2).i := by
  rw [h.q, h.la]
  exact ion_asc (by have := h.pn; omega) (by have := h.n; omega)
theorem fb4_ok (h : KI 4 k p b) : ∀ f ∈ fb4 k, f.holds QR (vb b g z) := by
  have hn := h.n
  have hl := h.la
  have hq : (((b 1).d.length : Nat) : Int) = p := by rw [h.q, ion_len]
  have hp := h.pn
  have hd := h.du
  cases k with
  | zero =>
    have h0 := h.k0.1 rfl
    exact facts_cons ⟨(by show (0 : Int) ≤ (((b 0).d.length : Nat) : Int); omega), (by show (((b 0).d.length : Nat) : Int) ≤ 0; omega)⟩ (facts_cons ⟨(by show (0 : Int) ≤ (b 2).i; omega), (by show (b 2).i ≤ 0; omega)⟩ (facts_cons ⟨(by show (0 : Int) ≤ (b 4).i; omega), (by show (b 4).i ≤ 0; omega)⟩
      (facts_cons ⟨(by show (0 : Int) ≤ (((b 1).d.length : Nat) : Int); omega), (by show (((b 1).d.length : Nat) : Int) ≤ 0; omega)⟩ (facts_cons ⟨(by show (0 : Int) ≤ (b 2).i - (((b 0).d.length : Nat) : Int); omega), (by show (b 2).i - (((b 0).d.length : Nat) : Int) ≤ 0; omega)⟩ (facts_cons (show JV (b 0).d from h.y) (facts_cons (show Asc (b 1).d (b 2).i from h.asc) facts_nil))))))
  | succ k =>
    have h0 : (b 0).d.length ≠ 0 := fun e => absurd (h.k0.2 e) (by omega)
    have h3 := h.pl (by omega)
    have hc := h.c (by omega)
    exact facts_cons ⟨(by show (1 : Int) ≤ (((b 0).d.length : Nat) : Int); omega), (by show (((b 0).d.length : Nat) : Int) ≤ 900; omega)⟩ (facts_cons ⟨(by show (1 : Int) ≤ (b 2).i; omega), (by show (b 2).i ≤ 900; omega)⟩ (facts_cons ⟨(by show (1 : Int) ≤ (b 3).i; omega), (by show (b 3).i ≤ 900; omega)⟩ (facts_cons ⟨(by show (0 : Int) ≤ (b 4).i; omega), (by show (b 4).i ≤ 0; omega)⟩
      (facts_cons ⟨(by show (0 : Int) ≤ (((b 1).d.length : Nat) : Int); omega), (by show (((b 1).d.length : Nat) : Int) ≤ 900; omega)⟩ (facts_cons ⟨(by show (0 : Int) ≤ (b 2).i - (((b 0).d.length : Nat) : Int); omega), (by show (b 2).i - (((b 0).d.length : Nat) : Int) ≤ 0; omega)⟩ (facts_cons ⟨(by show (0 : Int) ≤ (b 3).i - (((b 0).d.length : Nat) : Int); omega), (by show (b 3).i - (((b 0).d.length : Nat) : Int) ≤ 0; omega)⟩
      (facts_cons ⟨(by show (-900 : Int) ≤ (b 4).i - (((b 0).d.length : Nat) : Int); omega), (by show (b 4).i - (((b 0).d.length : Nat) : Int) ≤ -1; omega)⟩ (facts_cons ⟨(by show (-900 : Int) ≤ (((b 1).d.length : Nat) : Int) - (((b 0).d.length : Nat) : Int); omega), (by show (((b 1).d.length : Nat) : Int) - (((b 0).d.length : Nat) : Int) ≤ 0; omega)⟩
      (facts_cons (show JV (b 0).d from h.y) (facts_cons (show Asc (b 1).d (b 2).i from h.asc) (facts_cons (hc 0 (by decide)) (facts_cons (hc 1 (by decide)) (facts_cons (hc 2 (by decide)) (facts_cons (hc 3 (by decide)) facts_nil))))))))))))))
end
theorem en_ok {n : Nat} {tx : Int} {kind ptx pp ref : Int} {s : Nat} {bs az : Bool} {bd ad : ByteArray} (ht : tx = 1 ∨ tx = 2) (hs : s < 16) (hk : kind = 1 ∧ ref = 0 ∨ kind = 2 ∧ 1 ≤ ref ∧ ref ≤ ptx) (h1 : 0 ≤ ptx) (h2 : ptx ≤ n) (h3 : 0 ≤ pp) (h4 : pp ≤ n) (h5 : ref ≤ n) (hb : VCell bs bd) (ha : VCell az ad) :
    EnOk n (enR ((n : Int) + 1) kind tx ptx pp ref 0 s bs bd az ad) := by
  refine ⟨kind, tx, ptx, pp, ref, 0, s, bs, bd, az, ad, rfl, by omega, by omega, h1, h2, h3, h4, by omega, h5, ?_⟩
  have hc : ChgOk 0 s bs bd az ad := ⟨by decide, by decide, by omega, by omega, hb, ha⟩
  rcases hk with ⟨rfl, rfl⟩ | ⟨rfl, h6, h7⟩
  · exact .inl ⟨rfl, rfl, hc⟩
  · exact .inr (.inl ⟨rfl, h6, h7, hc⟩)
theorem KI.next {ns k p s : Nat} {b b' : Nat → MV} (h : KI ns k p b) (hs : s < 6) (hn : (b 0).d.length < 900) {ptx pp : Int} {bs az : Bool} {bd ad : ByteArray} (hptx : ptx = (b 2).i) (hpp : 0 ≤ pp ∧ pp ≤ (b 0).d.length) (vb : VCell bs bd) (va : VCell az ad)
    (hy : (b' 0).d = (b 0).d ++ [enR (((b 0).d.length : Int) + 1) 1 1 ptx pp 0 0 s bs bd az ad]) (hpn : p = (b 0).d.length) (hq : (b' 1).d = (b 1).d ++ [[DV.i (((b 0).d.length : Int) + 1)]]) (h2 : (b' 2).i = ((b 0).d.length : Int) + 1) (h3 : (b' 3).i = ((b 0).d.length : Int) + 1) (h4 : (b' 4).i = 0)
    (hc : ∀ i, i < ns → VCell (b' (20 + 2 * i)).b (b' (21 + 2 * i)).s) : KI ns (k ||| 2 ^ s) (p + 1) b' := by
  have hl : (b' 0).d.length = (b 0).d.length + 1 := by rw [hy]; simp
  have hk : k ||| 2 ^ s ≠ 0 := by
    intro e
    have : (k ||| 2 ^ s).testBit s = false := by rw [e]; simp
    rw [Nat.testBit_or, Nat.testBit_two_pow_self] at this
    simp at this
  have hla := h.la
  refine ⟨?_, by omega, by rw [h2, hl]; rfl, fun _ => by rw [h3, hl]; rfl, h4, ?_, by omega, ⟨fun e => absurd e hk, fun e => by omega⟩, fun _ => hc⟩
  · rw [hy]
    exact h.y.push (by omega) (en_ok (.inl rfl) (by omega) (.inl ⟨rfl, rfl⟩) (by omega) (by omega) hpp.1 hpp.2 (by omega) vb va)
  · rw [hq, h.q, ion_succ, ← hpn, Nat.zero_add]; rfl
def Byt (d : List (List DV)) : Prop := ∀ (i : Nat) row, d[i]? = some row → ∃ x : Int, row = [.i x] ∧ 0 ≤ x ∧ x ≤ 255
theorem tmod_cases4 {x : Int} (h0 : 0 ≤ x) : x.tmod 4 = 0 ∨ x.tmod 4 = 1 ∨ x.tmod 4 = 2 ∨ x.tmod 4 = 3 := by
  obtain ⟨m, rfl⟩ := Int.eq_ofNat_of_zero_le h0
  have : Int.tmod (m : Int) 4 = ((m % 4 : Nat) : Int) := rfl
  omega
theorem tmod_cases5 {x : Int} (h0 : 0 ≤ x) : x.tmod 5 = 0 ∨ x.tmod 5 = 1 ∨ x.tmod 5 = 2 ∨ x.tmod 5 = 3 ∨ x.tmod 5 = 4 := by
  obtain ⟨m, rfl⟩ := Int.eq_ofNat_of_zero_le h0
  have : Int.tmod (m : Int) 5 = ((m % 5 : Nat) : Int) := rfl
  omega
theorem tmod20 {x : Int} (h0 : 0 ≤ x) : 0 ≤ x.tmod 20 ∧ x.tmod 20 ≤ 19 := by
  obtain ⟨m, rfl⟩ := Int.eq_ofNat_of_zero_le h0
  have : Int.tmod (m : Int) 20 = ((m % 20 : Nat) : Int) := rfl
  omega
theorem tmod26 {x : Int} (h0 : 0 ≤ x) : 0 ≤ x.tmod 26 ∧ x.tmod 26 ≤ 25 := by
  obtain ⟨m, rfl⟩ := Int.eq_ofNat_of_zero_le h0
  have : Int.tmod (m : Int) 26 = ((m % 26 : Nat) : Int) := rfl
  omega
theorem size_one (x : Int) : (strOfNums [x]).size = 1 := by
  rw [← size_list, strOfNums_data]; rfl
theorem v1_ok (x : Int) : VCell true (strOfNums [x]) := ⟨by rw [size_one]; decide, fun h => (nomatch h)⟩
theorem v0_ok : VCell false ⟨#[]⟩ := ⟨by decide, fun _ => rfl⟩
abbrev Cel := Bool × ByteArray
def updC (c : Nat → Cel) (s : Nat) (x : Cel) (i : Nat) : Cel := if i = s then x else c i
abbrev Wr := Nat × Cel × Cel
structure I1 (d50 d51 : List (List DV)) (k : Nat) (b : Nat → MV) : Prop where
  f : (b 50).d = d50
  s : (b 51).d = d51
  ln : (b 8).i = d50.length
  i0 : 0 ≤ (b 7).i
  i1 : (b 7).i ≤ d50.length
  n : ((b 0).d.length : Int) = (b 7).i
  k16 : k < 16
  kb : KI 4 k (b 0).d.length b
inductive Ch (w : Nat → Cel) : List Wr → (Nat → Cel) → Prop where
  | nil : Ch w [] w
  | snoc {H : List Wr} {c : Nat → Cel} (h : Ch w H c) (s : Nat) (x : Cel) : Ch w (H ++ [(s, c s, x)]) (updC c s x)
theorem Ch.last {w : Nat → Cel} {H : List Wr} {x : Wr} {c : Nat → Cel} (h : Ch w (H ++ [x]) c) : ∃ c0, Ch w H c0 ∧ x.2.1 = c0 x.1 ∧ c = updC c0 x.1 x.2.2 := by
  generalize hH : H ++ [x] = H' at h
  cases h with
  | nil => simp at hH
  | snoc h s y =>
    rename_i H2 c2
    have := List.append_inj' hH rfl
    obtain ⟨rfl, e⟩ := this
    cases e
    exact ⟨c2, h, rfl, rfl⟩
def Rws (d : List (List DV)) (n0 : Nat) (H : List Wr) : Prop := ∀ (j : Nat) x, H[j]? = some x → ∃ ptx pp : Int, d[n0 + j]? = some (enR (((n0 + j : Nat) : Int) + 1) 1 2 ptx pp 0 0 x.1 x.2.1.1 x.2.1.2 x.2.2.1 x.2.2.2)
theorem Rws.push {d : List (List DV)} {n0 : Nat} {H : List Wr} (h : Rws d n0 H) (hl : n0 + H.length ≤ d.length) (row : List DV) : Rws (d ++ [row]) n0 H := fun j x hx => by
  obtain ⟨ptx, pp, e⟩ := h j x hx
  have hj := (List.getElem?_eq_some_iff.1 hx).1
  exact ⟨ptx, pp, by rw [List.getElem?_append_left (by omega)]; exact e⟩
theorem Rws.snoc {d : List (List DV)} {n0 : Nat} {H : List Wr} (h : Rws d n0 H) (hl : n0 + H.length = d.length) (x : Wr) (ptx pp : Int) : Rws (d ++ [enR ((d.length : Int) + 1) 1 2 ptx pp 0 0 x.1 x.2.1.1 x.2.1.2 x.2.2.1 x.2.2.2]) n0 (H ++ [x]) := fun j y hy => by
  by_cases hj : j < H.length
  · rw [List.getElem?_append_left hj] at hy
    exact h.push (by omega) _ j y hy
  · have hj2 : j = H.length := by
      have := (List.getElem?_eq_some_iff.1 hy).1
      simp at this; omega
    subst hj2
    rw [List.getElem?_append_right (Nat.le_refl _), Nat.sub_self] at hy
    cases hy
    refine ⟨ptx, pp, ?_⟩
    rw [hl, List.getElem?_append_right (Nat.le_refl _), Nat.sub_self]; rfl
theorem Rws.take {d : List (List DV)} {n0 : Nat} {H : List Wr} {x : Wr} (h : Rws d n0 (H ++ [x])) : Rws d n0 H := fun j y hy => h j y (by rw [List.getElem?_append_left (List.getElem?_eq_some_iff.1 hy).1]; exact hy)
theorem or_pow_lt {k s n : Nat} (hk : k < 2 ^ n) (hs : s < n) : k ||| 2 ^ s < 2 ^ n := Nat.or_lt_two_pow hk (Nat.pow_lt_pow_right (by decide) hs)
theorem bit_or {k s t : Nat} (h : k.testBit t = true) : (k ||| 2 ^ s).testBit t = true := by rw [Nat.testBit_or, h]; rfl
theorem bit_self {k s : Nat} : (k ||| 2 ^ s).testBit s = true := by rw [Nat.testBit_or, Nat.testBit_two_pow_self, Bool.or_true]
theorem or_ne {k s : Nat} : k ||| 2 ^ s ≠ 0 := fun e => by have := bit_self (k := k) (s := s); rw [e] at this; simp at this
structure KSet (k : Nat) (H : List Wr) : Prop where
  lt : k < 32
  sl : ∀ x ∈ H, x.1 < 5 ∧ k.testBit x.1 = true
  al : ∀ s, s < 5 → k.testBit s = true → ∃ x ∈ H, x.1 = s
theorem KSet.nil {k : Nat} (h : KSet k []) : k = 0 := by
  have h0 : ∀ s, k.testBit s = false := fun s => by
    by_cases hs : s < 5
    · cases hb : k.testBit s with
      | false => rfl
      | true => obtain ⟨x, hx, _⟩ := h.al s hs hb; exact nomatch hx
    · exact Nat.testBit_lt_two_pow (Nat.lt_of_lt_of_le h.lt (Nat.pow_le_pow_right (n := 2) (by decide) (show 5 ≤ s by omega)))
  exact Nat.eq_of_testBit_eq fun s => by rw [h0 s, Nat.zero_testBit]
theorem KSet.ne {k : Nat} {H : List Wr} {x : Wr} (h : KSet k (H ++ [x])) : k ≠ 0 := fun e => by
  have := (h.sl x (by simp)).2
  rw [e, Nat.zero_testBit] at this; cases this
theorem KSet.more {k : Nat} {H : List Wr} {x y : Wr} (h : KSet k (H ++ [x])) (hy : y ∈ H) (e : y.1 = x.1) : KSet k H :=
  ⟨h.lt, fun z hz => h.sl z (List.mem_append_left _ hz), fun s hs hb => by
    obtain ⟨z, hz, e2⟩ := h.al s hs hb
    rcases List.mem_append.1 hz with hz | hz
    · exact ⟨z, hz, e2⟩
    · rw [List.mem_singleton.1 hz] at e2
      exact ⟨y, hy, e.trans e2⟩⟩
theorem KSet.drop {k : Nat} {H : List Wr} {x : Wr} (h : KSet k (H ++ [x])) (hn : ∀ y ∈ H, y.1 ≠ x.1) : KSet (k2m k x.1) H := by
  have hx := h.sl x (by simp)
  have tb : ∀ s, (k2m k x.1).testBit s = (k.testBit s ^^ decide (x.1 = s)) := fun s => by
    show (k ^^^ 2 ^ x.1).testBit s = _
    rw [Nat.testBit_xor, Nat.testBit_two_pow]
  refine ⟨Nat.xor_lt_two_pow (n := 5) h.lt (Nat.pow_lt_pow_right (by decide) hx.1), fun z hz => ?_, fun s hs hb => ?_⟩
  · have := h.sl z (List.mem_append_left _ hz)
    refine ⟨this.1, ?_⟩
    rw [tb, this.2, decide_eq_false fun e => hn z hz e.symm]; rfl
  · rw [tb] at hb
    by_cases e : x.1 = s
    · rw [decide_eq_true e, ← e, hx.2] at hb; cases hb
    · rw [decide_eq_false e] at hb
      have hb : k.testBit s = true := by rwa [Bool.xor_false] at hb
      obtain ⟨z, hz, e2⟩ := h.al s hs hb
      rcases List.mem_append.1 hz with hz | hz
      · exact ⟨z, hz, e2⟩
      · rw [List.mem_singleton.1 hz] at e2
        exact absurd e2 e
theorem KSet.snoc {k s : Nat} {H : List Wr} {x : Wr} (h : KSet k H) (hs : s < 5) (hx : x.1 = s) : KSet (k ||| 2 ^ s) (H ++ [x]) := by
  refine ⟨or_pow_lt (n := 5) h.lt hs, fun y hy => ?_, fun t ht hb => ?_⟩
  · rcases List.mem_append.1 hy with hy | hy
    · exact ⟨(h.sl y hy).1, bit_or (h.sl y hy).2⟩
    · rw [List.mem_singleton.1 hy, hx]; exact ⟨hs, bit_self⟩
  · by_cases e : t = s
    · exact ⟨_, List.mem_append_right _ List.mem_cons_self, hx.trans e.symm⟩
    · have : k.testBit t = true := by
        rw [Nat.testBit_or, Nat.testBit_two_pow] at hb
        have e3 : decide (s = t) = false := decide_eq_false fun q => e q.symm
        rwa [e3, Bool.or_false] at hb
      obtain ⟨y, hy, hy2⟩ := h.al t ht this
      exact ⟨y, List.mem_append_left _ hy, hy2⟩
theorem KSet.one {s : Nat} {x : Wr} (hs : s < 5) (hx : x.1 = s) : KSet (2 ^ s) [x] := by
  have h0 : KSet 0 [] := ⟨by decide, fun y hy => (nomatch hy), fun t ht hb => by rw [Nat.zero_testBit] at hb; cases hb⟩
  have := h0.snoc (x := x) hs hx
  rwa [Nat.zero_or] at this
theorem ion_ns (m n : Nat) : ∀ x ∈ (List.range n).map (fun i => ((m + i + 1 : Nat) : Int)), ∃ i, i < n ∧ x = ((m + i + 1 : Nat) : Int) := fun x hx => by
  obtain ⟨i, hi, rfl⟩ := List.mem_map.1 hx
  exact ⟨i, List.mem_range.1 hi, rfl⟩
theorem rws_cell {d : List (List DV)} {n0 : Nat} {H R : List Wr} (h : Rws d n0 (H ++ R)) {i : Nat} (hi : i < H.length) : ∃ x, H[i]? = some x ∧ cellD d (((n0 + i + 1 : Nat) : Int) - 1) 6 = some (.i 0) ∧ slotD d ((n0 + i + 1 : Nat) : Int) = x.1 := by
  obtain ⟨x, hx⟩ := list_cases (d := H) hi
  obtain ⟨ptx, pp, hr⟩ := h i x (by rw [List.getElem?_append_left hi]; exact hx)
  have e : (((n0 + i + 1 : Nat) : Int) - 1) = ((n0 + i : Nat) : Int) := by omega
  refine ⟨x, hx, ?_, ?_⟩
  · rw [e, cell_row hr]; rfl
  · unfold slotD
    rw [e, cell_row hr]; rfl
theorem pset {d : List (List DV)} {n0 : Nat} {H R : List Wr} {k : Nat} (hj : JV d) (h : Rws d n0 (H ++ R)) (hl : n0 + H.length ≤ d.length) (hk : KSet k H) : PSet d (ion n0 H.length) k := by
  have hd := hj.1
  refine ⟨hk.lt, _, rfl, ⟨hj, by rw [List.length_map, List.length_range]; omega, fun n hn => ?_, fun n hn => ?_, fun n hn => ?_⟩, fun n hn => ?_, fun s hs hb => ?_⟩
  · obtain ⟨i, _, rfl⟩ := ion_ns _ _ n hn; omega
  · obtain ⟨i, hi, rfl⟩ := ion_ns _ _ n hn; omega
  · obtain ⟨i, hi, rfl⟩ := ion_ns _ _ n hn
    obtain ⟨x, _, e, _⟩ := rws_cell h hi
    exact e
  · obtain ⟨i, hi, rfl⟩ := ion_ns _ _ n hn
    obtain ⟨x, hx, _, e⟩ := rws_cell h hi
    have := hk.sl x (List.mem_of_getElem? hx)
    exact ⟨x.1, this.1, e, this.2⟩
  · obtain ⟨x, hx, e⟩ := hk.al s hs hb
    obtain ⟨i, hi⟩ := List.getElem?_of_mem hx
    have hlt := (List.getElem?_eq_some_iff.1 hi).1
    obtain ⟨y, hy, _, e2⟩ := rws_cell h hlt
    rw [hi] at hy
    cases hy
    exact ⟨_, List.mem_map.2 ⟨i, List.mem_range.2 hlt, rfl⟩, by rw [e2, e]⟩
def abR (n : Nat) (kind tx ptx : Int) : List DV := enR ((n : Int) + 1) kind tx ptx 0 0 0 0 false ⟨#[]⟩ false ⟨#[]⟩
theorem ab_ok {n : Nat} {kind tx ptx : Int} (ht : tx = 1 ∨ tx = 2) (hk : kind = 3 ∨ kind = 4 ∨ kind = 5) (h1 : 1 ≤ ptx) (h2 : ptx ≤ n) : EnOk n (abR n kind tx ptx) :=
  ⟨kind, tx, ptx, 0, 0, 0, 0, false, ⟨#[]⟩, false, ⟨#[]⟩, rfl, by omega, by omega, by omega, h2, by decide, by omega, by decide, by omega, .inr (.inr ⟨by omega, h1, rfl, rfl, rfl, rfl, rfl, rfl, rfl, rfl⟩)⟩
theorem Rws.push' {d : List (List DV)} {n0 : Nat} {H : List Wr} (h : Rws d n0 H) (row : List DV) : Rws (d ++ [row]) n0 H := fun j x hx => by
  obtain ⟨ptx, pp, e⟩ := h j x hx
  have := (List.getElem?_eq_some_iff.1 e).1
  exact ⟨ptx, pp, by rw [List.getElem?_append_left this]; exact e⟩
def pcl (b : Nat → MV) (i : Nat) : Cel := ((b (20 + 2 * i)).b, (b (21 + 2 * i)).s)
def wcl (b : Nat → MV) (i : Nat) : Cel := ((b (60 + 2 * i)).b, (b (61 + 2 * i)).s)
structure JS (d51 : List (List DV)) (w : Nat → Cel) (z n0 : Nat) (b : Nat → MV) : Prop where
  s : (b 51).d = d51
  y : JV (b 0).d
  n : (b 0).d.length = n0
  n21 : n0 ≤ 21
  la : (b 2).i = 0
  q : (b 1).d = []
  du : (b 4).i = n0
  p0 : z ≠ 0 → 1 ≤ (b 3).i
  p1 : z ≠ 0 → (b 3).i < n0
  z0 : z = 0 → n0 = 0
  z5 : z < 5
  cv : z ≠ 0 → ∀ i, i < 4 → VCell (pcl b i).1 (pcl b i).2
  ce : z ≠ 0 → ∀ i, i < 4 → pcl b i = w i
  ws : ∀ i, i < 4 → wcl b i = w i
  w4 : w 4 = (false, ⟨#[]⟩)
  wz : z = 0 → ∀ i, w i = (false, ⟨#[]⟩)
  ix : (b 7).i = 0
  ln : (b 8).i = d51.length
structure JW (d51 : List (List DV)) (w : Nat → Cel) (n0 k : Nat) (H : List Wr) (b : Nat → MV) : Prop where
  s : (b 51).d = d51
  ln : (b 8).i = d51.length
  ix : (b 7).i = H.length
  hl : H.length ≤ d51.length
  h1 : 1 ≤ H.length
  n21 : n0 ≤ 21
  y : JV (b 0).d
  len : (b 0).d.length = n0 + H.length
  la : (b 2).i = (b 0).d.length
  pl : (b 3).i = (b 0).d.length
  du : (b 4).i = n0
  q : (b 1).d = ion n0 H.length
  rw : Rws (b 0).d n0 H
  ks : KSet k H
  ch : ∃ c, Ch w H c ∧ ∀ i, i < 5 → pcl b i = c i
  cv : ∀ i, i < 5 → VCell (pcl b i).1 (pcl b i).2
  ws : ∀ i, i < 4 → wcl b i = w i
  w4 : w 4 = (false, ⟨#[]⟩)
  wv : ∀ i, i < 4 → VCell (w i).1 (w i).2
theorem JW.next {d51 : List (List DV)} {w : Nat → Cel} {n0 k s : Nat} {H : List Wr} {b b' : Nat → MV} {ad : ByteArray} (h : JW d51 w n0 k H b) (hl30 : d51.length ≤ 30) (hlt : (b 7).i < d51.length) (hs : s < 5) (hv : VCell true ad)
    (hy : (b' 0).d = (b 0).d ++ [enR (((b 0).d.length : Int) + 1) 1 2 (b 2).i (b 3).i 0 0 s (pcl b s).1 (pcl b s).2 true ad]) (hq : (b' 1).d = (b 1).d ++ [[DV.i (((b 0).d.length : Int) + 1)]]) (h2 : (b' 2).i = ((b 0).d.length : Int) + 1) (h3 : (b' 3).i = ((b 0).d.length : Int) + 1) (h4 : (b' 4).i = (b 4).i)
    (h51 : (b' 51).d = (b 51).d) (h8 : (b' 8).i = (b 8).i) (h7 : (b' 7).i = (b 7).i + 1) (hw : ∀ i, i < 4 → wcl b' i = wcl b i) (hc : ∀ i, i < 5 → pcl b' i = if i = s then (true, ad) else pcl b i) : JW d51 w n0 (k ||| 2 ^ s) (H ++ [(s, pcl b s, (true, ad))]) b' := by
  have h0 := h.ix
  have hlen := h.len
  have hhl := h.hl
  have hla := h.la
  have hpl := h.pl
  have h21 := h.n21
  obtain ⟨c, c1, c2⟩ := h.ch
  have e1 : (H ++ [(s, pcl b s, (true, ad))]).length = H.length + 1 := by simp
  have e2 : (b' 0).d.length = (b 0).d.length + 1 := by rw [hy]; simp
  refine ⟨by rw [h51, h.s], by rw [h8, h.ln], by rw [h7, e1]; omega, by rw [e1]; omega, by omega, h21, ?_, by omega, by rw [h2, e2]; rfl, by rw [h3, e2]; rfl, by rw [h4, h.du], ?_, ?_, h.ks.snoc hs rfl, ?_, fun i hi => ?_, fun i hi => by rw [hw i hi, h.ws i hi], h.w4, h.wv⟩
  · rw [hy]
    exact h.y.push (by omega) (en_ok (.inr rfl) (by omega) (.inl ⟨rfl, rfl⟩) (by omega) (by omega) (by omega) (by omega) (by omega) (h.cv s hs) hv)
  · rw [hq, h.q, e1, ion_succ, hlen]; rfl
  · rw [hy]
    exact h.rw.snoc (by omega) (s, pcl b s, (true, ad)) _ _
  · refine ⟨updC c s (true, ad), ?_, fun i hi => ?_⟩
    · rw [c2 s hs]; exact c1.snoc s _
    · rw [hc i hi]
      unfold updC
      split
      · rfl
      · exact c2 i hi
  · rw [hc i hi]
    split
    · exact hv
    · exact h.cv i hi
theorem JS.next {d51 : List (List DV)} {w : Nat → Cel} {z n0 s : Nat} {b b' : Nat → MV} {ad : ByteArray} {c0 : Nat → Cel} {pp : Int} (h : JS d51 w z n0 b) (hlt : (b 7).i < d51.length) (hs : s < 5) (hv : VCell true ad)
    (hc0 : ∀ i, i < 5 → c0 i = w i) (hcv : ∀ i, i < 5 → VCell (c0 i).1 (c0 i).2) (hpp : 0 ≤ pp ∧ pp ≤ n0)
    (hy : (b' 0).d = (b 0).d ++ [enR (((b 0).d.length : Int) + 1) 1 2 (b 2).i pp 0 0 s (c0 s).1 (c0 s).2 true ad]) (hq : (b' 1).d = [[DV.i (((b 0).d.length : Int) + 1)]]) (h2 : (b' 2).i = ((b 0).d.length : Int) + 1) (h3 : (b' 3).i = ((b 0).d.length : Int) + 1) (h4 : (b' 4).i = (b 4).i)
    (h51 : (b' 51).d = (b 51).d) (h8 : (b' 8).i = (b 8).i) (h7 : (b' 7).i = (b 7).i + 1) (hw : ∀ i, i < 4 → wcl b' i = wcl b i) (hc : ∀ i, i < 5 → pcl b' i = if i = s then (true, ad) else c0 i) : JW d51 w n0 (2 ^ s) [(s, c0 s, (true, ad))] b' := by
  have h0 := h.ix
  have hlen := h.n
  have hla := h.la
  have h21 := h.n21
  have e2 : (b' 0).d.length = (b 0).d.length + 1 := by rw [hy]; simp
  have hwv : ∀ i, i < 4 → VCell (w i).1 (w i).2 := fun i hi => by rw [← hc0 i (by omega)]; exact hcv i (by omega)
  refine ⟨by rw [h51, h.s], by rw [h8, h.ln], by rw [h7, h0]; rfl, by show 1 ≤ _; omega, Nat.le_refl _, h21, ?_, by rw [e2, hlen]; rfl, by rw [h2, e2]; rfl, by rw [h3, e2]; rfl, by rw [h4, h.du], ?_, ?_, KSet.one hs rfl, ?_, fun i hi => ?_, fun i hi => by rw [hw i hi, h.ws i hi], h.w4, hwv⟩
  · rw [hy]
    exact h.y.push (by omega) (en_ok (.inr rfl) (by omega) (.inl ⟨rfl, rfl⟩) (by omega) (by omega) (by omega) (by omega) (by omega) (hcv s hs) hv)
  · rw [hq, hlen]; rfl
  · rw [hy]
    have h9 : Rws (b 0).d n0 [] := fun j x hx => (nomatch hx)
    exact h9.snoc (by rw [hlen]; rfl) (s, c0 s, (true, ad)) _ _
  · refine ⟨updC w s (true, ad), ?_, fun i hi => ?_⟩
    · have := Ch.snoc (Ch.nil (w := w)) s (true, ad)
      rw [← hc0 s hs] at this
      exact this
    · rw [hc i hi]
      unfold updC
      split
      · rfl
      · exact hc0 i hi
  · rw [hc i hi]
    split
    · exact hv
    · exact hcv i hi
structure JB (d51 : List (List DV)) (w : Nat → Cel) (n0 n k : Nat) (H R : List Wr) (b : Nat → MV) : Prop where
  s : (b 51).d = d51
  sl : d51.length = n
  n1 : 1 ≤ n
  n30 : n ≤ 30
  hn : H.length + R.length = n
  n21 : n0 ≤ 21
  y : JV (b 0).d
  len : (b 0).d.length = n0 + n + 1 + R.length
  la : (b 2).i = (b 0).d.length
  pl0 : 1 ≤ (b 3).i
  pl1 : (b 3).i ≤ (b 0).d.length
  du : (b 4).i = n0
  q : (b 1).d = ion n0 H.length
  rw : Rws (b 0).d n0 (H ++ R)
  ks : KSet k H
  sa : ∀ x ∈ H ++ R, x.1 < 5
  ch : ∃ c, Ch w H c ∧ ∀ i, i < 5 → pcl b i = c i
  cv : ∀ i, i < 5 → VCell (pcl b i).1 (pcl b i).2
  ws : ∀ i, i < 4 → wcl b i = w i
  w4 : w 4 = (false, ⟨#[]⟩)
  wv : ∀ i, i < 4 → VCell (w i).1 (w i).2
  i7 : (b 12).i = R.length
theorem JW.abort {d51 : List (List DV)} {w : Nat → Cel} {n0 k : Nat} {H : List Wr} {b b' : Nat → MV} (h : JW d51 w n0 k H b) (h7 : H.length = d51.length) (hl30 : d51.length ≤ 30) (hy : (b' 0).d = (b 0).d ++ [enR (((b 0).d.length : Int) + 1) 4 2 (b 2).i 0 0 0 0 false ⟨#[]⟩ false ⟨#[]⟩]) (hq : (b' 1).d = (b 1).d) (h2 : (b' 2).i = ((b 0).d.length : Int) + 1) (h3 : (b' 3).i = (b 3).i) (h4 : (b' 4).i = (b 4).i)
    (h51 : (b' 51).d = (b 51).d) (h12 : (b' 12).i = 0) (hw : ∀ i, i < 4 → wcl b' i = wcl b i) (hc : ∀ i, i < 5 → pcl b' i = pcl b i) : JB d51 w n0 d51.length k H [] b' := by
  have hlen := h.len
  have hla := h.la
  have hpl := h.pl
  have h1 := h.h1
  have h21 := h.n21
  have e1 : (b' 0).d.length = (b 0).d.length + 1 := by rw [hy]; simp
  have hrow : enR (((b 0).d.length : Int) + 1) 4 2 (b 2).i 0 0 0 0 false ⟨#[]⟩ false ⟨#[]⟩ = abR (b 0).d.length 4 2 (b 2).i := rfl
  rw [hrow] at hy
  obtain ⟨c, c1, c2⟩ := h.ch
  refine ⟨by rw [h51, h.s], rfl, by omega, hl30, by rw [h7]; rfl, h21, ?_, by rw [e1, hlen, h7]; rfl, by rw [h2, e1]; rfl, by omega, by rw [e1]; omega, by rw [h4, h.du], by rw [hq, h.q], ?_, h.ks, fun x hx => (h.ks.sl x (by simpa using hx)).1, ⟨c, c1, fun i hi => by rw [hc i hi, c2 i hi]⟩, fun i hi => by rw [hc i hi]; exact h.cv i hi, fun i hi => by rw [hw i hi, h.ws i hi], h.w4, h.wv, h12⟩
  · rw [hy]
    exact h.y.push (by omega) (ab_ok (.inr rfl) (.inr (.inl rfl)) (by omega) (by omega))
  · rw [hy, List.append_nil]; exact h.rw.push' _
theorem JB.next {d51 : List (List DV)} {w : Nat → Cel} {n0 n k k2 s : Nat} {H R : List Wr} {x : Wr} {b b' : Nat → MV} (h : JB d51 w n0 n k (H ++ [x]) R b) (hs : s = x.1) (hv : VCell x.2.1.1 x.2.1.2) (hva : VCell x.2.2.1 x.2.2.2)
    (hy : (b' 0).d = (b 0).d ++ [enR (((b 0).d.length : Int) + 1) 2 2 (b 2).i (b 3).i ((n0 + H.length + 1 : Nat) : Int) 0 s x.2.2.1 x.2.2.2 x.2.1.1 x.2.1.2]) (hq : (b' 1).d = (b 1).d.eraseIdx H.length) (h2 : (b' 2).i = ((b 0).d.length : Int) + 1) (h3 : (b' 3).i = ((b 0).d.length : Int) + 1) (h4 : (b' 4).i = (b 4).i)
    (h51 : (b' 51).d = (b 51).d) (h12 : (b' 12).i = (b 12).i + 1) (hw : ∀ i, i < 4 → wcl b' i = wcl b i) (hc : ∀ i, i < 5 → pcl b' i = if i = s then x.2.1 else pcl b i) (hk : KSet k2 H) : JB d51 w n0 n k2 H (x :: R) b' := by
  subst hs
  have hn := h.hn
  have hlen := h.len
  have n30 := h.n30
  have h21 := h.n21
  have hla := h.la
  have p0 := h.pl0
  have p1 := h.pl1
  have h7 := h.i7
  rw [List.length_append, List.length_singleton] at hn
  have e1 : (b' 0).d.length = (b 0).d.length + 1 := by rw [hy]; simp
  obtain ⟨c, c1, c2⟩ := h.ch
  obtain ⟨c0, k1, k2', k3⟩ := c1.last
  have hcc : ∀ i, i < 5 → pcl b' i = c0 i := fun i hi => by
    rw [hc i hi]
    split
    · rename_i e; rw [e]; exact k2'
    · rename_i e
      rw [c2 i hi, k3]
      unfold updC
      rw [if_neg e]
  refine ⟨by rw [h51, h.s], h.sl, h.n1, n30, by rw [List.length_cons]; omega, h21, ?_, by rw [e1, List.length_cons]; omega, by rw [h2, e1]; rfl, by omega, by rw [e1]; omega, by rw [h4, h.du], ?_, ?_, hk, ?_, ⟨c0, k1, hcc⟩, fun i hi => ?_, fun i hi => by rw [hw i hi, h.ws i hi], h.w4, h.wv, by rw [h12, h7, List.length_cons]; omega⟩
  · rw [hy]
    exact h.y.push (by omega) (en_ok (.inr rfl) (by have := h.sa x (by simp); omega) (.inr ⟨rfl, by omega, by omega⟩) (by omega) (by omega) (by omega) (by omega) (by omega) hva hv)
  · rw [hq, h.q, List.length_append, List.length_singleton]
    exact ion_del _ _
  · rw [hy]
    have := h.rw.push' (enR (((b 0).d.length : Int) + 1) 2 2 (b 2).i (b 3).i ((n0 + H.length + 1 : Nat) : Int) 0 x.1 x.2.2.1 x.2.2.2 x.2.1.1 x.2.1.2)
    rwa [List.append_assoc] at this
  · intro z hz
    exact h.sa z (by simpa using hz)
  · rw [hc i hi]
    split
    · exact hv
    · exact h.cv i hi
structure JE (d51 : List (List DV)) (w : Nat → Cel) (n0 n : Nat) (b : Nat → MV) : Prop where
  s : (b 51).d = d51
  sl : d51.length = n
  n1 : 1 ≤ n
  n30 : n ≤ 30
  n21 : n0 ≤ 21
  y : JV (b 0).d
  len : (b 0).d.length = n0 + 2 * n + 2
  pl0 : 1 ≤ (b 3).i
  pl1 : (b 3).i ≤ (b 0).d.length
  du : (b 4).i = n0
  cw : ∀ i, i < 5 → pcl b i = w i
  ws : ∀ i, i < 4 → wcl b i = w i
  w4 : w 4 = (false, ⟨#[]⟩)
  wv : ∀ i, i < 4 → VCell (w i).1 (w i).2
  i7 : (b 12).i = n + 1
theorem Ch.inv_nil {w c : Nat → Cel} (h : Ch w [] c) : c = w := by
  generalize hH : ([] : List Wr) = H at h
  cases h with
  | nil => rfl
  | snoc h s x => simp at hH
theorem JB.fin {d51 : List (List DV)} {w : Nat → Cel} {n0 n k : Nat} {R : List Wr} {b b' : Nat → MV} (h : JB d51 w n0 n k [] R b) (hy : (b' 0).d = (b 0).d ++ [enR (((b 0).d.length : Int) + 1) 5 2 (b 2).i 0 0 0 0 false ⟨#[]⟩ false ⟨#[]⟩]) (h3 : (b' 3).i = (b 3).i) (h4 : (b' 4).i = (b 4).i) (h51 : (b' 51).d = (b 51).d) (h12 : (b' 12).i = (b 12).i + 1)
    (hw : ∀ i, i < 4 → wcl b' i = wcl b i) (hc : ∀ i, i < 5 → pcl b' i = pcl b i) : JE d51 w n0 n b' := by
  have hn : R.length = n := by have := h.hn; simpa using this
  have hlen := h.len
  have hla := h.la
  have n30 := h.n30
  have h21 := h.n21
  have e1 : (b' 0).d.length = (b 0).d.length + 1 := by rw [hy]; simp
  have hrow : enR (((b 0).d.length : Int) + 1) 5 2 (b 2).i 0 0 0 0 false ⟨#[]⟩ false ⟨#[]⟩ = abR (b 0).d.length 5 2 (b 2).i := rfl
  rw [hrow] at hy
  obtain ⟨c, c1, c2⟩ := h.ch
  rw [c1.inv_nil] at c2
  refine ⟨by rw [h51, h.s], h.sl, h.n1, n30, h21, ?_, by omega, by rw [h3]; exact h.pl0, by rw [h3, e1]; have := h.pl1; omega, by rw [h4, h.du], fun i hi => by rw [hc i hi, c2 i hi], fun i hi => by rw [hw i hi, h.ws i hi], h.w4, h.wv, by rw [h12, h.i7, hn]⟩
  rw [hy]
  exact h.y.push (by omega) (ab_ok (.inr rfl) (.inr (.inr rfl)) (by omega) (by omega))
end Go.Proofs.YtnofmmceafkkoaaGreat
