/-
  Arguments that came in: a slice of bytes; pages and changes by value.
-/
import Derived.Test.YtlbhoepfcedkdaaLaw03
import Derived.ProofKit
import Derived.OpenShut
namespace Go.Proofs.Ytlbhoepfcedkdaa
open Go.ChangeShapes Go.WideShapes Go.ChangeAt Go.RowKit
/-- A slice of integers that came in: it is nil; or it leads to a row of 'cap' cells, the numbers 'zs', each fitting its kind. -/
def IsRow (k : IntKind) (w : World) (a : Option Addr) (len cap : Nat) (zs : List Int) : Prop :=
  (a = none ∧ len = 0 ∧ cap = 0 ∧ zs = []) ∨
  ∃ x, a = some x ∧ len ≤ cap ∧ cap ≤ maxLen ∧ zs.length = cap ∧ (∀ i, i < zs.length → w.cell? (x.add i) = some (.int k (zs.getD i 0))) ∧ ∀ n ∈ zs, (Lit.int k n).wf = true
theorem bytesIn_of {w : World} {a : Option Addr} {len cap : Nat} {zs : List Int} (h : IsRow .u8 w a len cap zs) : BytesIn w a len ∧ len ≤ cap ∧ cap ≤ maxLen := by
  rcases h with ⟨rfl, rfl, rfl, rfl⟩ | ⟨x, rfl, hl, hm, hz, hc, hw⟩
  · exact ⟨fun h => absurd h (by omega), Nat.le_refl _, Nat.zero_le _⟩
  · refine ⟨fun h0 => ?_, hl, hm⟩
    obtain ⟨b, off, rfl, hc'⟩ := ints_at hc (by omega)
    refine ⟨b, off, rfl, fun i hi => ?_⟩
    have h1 := hc' i (by omega)
    have hmem : zs.getD i 0 ∈ zs := by
      have hlt : i < zs.length := by omega
      simp [hlt]
    have hwf := hw _ hmem
    have hb := bounds_u8 hwf
    exact ⟨(zs.getD i 0).toNat, by omega, by rw [h1]; congr 2; omega⟩
theorem cell_int {w : World} {r : Reach} {base : Nat} {v : Value} (h : Cell.okWide Try.prog w r base 3 v) : ∃ n, v = .int .i64 n := by
  simp only [Cell.okWide, Try.underlying3] at h
  cases v <;> simp_all [Cell.ok, Try.underlying3]
theorem cell_bool {w : World} {r : Reach} {base : Nat} {v : Value} (h : Cell.okWide Try.prog w r base 4 v) : ∃ n, v = .bool n := by
  simp only [Cell.okWide, Try.underlying4] at h
  cases v <;> simp_all [Cell.ok, Try.underlying4]
theorem cell_string {w : World} {r : Reach} {base : Nat} {v : Value} (h : Cell.okWide Try.prog w r base 9 v) : ∃ n, v = .string n := by
  simp only [Cell.okWide, Try.underlying9] at h
  cases v <;> simp_all [Cell.ok, Try.underlying9]
theorem cellVals_of : ∀ (n : Nat) (l : List Value), l.length = 2 * n → (∀ (i : Nat) (v : Value), l[2 * i]? = some v → ∃ b, v = .bool b) → (∀ (i : Nat) (v : Value), l[2 * i + 1]? = some v → ∃ s, v = .string s) → ∃ cs, l = cellVals cs ∧ cs.length = n
  | 0, l, h, _, _ => ⟨[], List.eq_nil_of_length_eq_zero (by simpa using h), rfl⟩
  | n + 1, [], h, _, _ => by simp at h
  | n + 1, [x], h, _, _ => by simp at h; omega
  | n + 1, x :: y :: l, h, h1, h2 => by
    obtain ⟨b, rfl⟩ := h1 0 x rfl
    obtain ⟨s, rfl⟩ := h2 0 y rfl
    obtain ⟨cs, rfl, hl⟩ := cellVals_of n l (by simp at h; omega) (fun i v hv => h1 (i + 1) v (by rw [show 2 * (i + 1) = 2 * i + 1 + 1 by omega]; simpa using hv)) (fun i v hv => h2 (i + 1) v (by rw [show 2 * (i + 1) + 1 = 2 * i + 1 + 1 + 1 by omega]; simpa using hv))
    exact ⟨(b, s) :: cs, rfl, by simp [hl]⟩
theorem page_types : Try.prog.cellTypes Try.prog.depth 27 = some (3 :: 3 :: (List.replicate 16 [4, 9]).flatten) := by kernel_rfl
theorem page_cells : Try.prog.cellsOf 27 = 34 := by kernel_rfl
theorem alt_get : ∀ (n i : Nat), i < n → (List.replicate n [(4 : Nat), 9]).flatten[2 * i]? = some 4 ∧ (List.replicate n [(4 : Nat), 9]).flatten[2 * i + 1]? = some 9
  | 0, i, h => absurd h (Nat.not_lt_zero _)
  | n + 1, 0, _ => ⟨rfl, rfl⟩
  | n + 1, i + 1, h => by
    have := alt_get n i (by omega)
    rw [show 2 * (i + 1) = 2 * i + 1 + 1 by omega, show (List.replicate (n + 1) [(4 : Nat), 9]).flatten = 4 :: 9 :: (List.replicate n [(4 : Nat), 9]).flatten from rfl]
    exact this
theorem page_in {w : World} {r : Reach} {base : Nat} {v : Value} (h : Value.okWide Try.prog w r base 27 v) : ∃ p : Pg, v = .agg p.arr ∧ p.cells.length = 16 := by
  simp only [Value.okWide, Try.underlying27] at h
  obtain ⟨cs, rfl, hsz, ts, hts, _, hc⟩ := h
  rw [page_cells] at hsz
  rw [page_types] at hts
  obtain rfl : (3 :: 3 :: (List.replicate 16 [4, 9]).flatten) = ts := by simpa using hts
  obtain ⟨l⟩ := cs
  simp only [List.size_toArray] at hsz
  match l, hsz, hc with
  | x :: y :: l, hsz, hc =>
    have hlen : ((3 : Nat) :: 3 :: (List.replicate 16 [(4 : Nat), 9]).flatten).length = 34 := by simp
    have at_ : ∀ (i : Nat) (v : Value), i < 34 → (x :: y :: l)[i]? = some v → ∃ u, ((3 : Nat) :: 3 :: (List.replicate 16 [(4 : Nat), 9]).flatten)[i]? = some u ∧ Cell.okWide Try.prog w r base u v := fun i v hi hv => by
      have := hc i v (by simpa using hv)
      rw [hlen, Nat.mod_eq_of_lt hi] at this
      exact this
    obtain ⟨_, h1, h2⟩ := at_ 0 x (by omega) rfl
    cases h1
    obtain ⟨id, rfl⟩ := cell_int h2
    obtain ⟨_, h1, h2⟩ := at_ 1 y (by omega) rfl
    cases h1
    obtain ⟨lsn, rfl⟩ := cell_int h2
    have hl : l.length = 2 * 16 := by simp at hsz; omega
    obtain ⟨cells, rfl, hcl⟩ := cellVals_of 16 l hl (fun i v hv => by
      have hi : 2 * i < l.length := (List.getElem?_eq_some_iff.1 hv).1
      obtain ⟨u, h1, h2⟩ := at_ (2 * i + 1 + 1) v (by omega) (by simpa using hv)
      have h3 := (alt_get 16 i (by omega)).1
      simp only [List.getElem?_cons_succ] at h1
      obtain rfl : 4 = u := Option.some.inj (h3.symm.trans h1)
      exact cell_bool h2) (fun i v hv => by
      have hi : 2 * i + 1 < l.length := (List.getElem?_eq_some_iff.1 hv).1
      obtain ⟨u, h1, h2⟩ := at_ (2 * i + 1 + 1 + 1) v (by omega) (by simpa using hv)
      have h3 := (alt_get 16 i (by omega)).2
      simp only [List.getElem?_cons_succ] at h1
      obtain rfl : 9 = u := Option.some.inj (h3.symm.trans h1)
      exact cell_string h2)
    exact ⟨⟨id, lsn, cells⟩, rfl, hcl⟩
theorem change_types : Try.prog.cellTypes Try.prog.depth 29 = some [3, 3, 4, 9, 4, 9] := by kernel_rfl
theorem change_cells : Try.prog.cellsOf 29 = 6 := by kernel_rfl
theorem change_in {w : World} {r : Reach} {base : Nat} {v : Value} (h : Value.okWide Try.prog w r base 29 v) : ∃ c : Chg, v = .agg c.arr := by
  simp only [Value.okWide, Try.underlying29] at h
  obtain ⟨cs, rfl, hsz, ts, hts, _, hc⟩ := h
  rw [change_cells] at hsz
  rw [change_types] at hts
  obtain rfl : [3, 3, 4, 9, 4, 9] = ts := by simpa using hts
  obtain ⟨l⟩ := cs
  match l, hsz, hc with
  | [v0, v1, v2, v3, v4, v5], _, hc =>
    have at_ : ∀ (i : Nat) (v : Value), i < 6 → [v0, v1, v2, v3, v4, v5][i]? = some v → ∃ u, [(3 : Nat), 3, 4, 9, 4, 9][i]? = some u ∧ Cell.okWide Try.prog w r base u v := fun i v hi hv => by
      have := hc i v (by simpa using hv)
      rw [show [(3 : Nat), 3, 4, 9, 4, 9].length = 6 from rfl, Nat.mod_eq_of_lt hi] at this
      exact this
    obtain ⟨_, h1, h2⟩ := at_ 0 v0 (by omega) rfl
    cases h1
    obtain ⟨page, rfl⟩ := cell_int h2
    obtain ⟨_, h1, h2⟩ := at_ 1 v1 (by omega) rfl
    cases h1
    obtain ⟨slot, rfl⟩ := cell_int h2
    obtain ⟨_, h1, h2⟩ := at_ 2 v2 (by omega) rfl
    cases h1
    obtain ⟨bb, rfl⟩ := cell_bool h2
    obtain ⟨_, h1, h2⟩ := at_ 3 v3 (by omega) rfl
    cases h1
    obtain ⟨bd, rfl⟩ := cell_string h2
    obtain ⟨_, h1, h2⟩ := at_ 4 v4 (by omega) rfl
    cases h1
    obtain ⟨ab, rfl⟩ := cell_bool h2
    obtain ⟨_, h1, h2⟩ := at_ 5 v5 (by omega) rfl
    cases h1
    obtain ⟨ad, rfl⟩ := cell_string h2
    exact ⟨⟨page, slot, bb, bd, ab, ad⟩, rfl⟩
end Go.Proofs.Ytlbhoepfcedkdaa
