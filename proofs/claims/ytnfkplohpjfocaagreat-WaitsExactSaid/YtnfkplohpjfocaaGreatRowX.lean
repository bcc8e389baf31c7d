/-
  Arguments that came in: a table of locks, a grant.
-/
import Derived.Test.YtnfkplohpjfocaaGreatRowIn
import Derived.Test.YtnfkplohpjfocaaGreatGrant
set_option linter.unusedVariables false
set_option linter.unusedSimpArgs false
namespace Go.Proofs.YtnfkplohpjfocaaGreat
open Go.ChangeShapes Go.WideShapes Go.ChangeAt Go.RowKit
section
variable {H : Type} {enc : TypeId × Value → H} {w : World} {base : Nat} {spare : Nat → Bool} {held : Bool} {fuel : Nat} {cs : List Value} {x : DataW H × List MemPlace}
theorem some_at {α : Type} {xs : List α} {n i : Nat} (hl : xs.length = n) (hi : i < n) : ∃ y, xs[i]? = some y := ⟨_, List.getElem?_eq_getElem (by omega)⟩
set_option maxRecDepth 100000 in
theorem lock_cells (h : DataW.trod enc Tryz.prog w base spare held fuel 27 cs = some x) : ∃ p s : Int, cs = [.int .i64 p, .int .i64 s] := by
  obtain ⟨xs, n, -, -, hl, hxl, hf⟩ := DataW.trod_struct Tryz.underlying27 h
  have hc : Tryz.prog.cellsOf 27 = 2 := by kernel_rfl
  have hi : Tryz.prog.cellsOf 3 = 1 := by kernel_rfl
  rw [hc] at hl
  obtain ⟨y0, h0⟩ := some_at (i := 0) hxl (by decide)
  obtain ⟨y1, h1⟩ := some_at (i := 1) hxl (by decide)
  have f0 : DataW.trod enc Tryz.prog w base spare held n 3 ((cs.drop 0).take (Tryz.prog.cellsOf 3)) = some y0 := (hf 0 _ rfl).trans h0
  have f1 : DataW.trod enc Tryz.prog w base spare held n 3 ((cs.drop 1).take (Tryz.prog.cellsOf 3)) = some y1 := (hf 1 _ rfl).trans h1
  obtain ⟨p, e0, -⟩ := DataW.trod_int Tryz.underlying3 f0
  obtain ⟨s, e1, -⟩ := DataW.trod_int Tryz.underlying3 f1
  clear hf f0 f1 h0 h1 h
  match cs, hl with
  | [a, b], _ =>
    try dsimp only at e0 e1
    rw [hi] at e0 e1
    simp at e0 e1
    exact ⟨p, s, by rw [e0, e1]⟩
set_option maxRecDepth 100000 in
theorem grant_cells (h : DataW.trod enc Tryz.prog w base spare held fuel 29 cs = some x) : ∃ g : G, cs = g.lst := by
  obtain ⟨xs, n, -, -, hl, hxl, hf⟩ := DataW.trod_struct Tryz.underlying29 h
  have hc : Tryz.prog.cellsOf 29 = 4 := by kernel_rfl
  have hi : Tryz.prog.cellsOf 3 = 1 := by kernel_rfl
  have hk : Tryz.prog.cellsOf 27 = 2 := by kernel_rfl
  rw [hc] at hl
  obtain ⟨y0, h0⟩ := some_at (i := 0) hxl (by decide)
  obtain ⟨y1, h1⟩ := some_at (i := 1) hxl (by decide)
  obtain ⟨y2, h2⟩ := some_at (i := 2) hxl (by decide)
  have f0 : DataW.trod enc Tryz.prog w base spare held n 3 ((cs.drop 0).take (Tryz.prog.cellsOf 3)) = some y0 := (hf 0 _ rfl).trans h0
  have f1 : DataW.trod enc Tryz.prog w base spare held n 27 ((cs.drop 1).take (Tryz.prog.cellsOf 27)) = some y1 := (hf 1 _ rfl).trans h1
  have f2 : DataW.trod enc Tryz.prog w base spare held n 3 ((cs.drop 3).take (Tryz.prog.cellsOf 3)) = some y2 := (hf 2 _ rfl).trans h2
  obtain ⟨t, e0, -⟩ := DataW.trod_int Tryz.underlying3 f0
  obtain ⟨p, s, e1⟩ := lock_cells f1
  obtain ⟨m, e2, -⟩ := DataW.trod_int Tryz.underlying3 f2
  clear hf f0 f1 f2 h0 h1 h2 h
  match cs, hl with
  | [a, b, c, d], _ =>
    try dsimp only at e0 e1 e2
    rw [hi] at e0 e2
    rw [hk] at e1
    simp at e0 e1 e2
    exact ⟨⟨t, p, s, m⟩, by rw [e0, e1.1, e1.2, e2]; rfl⟩
theorem cells_at {a : Addr} : ∀ {n : Nat} {l : List Value}, w.cells? base a n = some l → ∀ (j : Nat) (u : Value), l[j]? = some u → w.cell? (a.add j) = some u := by
  intro n l h j u hj
  unfold World.cells? at h
  split at h
  · have hl := mapM_some_length h
    have hjn : j < n := by have := (List.getElem?_eq_some_iff.1 hj).1; rw [hl, List.length_range] at this; exact this
    have := mapM_some_get h j j (by simp [hjn])
    rw [this]
    exact hj
  · cases h
set_option maxRecDepth 100000 in
theorem grants_slice (h : DataW.trod enc Tryz.prog w base spare held fuel 23 cs = some x) : ∃ (v : Value) (gs : List G), cs = [v] ∧ GsAt w v gs := by
  rcases DataW.trod_slice Tryz.underlying23 h with ⟨rfl, -⟩ | ⟨a, len, cap, elems, rest, n, -, rfl, -, -, hl, hm, hlen, hel, -, -⟩
  · exact ⟨_, [], rfl, none, 0, rfl, Nat.le_refl _, Nat.zero_le _, fun h => absurd rfl h⟩
  · have hc : Tryz.prog.cellsOf 29 = 4 := by kernel_rfl
    rw [hc] at hel
    have each : ∀ i, i < len → ∃ g : G, ∀ (j : Nat) (u : Value), g.lst[j]? = some u → w.cell? ((a.add (i * 4)).add j) = some u := fun i hi => by
      obtain ⟨y, hy⟩ := some_at (i := i) hlen hi
      have e := (hel i hi).trans hy
      rw [Option.bind_eq_some_iff] at e
      obtain ⟨l, e1, e2⟩ := e
      obtain ⟨g, rfl⟩ := grant_cells e2
      exact ⟨g, cells_at e1⟩
    have upto : ∀ k, k ≤ len → ∃ gs : List G, gs.length = k ∧ ∀ (i : Nat) (g : G), gs[i]? = some g → ∀ (j : Nat) (u : Value), g.lst[j]? = some u → w.cell? ((a.add (i * 4)).add j) = some u := by
      intro k
      induction k with
      | zero => exact fun _ => ⟨[], rfl, fun i g hg => by simp at hg⟩
      | succ k ih =>
        intro hk
        obtain ⟨gs, h1, h2⟩ := ih (by omega)
        obtain ⟨g, hg⟩ := each k (by omega)
        refine ⟨gs ++ [g], by simp [h1], fun i g' hg' => ?_⟩
        by_cases hi : i < k
        · rw [List.getElem?_append_left (by omega)] at hg'
          exact h2 i g' hg'
        · rw [List.getElem?_append_right (by omega)] at hg'
          have hi2 : i - gs.length = 0 := by have := (List.getElem?_eq_some_iff.1 hg').1; simp at this; omega
          rw [hi2] at hg'
          simp at hg'
          subst hg'
          obtain rfl : i = k := by omega
          exact hg
    obtain ⟨gs, h1, h2⟩ := upto len (Nat.le_refl _)
    refine ⟨_, gs, rfl, some a, cap, by rw [List.length_map, h1], by rw [List.length_map, h1]; exact hl, hm, fun hne => ?_⟩
    have hpos : 0 < gs.length := by
      rcases Nat.eq_zero_or_pos gs.length with e | e
      · exact absurd (by rw [List.eq_nil_of_length_eq_zero e]; rfl) hne
      · exact e
    obtain ⟨g0, hg0⟩ := some_at (i := 0) (xs := gs) rfl hpos
    have hc0 := h2 0 g0 hg0 0 _ rfl
    obtain ⟨b, off, spot⟩ := a
    have hspot : spot = none := by simpa [Addr.add] using World.cell?_spot hc0
    subst hspot
    refine ⟨b, off, rfl, fun i r hi j u hj => ?_⟩
    rw [List.getElem?_map, Option.map_eq_some_iff] at hi
    obtain ⟨g, hg, rfl⟩ := hi
    have := h2 i g hg j u hj
    rwa [add_plain, add_plain] at this
end
set_option maxRecDepth 100000 in
theorem locks_in {H : Type} {enc : TypeId × Value → H} {w : World} {r : Reach} {base base2 : Nat} {spare : Nat → Bool} {held : Bool} {v : Value} {d : DataW H} {ps : List MemPlace} (hv : Value.okWide Tryz.prog w r base 25 v) (h : DataW.Trod enc Tryz.prog w base2 spare held 25 v d ps) :
    ∃ (vh vw : Value) (hs ws : List G), v = .agg #[vh, vw] ∧ GsAt w vh hs ∧ GsAt w vw ws := by
  obtain ⟨cs, rfl, hsz⟩ := okWide_struct Tryz.underlying25 hv
  obtain ⟨fuel, hf⟩ := h
  obtain ⟨xs, n, -, -, hl, hxl, hfl⟩ := DataW.trod_struct Tryz.underlying25 hf
  have hc : Tryz.prog.cellsOf 25 = 2 := by kernel_rfl
  have hk : Tryz.prog.cellsOf 23 = 1 := by kernel_rfl
  obtain ⟨y0, h0⟩ := some_at (i := 0) hxl (by decide)
  obtain ⟨y1, h1⟩ := some_at (i := 1) hxl (by decide)
  have f0 : DataW.trod enc Tryz.prog w base2 spare held n 23 (((Value.agg cs).cells.toList.drop 0).take (Tryz.prog.cellsOf 23)) = some y0 := (hfl 0 _ rfl).trans h0
  have f1 : DataW.trod enc Tryz.prog w base2 spare held n 23 (((Value.agg cs).cells.toList.drop 1).take (Tryz.prog.cellsOf 23)) = some y1 := (hfl 1 _ rfl).trans h1
  obtain ⟨vh, hs, e0, g0⟩ := grants_slice f0
  obtain ⟨vw, ws, e1, g1⟩ := grants_slice f1
  try dsimp only at e0 e1
  rw [hk] at e0 e1
  rw [hc] at hsz
  obtain ⟨l⟩ := cs
  simp only [List.size_toArray] at hsz
  clear hfl f0 f1 h0 h1 hf hl
  match l, hsz with
  | [a, b], _ =>
    simp [Value.cells] at e0 e1
    exact ⟨vh, vw, hs, ws, by rw [e0, e1], g0, g1⟩
set_option maxRecDepth 100000 in
theorem grant_in {H : Type} {enc : TypeId × Value → H} {w : World} {r : Reach} {base base2 : Nat} {spare : Nat → Bool} {held : Bool} {v : Value} {d : DataW H} {ps : List MemPlace} (hv : Value.okWide Tryz.prog w r base 29 v) (h : DataW.Trod enc Tryz.prog w base2 spare held 29 v d ps) : ∃ g : G, v = .agg g.arr := by
  obtain ⟨cs, rfl, hsz⟩ := okWide_struct Tryz.underlying29 hv
  obtain ⟨fuel, hf⟩ := h
  obtain ⟨g, hg⟩ := grant_cells hf
  refine ⟨g, ?_⟩
  obtain ⟨l⟩ := cs
  simp [Value.cells] at hg
  rw [hg]
end Go.Proofs.YtnfkplohpjfocaaGreat
