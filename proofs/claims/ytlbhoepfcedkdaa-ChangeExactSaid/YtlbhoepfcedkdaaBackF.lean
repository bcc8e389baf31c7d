/-
  ChangeBack: the plain law: a change and its inverse change nothing; joining is doing both.
-/
import Derived.Test.YtlbhoepfcedkdaaChg
import Derived.Test.YtlbhoepfcedkdaaTab
namespace Go.Proofs.Ytlbhoepfcedkdaa
theorem cellEqB_refl (x : Bool × ByteArray) : cellEqB x x = true := by simp [cellEqB]
theorem okB_of {b : Bool} {s : ByteArray} (h : s.size ≤ 12) (hb : b = false → s = ⟨#[]⟩) : cellOkB b s = true := by
  cases b with
  | true => simp [cellOkB, h]
  | false => rw [hb rfl]; simp [cellOkB, ByteArray.size]
theorem Chg.ok_of {p i : Nat} {b d : Bool} {x y : ByteArray} (hp : p < 64) (hi : i < 16) (h1 : cellOkB b x = true) (h2 : cellOkB d y = true) : Chg.ok ⟨p, i, b, x, d, y⟩ = true := by
  simp [Chg.ok, pagedB, h1, h2]; omega
theorem applyF_ok {p : Pg} {c : Chg} (h1 : c.ok = true) (h2 : c.page = p.id) (h3 : p.cell c.slot.toNat = (c.bb, c.bd)) : applyF p c = (⟨p.id, p.lsn, p.cells.set c.slot.toNat (c.ab, c.ad)⟩, 0) := by
  simp [applyF, h1, h2, h3, cellEqB_refl]
theorem joinF_is {a b : Chg} (h1 : a.ok = true) (h2 : b.ok = true) (h3 : a.page = b.page) (h4 : a.slot = b.slot) (h5 : (a.ab, a.ad) = (b.bb, b.bd)) : joinF a b = (⟨a.page, a.slot, a.bb, a.bd, b.ab, b.ad⟩, 0) := by
  simp [joinF, h1, h2, h3, h4, h5, cellEqB_refl]
theorem cell_set_same (id lsn : Int) (l : List (Bool × ByteArray)) (i : Nat) (x : Bool × ByteArray) (h : i < l.length) : Pg.cell ⟨id, lsn, l.set i x⟩ i = x := by
  simp [Pg.cell, h]
theorem set_back (l : List (Bool × ByteArray)) (i : Nat) (x y : Bool × ByteArray) (h : l[i]? = some x) : (l.set i y).set i x = l := by
  rw [List.set_set]
  obtain ⟨h1, h2⟩ := List.getElem?_eq_some_iff.1 h
  subst h2
  exact List.set_getElem_self h1
section
variable {lsn : Int} {l : List (Bool × ByteArray)} {i : Nat} {pb ab bb : Bool} {pd ad bd : ByteArray}
/-- All that ChangeBack needs, at once. -/
structure BackFacts (lsn : Int) (l : List (Bool × ByteArray)) (i : Nat) (pb ab bb : Bool) (pd ad bd : ByteArray) : Prop where
  e1 : applyF ⟨1, lsn, l⟩ ⟨1, i, pb, pd, ab, ad⟩ = (⟨1, lsn, l.set i (ab, ad)⟩, 0)
  e2 : applyF ⟨1, lsn, l.set i (ab, ad)⟩ ⟨1, i, ab, ad, bb, bd⟩ = (⟨1, lsn, l.set i (bb, bd)⟩, 0)
  e3 : applyF ⟨1, lsn, l.set i (ab, ad)⟩ ⟨1, i, ab, ad, pb, pd⟩ = (⟨1, lsn, l⟩, 0)
  e4 : joinF ⟨1, i, pb, pd, ab, ad⟩ ⟨1, i, ab, ad, bb, bd⟩ = (⟨1, i, pb, pd, bb, bd⟩, 0)
  e5 : applyF ⟨1, lsn, l⟩ ⟨1, i, pb, pd, bb, bd⟩ = (⟨1, lsn, l.set i (bb, bd)⟩, 0)
  e6 : joinF ⟨1, i, bb, bd, ab, ad⟩ ⟨1, i, ab, ad, pb, pd⟩ = (⟨1, i, bb, bd, pb, pd⟩, 0)
theorem backFacts (hl : l.length = 16) (hi : i < 16) (hp : l[i]? = some (pb, pd)) (h1 : cellOkB pb pd = true) (h2 : cellOkB ab ad = true) (h3 : cellOkB bb bd = true) : BackFacts lsn l i pb ab bb pd ad bd := by
  have hc : Pg.cell ⟨1, lsn, l⟩ i = (pb, pd) := by simp [Pg.cell, hp]
  have ok : ∀ (a b : Bool) (x y : ByteArray), cellOkB a x = true → cellOkB b y = true → Chg.ok ⟨1, (i : Int), a, x, b, y⟩ = true := fun a b x y ha hb => Chg.ok_of (p := 1) (by omega) hi ha hb
  refine ⟨?_, ?_, ?_, ?_, ?_, ?_⟩
  · rw [applyF_ok (ok _ _ _ _ h1 h2) rfl hc]; rfl
  · have hx : Pg.cell ⟨1, lsn, l.set i (ab, ad)⟩ i = (ab, ad) := cell_set_same _ _ _ _ _ (by omega)
    rw [applyF_ok (ok _ _ _ _ h2 h3) rfl hx]; simp
  · have hx : Pg.cell ⟨1, lsn, l.set i (ab, ad)⟩ i = (ab, ad) := cell_set_same _ _ _ _ _ (by omega)
    rw [applyF_ok (ok _ _ _ _ h2 h1) rfl hx]
    have := set_back l i (pb, pd) (ab, ad) hp
    simp only [Int.toNat_natCast, this]
  · rw [joinF_is (ok _ _ _ _ h1 h2) (ok _ _ _ _ h2 h3) rfl rfl rfl]
  · rw [applyF_ok (ok _ _ _ _ h1 h3) rfl hc]; rfl
  · rw [joinF_is (ok _ _ _ _ h3 h2) (ok _ _ _ _ h2 h1) rfl rfl rfl]
end
end Go.Proofs.Ytlbhoepfcedkdaa
