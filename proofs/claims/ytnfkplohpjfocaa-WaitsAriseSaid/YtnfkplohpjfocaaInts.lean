/-
  Slices of numbers; the library's sorting and compacting, as changes of a block of the call's own. No function of the program is named here.
-/
import Derived.Test.YtnfkplohpjfocaaOwnR
import Derived.Sort.Row
import Derived.Sort.Grow
set_option linter.unusedVariables false
set_option linter.unusedSimpArgs false
namespace Go.Proofs.Ytnfkplohpjfocaa
open Go.RowKit
def iV (n : Int) : Value := .int .i64 n
def iL (n : Int) : List Value := [.int .i64 n]
theorem iL_flat (ns : List Int) : (ns.map iL).flatten = ns.map iV := by
  induction ns with
  | nil => rfl
  | cons n ns ih => simp only [List.map_cons, List.flatten_cons, ih]; rfl
theorem iL_len (ns : List Int) : ∀ r ∈ ns.map iL, r.length = 1 := fun r hr => by obtain ⟨v, _, rfl⟩ := List.mem_map.1 hr; rfl
/-- A slice that reads as these numbers. -/
def IsAt (w : World) (v : Value) (ns : List Int) : Prop := SlAt w 1 v (ns.map iL)
theorem IsAt.ext {w w' : World} {v : Value} {ns : List Int} (h : IsAt w v ns) (k : Ext w w') : IsAt w' v ns := SlAt.ext h k
theorem IsAt.get {w0 : World} {v : Value} {ns : List Int} (h : IsAt w0 v ns) : ∃ ao cap, v = .slice ao ns.length cap ∧ ns.length ≤ cap ∧ cap ≤ 9223372036854775807 ∧ (0 < ns.length → ∃ g off, ao = some ⟨g, off, none⟩ ∧ ∀ (i : Nat) (x : Int), ns[i]? = some x → ∀ w, Ext w0 w → w.cell? ⟨g, off + i, none⟩ = some (.int .i64 x)) := by
  obtain ⟨ao, cap, h1, h2, h3, h4⟩ := SlAt.get h
  rw [List.length_map] at h1 h2 h4
  refine ⟨ao, cap, h1, h2, h3, fun hn => ?_⟩
  obtain ⟨g, off, h5, h6⟩ := h4 hn
  refine ⟨g, off, h5, fun i x hx w k => ?_⟩
  have := h6 i (iL x) (by simp [hx]) w k 0 _ rfl
  simpa using this
theorem IsAt.own {cc : Option Nat} {q : CodeRow} {w0 w : World} {L lr : List (Nat × TypeId × List Value)} {E : TypeId} {v : Value} {ns : List Int} (h : St cc q w0 w L) (hm : ∀ e ∈ lr, e ∈ L) (hr : OwnRow E 1 lr v ns.length (ns.map iV)) : IsAt w v ns :=
  OwnRow.at h hm (iL_len ns) (by rw [iL_flat, List.length_map]; exact hr)
section
variable {w : World} {g : Nat} {T : TypeId} {pre junk : List Value} {ns ms : List Int}
theorem holds_of (hB : PBox w g T (pre ++ (ns.map iV ++ junk))) : Go.Sort.Holds (Value.int .i64) w g pre.length ns.toArray := by
  intro j hj
  simp only [List.size_toArray] at hj
  refine ⟨hB.cell ?_, hB.free _⟩
  rw [List.getElem?_append_right (by omega), Nat.add_sub_cancel_left, List.getElem?_append_left (by simpa using hj)]
  simp [hj, iV]
theorem put_box (hB : PBox w g T (pre ++ (ns.map iV ++ junk))) (hl : ms.length = ns.length) : PBox (Go.Sort.putRow (Value.int .i64) w g pre.length ms.toArray) g T (pre ++ (ms.map iV ++ junk)) ∧ Only g w (Go.Sort.putRow (Value.int .i64) w g pre.length ms.toArray) := by
  constructor
  · unfold PBox at *
    unfold Go.Sort.putRow Go.Sort.mapBlock
    simp only [Array.getElem?_modify, hB, if_true, Option.map_some, Go.Sort.onCells]
    congr 2
    apply Array.ext_getElem?
    intro k
    unfold Go.Sort.putCells
    simp only [Array.getElem?_mapIdx, List.getElem?_toArray, List.size_toArray]
    by_cases h1 : k < pre.length
    · have h2 : ¬ (pre.length ≤ k ∧ k < pre.length + ms.length) := by omega
      simp [List.getElem?_append_left h1, h2]
    · by_cases h3 : k < pre.length + ms.length
      · have h2 : pre.length ≤ k ∧ k < pre.length + ms.length := by omega
        rw [List.getElem?_append_right (by omega), List.getElem?_append_right (l₁ := pre) (by omega), List.getElem?_append_left (by simp; omega), List.getElem?_append_left (l₁ := ms.map iV) (by simp; omega)]
        have h4 : k - pre.length < ns.length := by omega
        have h5 : k - pre.length < ms.length := by omega
        simp [h2, h4, h5, iV]
      · have h2 : ¬ (pre.length ≤ k ∧ k < pre.length + ms.length) := by omega
        rw [List.getElem?_append_right (by omega), List.getElem?_append_right (l₁ := pre) (by omega), List.getElem?_append_right (by simp; omega), List.getElem?_append_right (l₁ := ms.map iV) (by simp; omega)]
        rw [hl] at h2
        simp [h2, hl]
  · refine ⟨rfl, rfl, rfl, by simp, fun i hi hne => ?_⟩
    unfold Go.Sort.putRow Go.Sort.mapBlock
    have : ¬ (g = i) := fun e => hne (by rw [e])
    simp [Array.getElem?_modify, this]
theorem ahead_ext (n : Nat) : Ext w (Go.Sort.ahead w n) := ⟨rfl, rfl, rfl, Nat.le_refl _, fun _ _ => rfl⟩
theorem grow_ext (os : Array Obj) : Ext w (Go.Sort.grow w os) := ⟨rfl, rfl, rfl, by simp [Go.Sort.grow], fun i hi => by
  unfold Go.Sort.grow
  simp [Array.getElem?_append_left hi]⟩
end
/-- A call has changed one block of the call's own. -/
theorem St.chg {cc : Option Nat} {q : CodeRow} {w0 w w' : World} {front ll : List (Nat × TypeId × List Value)} {g : Nat} {T : TypeId} {cs cs' : List Value} (h : St cc q w0 w (front ++ ([(g, T, cs)] ++ ll))) (k : Only g w w') (hB : PBox w' g T cs') : St cc q w0 w' (front ++ ([(g, T, cs')] ++ ll)) := by
  have hat : (front ++ ([(g, T, cs)] ++ ll))[front.length]? = some (g, T, cs) := by simp
  have hset := h.set hat k hB
  have hse : (front ++ ([(g, T, cs)] ++ ll)).set front.length (g, T, cs') = front ++ ([(g, T, cs')] ++ ll) := by
    rw [List.set_append_right _ _ (Nat.le_refl _)]
    simp
  rw [hse] at hset
  exact hset
end Go.Proofs.Ytnfkplohpjfocaa
