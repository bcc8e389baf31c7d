/-
  'Same' of two rows that hold the same changes.
-/
import Derived.Test.YtlbhoepfcedkdaaDiffR
namespace Go.Proofs.Ytlbhoepfcedkdaa
open Go.RowKit
/-- A slice of these changes. -/
def RowVal (w : World) (v : Value) (xs : List Chg) : Prop := ∃ ao cap, v = .slice ao xs.length cap ∧ xs.length ≤ cap ∧ cap ≤ maxLen ∧ (xs ≠ [] → ∃ g, ao = some ⟨g, 0, none⟩ ∧ RowAt w g 0 xs)
theorem RowVal.of {cc : Option Nat} {q : CodeRow} {w0 w : World} {front lr l : List (Nat × TypeId × List Value)} {v : Value} {xs : List Chg} {E : TypeId} (h : St cc q w0 w (front ++ (lr ++ l))) (hr : RowEnt E 6 lr v xs.length (flat xs)) : RowVal w v xs := by
  rcases hr.2 with ⟨_, rfl, h3⟩ | ⟨g, cap, junk, rfl, rfl, h1, h2, _⟩
  · have : xs = [] := List.eq_nil_of_length_eq_zero h3
    subst this
    exact ⟨none, 0, rfl, Nat.le_refl _, Nat.zero_le _, fun h => absurd rfl h⟩
  · exact ⟨_, cap, rfl, h1, h2, fun _ => ⟨g, rfl, rowAt_of ((Bx_iff.1 h.own).1 (g, E, flat xs ++ junk) (by simp)).2⟩⟩
set_option maxHeartbeats 2000000 in
set_option maxRecDepth 100000 in
theorem same_any (w0 : World) (v v2 : Value) (xs : List Chg) (h : RowVal w0 v xs) (h2 : RowVal w0 v2 xs) :
    Calls Try.prog 28 #[v, v2] w0 fun e w' => e = .returned (.bool true) ∧ Ext w0 w' := by
  obtain ⟨ao, cap, rfl, hl, hm, h⟩ := h
  obtain ⟨ao2, cap2, rfl, hl2, hm2, h2⟩ := h2
  have H := Lib.hid h
  have H2 := Lib.hid h2
  obtain ⟨n, hn⟩ : ∃ n, n = xs.length := ⟨_, rfl⟩
  rw [← hn] at hl hl2 ⊢
  have hn63 : n ≤ 9223372036854775807 := by unfold maxLen at hm; omega
  have HN := Lib.hid hn
  clear h h2 hm hm2 hn
  have HS : Hid (St none default w0 w0 []) := St.start w0
  go_enter Try.func28, Try.ntmps28
  go_wp2_with fail
  go_loopw [5] (fun i wr => ∃ k : Nat, k ≤ n ∧ i = .int .i64 k ∧ Hid (St none default w0 wr [])) (fun i _ => n - (intOf i).toNat)
  case atStart => exact ⟨0, Nat.zero_le _, rfl, HS⟩
  case round =>
    obtain ⟨k, hk, rfl, HS2⟩ := hrel
    clear HS
    have HS := HS2
    clear HS2
    by_cases hlt : k < n
    · obtain ⟨c, hc⟩ : ∃ c, xs[k]? = some c := ⟨xs[k]'(by have := HN.out; omega), List.getElem?_eq_getElem _⟩
      have hne : xs ≠ [] := fun e => by subst e; simp at hc
      obtain ⟨g, rfl, hr⟩ := H.out hne
      obtain ⟨g2, rfl, hr2⟩ := H2.out hne
      replace hr := hr.ext HS.out.isExt
      replace hr2 := hr2.ext HS.out.isExt
      have p0 : wr.cell? ⟨g, k * 6, none⟩ = some (Value.int .i64 c.page) := by have h := hr k c hc 0 (Value.int .i64 c.page) rfl; simpa only [Nat.zero_add, Nat.add_zero] using h
      have p1 : wr.cell? ⟨g, k * 6 + 1, none⟩ = some (Value.int .i64 c.slot) := by have h := hr k c hc 1 (Value.int .i64 c.slot) rfl; simpa only [Nat.zero_add, Nat.add_zero] using h
      have p2 : wr.cell? ⟨g, k * 6 + 2, none⟩ = some (Value.bool c.bb) := by have h := hr k c hc 2 (Value.bool c.bb) rfl; simpa only [Nat.zero_add, Nat.add_zero] using h
      have p3 : wr.cell? ⟨g, k * 6 + 3, none⟩ = some (Value.string c.bd) := by have h := hr k c hc 3 (Value.string c.bd) rfl; simpa only [Nat.zero_add, Nat.add_zero] using h
      have p4 : wr.cell? ⟨g, k * 6 + 4, none⟩ = some (Value.bool c.ab) := by have h := hr k c hc 4 (Value.bool c.ab) rfl; simpa only [Nat.zero_add, Nat.add_zero] using h
      have p5 : wr.cell? ⟨g, k * 6 + 5, none⟩ = some (Value.string c.ad) := by have h := hr k c hc 5 (Value.string c.ad) rfl; simpa only [Nat.zero_add, Nat.add_zero] using h
      have q0 : wr.cell? ⟨g2, k * 6, none⟩ = some (Value.int .i64 c.page) := by have h := hr2 k c hc 0 (Value.int .i64 c.page) rfl; simpa only [Nat.zero_add, Nat.add_zero] using h
      have q1 : wr.cell? ⟨g2, k * 6 + 1, none⟩ = some (Value.int .i64 c.slot) := by have h := hr2 k c hc 1 (Value.int .i64 c.slot) rfl; simpa only [Nat.zero_add, Nat.add_zero] using h
      have q2 : wr.cell? ⟨g2, k * 6 + 2, none⟩ = some (Value.bool c.bb) := by have h := hr2 k c hc 2 (Value.bool c.bb) rfl; simpa only [Nat.zero_add, Nat.add_zero] using h
      have q3 : wr.cell? ⟨g2, k * 6 + 3, none⟩ = some (Value.string c.bd) := by have h := hr2 k c hc 3 (Value.string c.bd) rfl; simpa only [Nat.zero_add, Nat.add_zero] using h
      have q4 : wr.cell? ⟨g2, k * 6 + 4, none⟩ = some (Value.bool c.ab) := by have h := hr2 k c hc 4 (Value.bool c.ab) rfl; simpa only [Nat.zero_add, Nat.add_zero] using h
      have q5 : wr.cell? ⟨g2, k * 6 + 5, none⟩ = some (Value.string c.ad) := by have h := hr2 k c hc 5 (Value.string c.ad) rfl; simpa only [Nat.zero_add, Nat.add_zero] using h
      clear hr hr2 hne H H2 hc
      have hq : ∀ w, (binOp .neq 29 (.agg #[.int .i64 c.page, .int .i64 c.slot, .bool c.bb, .string c.bd, .bool c.ab, .string c.ad]) (.agg #[.int .i64 c.page, .int .i64 c.slot, .bool c.bb, .string c.bd, .bool c.ab, .string c.ad])).run Try.prog w = .ok (.bool false) w := fun w => neq_chg c w
      go_wp2_with fail
      go_quiet (fail)
      replace HS := Lib.hid (HS.out.drewN nq)
      clear p0 p1 p2 p3 p4 p5 q0 q1 q2 q3 q4 q5 hq
      go_wp2_with fail
      go_roundw
      case rel => exact ⟨k + 1, by omega, by go_num, HS⟩
      case measure => simp [intOf]; omega
    · go_wp2_with fail
      go_ret
      exact ⟨rfl, HS.out.isExt⟩
end Go.Proofs.Ytlbhoepfcedkdaa
