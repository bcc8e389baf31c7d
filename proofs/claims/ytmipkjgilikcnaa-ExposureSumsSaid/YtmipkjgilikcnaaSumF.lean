/-
  Exposure, plain: reasons, replies, and how many reasons of each kind there are.
-/
import Derived.Test.YtmipkjgilikcnaaApp
import Derived.Test.YtmipkjgilikcnaaPage
import Derived.Test.YtmipkjgilikcnaaTab
namespace Go.Proofs.Ytmipkjgilikcnaa
open Go.RowKit
/-- A reason: its kind and its subject. -/
abbrev Rsn := Int × Int
def rL (r : Rsn) : List Value := [.int .i64 r.1, .int .i64 r.2]
/-- A reply with these reasons and nothing else. -/
def repL (v : Value) : List Value := [.int .i64 0, .int .i64 0, .int .i64 0, .bool false, .string ⟨#[]⟩, .int .i64 0, v]
def kindOf (r : Rsn) : Nat := if 0 ≤ r.1 ∧ r.1 < 7 then r.1.toNat else 0
theorem kindOf_lt (r : Rsn) : kindOf r < 7 := by unfold kindOf; split <;> omega
def cntN (xs : List Rsn) (k : Nat) : Nat := xs.countP fun r => kindOf r == k
def cntV (xs : List Rsn) : List Value := (List.range 7).map fun k => Value.int .i64 (cntN xs k : Int)
theorem cntN_le (xs : List Rsn) (k : Nat) : cntN xs k ≤ xs.length := List.countP_le_length
theorem cntN_append (xs ys : List Rsn) (k : Nat) : cntN (xs ++ ys) k = cntN xs k + cntN ys k := List.countP_append
theorem cntN_one (r : Rsn) (k : Nat) : cntN [r] k = if kindOf r = k then 1 else 0 := by
  unfold cntN
  by_cases h : kindOf r = k <;> simp [h]
theorem cntV_len (xs : List Rsn) : (cntV xs).length = 7 := by simp [cntV]
theorem cntV_get (xs : List Rsn) {k : Nat} (h : k < 7) : (cntV xs)[k]? = some (.int .i64 (cntN xs k : Int)) := by simp [cntV, h]
theorem cntV_one (xs : List Rsn) : (cntV xs).all (·.oneCell') = true := by
  rw [List.all_eq_true]
  intro v hv
  obtain ⟨k, _, rfl⟩ := List.mem_map.1 hv
  rfl
theorem cntV_bump (xs : List Rsn) (r : Rsn) : (cntV xs).set (kindOf r) (.int .i64 ((cntN xs (kindOf r) : Int) + 1)) = cntV (xs ++ [r]) := by
  apply List.ext_getElem?
  intro k
  by_cases hk : k < 7
  · rw [cntV_get _ hk, cntN_append, cntN_one]
    by_cases h : kindOf r = k
    · subst h
      rw [List.getElem?_set_self (by rw [cntV_len]; exact hk)]
      simp
    · rw [List.getElem?_set_ne h, cntV_get _ hk]
      simp [h]
  · rw [List.getElem?_eq_none (by rw [List.length_set, cntV_len]; omega), List.getElem?_eq_none (by rw [cntV_len]; omega)]
theorem take_flat {rss : List (List Rsn)} {i : Nat} {rs : List Rsn} (h : rss[i]? = some rs) : (rss.take (i + 1)).flatten = (rss.take i).flatten ++ rs := by
  obtain ⟨hi, rfl⟩ := List.getElem?_eq_some_iff.1 h
  rw [List.take_succ_eq_append_getElem hi, List.flatten_append]
  simp
theorem take_one {rs : List Rsn} {j : Nat} {r : Rsn} (h : rs[j]? = some r) : rs.take (j + 1) = rs.take j ++ [r] := by
  obtain ⟨hj, rfl⟩ := List.getElem?_eq_some_iff.1 h
  rw [List.take_succ_eq_append_getElem hj]
theorem flat_take_le (rss : List (List Rsn)) (i : Nat) : (rss.take i).flatten.length ≤ rss.flatten.length := by
  have : rss.flatten = (rss.take i).flatten ++ (rss.drop i).flatten := by rw [← List.flatten_append, List.take_append_drop]
  rw [this, List.length_append]
  omega
theorem flat_take_add {rss : List (List Rsn)} {i : Nat} {rs : List Rsn} (h : rss[i]? = some rs) (j : Nat) : ((rss.take i).flatten ++ rs.take j).length ≤ rss.flatten.length := by
  have h1 := flat_take_le rss (i + 1)
  rw [take_flat h, List.length_append] at h1
  have h2 : (rs.take j).length ≤ rs.length := by rw [List.length_take]; omega
  rw [List.length_append]
  omega
/-- Every reason is of one kind. -/
theorem cnt_all (xs : List Rsn) : cntN xs 0 + cntN xs 1 + cntN xs 2 + cntN xs 3 + cntN xs 4 + cntN xs 5 + cntN xs 6 = xs.length := by
  induction xs with
  | nil => rfl
  | cons r xs ih =>
    have e : ∀ k, cntN (r :: xs) k = (if kindOf r = k then 1 else 0) + cntN xs k := fun k => by
      have := cntN_append [r] xs k
      rw [cntN_one] at this
      exact this
    have h7 := kindOf_lt r
    rw [e, e, e, e, e, e, e, List.length_cons]
    have : kindOf r = 0 ∨ kindOf r = 1 ∨ kindOf r = 2 ∨ kindOf r = 3 ∨ kindOf r = 4 ∨ kindOf r = 5 ∨ kindOf r = 6 := by omega
    rcases this with h | h | h | h | h | h | h <;> simp [h] <;> omega
theorem cntV_perm {a b : List (List Rsn)} (h : a.Perm b) : cntV a.flatten = cntV b.flatten := by
  unfold cntV
  congr 1
  funext k
  have : cntN a.flatten k = cntN b.flatten k := (h.flatten).countP_eq _
  rw [this]
theorem info_of (T size : Nat) (cs : List Value) (h1 : (Try.prog.info? T).bind (·.zero) = some (.agg cs.toArray)) (h2 : (Try.prog.info? T).map (fun i => (i.size, Nat.ble i.bytes 1000000)) = some (size, true)) :
    ∃ ie, Try.prog.info? T = some ie ∧ ie.zero = some (.agg cs.toArray) ∧ ie.size = size ∧ ie.bytes ≤ 1000000 := by
  cases hie : Try.prog.info? T with
  | none => rw [hie] at h1; cases h1
  | some ie =>
    rw [hie] at h1 h2
    simp at h2
    exact ⟨ie, rfl, h1, h2.1, h2.2⟩
end Go.Proofs.Ytmipkjgilikcnaa
