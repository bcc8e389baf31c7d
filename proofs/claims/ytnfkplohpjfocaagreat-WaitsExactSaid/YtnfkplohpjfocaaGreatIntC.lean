/-
  The contracts of Index, Contains and Clone on numbers.
-/
import Derived.Test.YtnfkplohpjfocaaGreatWtW
set_option linter.unusedVariables false
set_option linter.unusedSimpArgs false
namespace Go.Proofs.YtnfkplohpjfocaaGreat
open Go.RowKit
def idxZ (ns : List Int) (x : Int) : Int := match ns.findIdx? (fun y => x == y) with | some i => (i : Int) | none => -1
set_option maxHeartbeats 2000000 in
set_option maxRecDepth 100000 in
theorem ints_index (w0 : World) (v : Value) (ns : List Int) (x : Int) (h : IsAt w0 v ns) : Calls Tryz.prog 54 #[v, .int .i64 x] w0 fun e w' => e = .returned (.int .i64 (idxZ ns x)) ∧ w' = w0 := by
  obtain ⟨ao, cap, rfl, hc1, hc2, hat⟩ := h.get
  obtain ⟨n, hn⟩ : ∃ n, n = ns.length := ⟨_, rfl⟩
  rw [← hn] at hc1 hat ⊢
  have HN := Lib.hid hn
  have HAT := Lib.hid hat
  clear hn hat h
  go_enter Tryz.func54, Tryz.ntmps54
  go_wp2_with fail
  go_loopw [8] (fun s wr => ∃ i : Nat, i ≤ n ∧ s = .int .i64 i ∧ Hid (∀ (j : Nat) (y : Int), j < i → ns[j]? = some y → (x == y) = false) ∧ wr = w0) (fun s _ => n - (intOf s).toNat)
  case atStart => exact ⟨0, Nat.zero_le _, rfl, (fun j x h => absurd h (Nat.not_lt_zero _)), rfl⟩
  case round =>
    obtain ⟨i, hi, rfl, HI, rfl⟩ := hrel
    by_cases hlt : i < n
    · obtain ⟨y, hy⟩ := list_get_of_lt ns i n HN.out.symm hlt
      obtain ⟨g, off, rfl, hcell⟩ := HAT.out (by omega)
      have hc := hcell i y hy wr (Ext.refl _)
      have HY := Lib.hid hy
      clear hcell hy
      by_cases hxy : x = y
      · subst hxy
        go_wp2
        go_ret
        refine ⟨ret_int ?_, rfl⟩
        unfold idxZ
        have e : ns.findIdx? (fun y => x == y) = some i := by
          rw [List.findIdx?_eq_some_iff_getElem]
          obtain ⟨h1, h2⟩ := List.getElem?_eq_some_iff.1 HY.out
          refine ⟨h1, by rw [h2]; simp, fun j hj => ?_⟩
          have := HI.out j ns[j] hj (List.getElem?_eq_getElem _)
          simpa using this
        rw [e]
      · go_wp2
        go_roundw
        case rel => exact ⟨i + 1, by omega, by go_num, (fun j z hj hz => by
          by_cases e : j = i
          · subst e; have := HY.out.symm.trans hz; cases this; simpa using hxy
          · exact HI.out j z (by omega) hz), trivial⟩
        case measure => simp [intOf]; omega
    · have hin : i = n := by omega
      subst hin
      go_wp2_with fail
      go_ret
      refine ⟨ret_int ?_, rfl⟩
      unfold idxZ
      have e : ns.findIdx? (fun y => x == y) = none := by
        rw [List.findIdx?_eq_none_iff]
        intro y hy
        obtain ⟨j, hj, rfl⟩ := List.getElem_of_mem hy
        exact HI.out j _ (by rw [HN.out]; exact hj) (List.getElem?_eq_getElem hj)
      rw [e]
theorem idxZ_neg (ns : List Int) (x : Int) : decide (0 ≤ idxZ ns x) = ns.contains x := by
  unfold idxZ
  cases h : ns.findIdx? (fun y => x == y) with
  | none =>
    rw [List.findIdx?_eq_none_iff] at h
    have : x ∉ ns := fun hm => by simpa using h x hm
    simp [this]
  | some i =>
    rw [List.findIdx?_eq_some_iff_getElem] at h
    obtain ⟨h1, h2, _⟩ := h
    have e : x = ns[i] := by simpa using h2
    have : x ∈ ns := by rw [e]; exact List.getElem_mem h1
    simp [this]
theorem ints_contains (w0 : World) (v : Value) (ns : List Int) (x : Int) (h : IsAt w0 v ns) : Calls Tryz.prog 30 #[v, .int .i64 x] w0 fun e w' => e = .returned (.bool (ns.contains x)) ∧ w' = w0 := by
  have H := Lib.hid (ints_index w0 v ns x h)
  have HD := Lib.hid (idxZ_neg ns x)
  clear h
  go_enter Tryz.func30, Tryz.ntmps30
  go_wp2_with fail
  refine H.out.mono ?_
  rintro e w ⟨rfl, rfl⟩
  go_wp2_with fail
  go_ret
  exact ⟨ret_bool HD.out, rfl⟩
section
variable {P : Program} {ops : Array Oper} {Q : Exit → Act → World → Prop} {a : Act} {w : World} {cc : Option Nat} {q : CodeRow} {w0 : World} {l L : List (Nat × TypeId × List Value)} {fuel : Nat} {listed : Array Bool} {o : Oper}
/-- A call that gives back blocks of its own. -/
theorem hg_callR (i : Nat) (d : Option Tmp) (hd0 : (ops[i]?).bind (·.dst) = d) (hi : ops[i]? = some o) (hw : Region.wanted o (yielded ops a.tmps) = true) (_HS : Hid (St cc q w0 w L)) (hk : l.Sublist L) (f : FuncId) (xs : List Operand) (ts : Array TypeId)
    (ho : o.op = .call { callee := .value (.func f), args := xs.toArray, argTypes := ts }) {fn : Func} (hf : P.funcs[f]? = some fn) (hname : (fn.name == "runtime.NumGoroutine") = false) {c : Code} (hb : fn.body = some c)
    (al : List Value) (R : Value → List (Nat × TypeId × List Value) → Prop) (hc : Calls P f al.toArray w (fun e w' => ∃ v lr, e = .returned v ∧ R v lr ∧ St cc q w0 w' (lr ++ L))) (hargs : xs.map a.eval = al)
    (h : ∀ v w' lr, R v lr → Hid (St cc q w0 w' (lr ++ L)) → wpAnyH P .any ops Q (InSt cc q w0 l) fuel (listed.setIfInBounds i true) (a.put d v) w') : HkX P ops Q (InSt cc q w0 l) fuel listed a w i := by
  have hd : o.dst = d := by rw [hi] at hd0; exact hd0
  refine ⟨o, hi, hw, ?_⟩
  unfold Oper.wp execOp
  have hrun : (callFunc f al.toArray).run P w = .ok (.enter f al.toArray) w := by
    have h1 : fn.name ≠ "runtime.NumGoroutine" := by simpa using hname
    simp [callFunc, hf, h1, hb]
  have hfv : a.eval (.func f) = .func (.func f) #[] #[] := rfl
  have hm : xs.toArray.map a.eval = al.toArray := by rw [List.map_toArray, hargs]
  simp only [ho, resolve, Deferred.ofValue, invoke, hfv, hm, Sem.run_bind, Sem.run_pure, Result.andThen_ok, Array.empty_append, Array.append_empty, hrun, Oper.upon]
  refine hc.mono fun e w' he => ?_
  obtain ⟨v, lr, rfl, hv, hx⟩ := he
  rw [hd]
  exact ⟨St.sub hx (hk.trans (List.sublist_append_right _ _)), h v w' lr hv hx⟩
end
/-- A call has given back a row of its own. -/
def RowPost (ns : List Int) (w0 : World) (e : Ending) (w' : World) : Prop := ∃ (v : Value) (lr : List (Nat × TypeId × List Value)), e = .returned v ∧ St none default w0 w' lr ∧ OwnRow 3 1 lr v ns.length (ns.map iV)
theorem OwnRow.owns {E : TypeId} {w0 w : World} {v : Value} {n : Nat} {xs : List Value} (h : w.ownsRow w0.heap.size E 1 v n xs) (k : Ext w0 w) : ∃ lr, St none default w0 w lr ∧ OwnRow E 1 lr v n xs := by
  obtain ⟨h1, ⟨rfl, rfl⟩ | ⟨g, cap, cur, rfl, hg, hh, hnc, hcm, hsz, ht⟩⟩ := h
  · exact ⟨[], (St.start w0).ext k, h1, .inl ⟨rfl, ⟨_, rfl⟩, rfl⟩⟩
  · have hs := (St.start w0).ext k
    refine ⟨[(g, E, [] ++ (xs ++ cur.toList.drop n))], ⟨hs.fr, hs.codes, Bx_iff.2 ⟨fun x hx => ?_, by simp⟩, hs.maps⟩, h1, .inr ⟨g, cap, [], cur.toList.drop n, rfl, rfl, hnc, hcm, ?_⟩⟩
    · simp only [List.mem_singleton] at hx
      subst hx
      refine ⟨hg, ?_⟩
      have e : xs ++ cur.toList.drop n = cur.toList := by rw [← ht, Nat.mul_one]; exact List.take_append_drop _ _
      show w.heap[g]? = some (.cells ([] ++ (xs ++ cur.toList.drop n)).toArray E (0, 0))
      rw [List.nil_append, e, Array.toArray_toList]
      exact hh
    · rw [List.length_drop, Array.length_toList, hsz]; omega
theorem ints_clone (w0 : World) (v : Value) (ns : List Int) (h : IsAt w0 v ns) (hn : 0 < ns.length) (hb : ns.length ≤ 4000000) : Calls Tryz.prog 31 #[v] w0 (RowPost ns w0) := by
  obtain ⟨ao, cap, rfl, hc1, hc2, hat⟩ := h.get
  obtain ⟨g, off, rfl, hcell⟩ := hat hn
  refine (Tryz.slices_Clone_int g off ns.length cap ns w0 (Nat.le_refl _) (by omega) (fun j hj => ?_)).mono ?_
  · have := hcell j ns[j] (List.getElem?_eq_getElem hj) w0 (Ext.refl _)
    rw [this, List.getD_eq_getElem?_getD, List.getElem?_eq_getElem hj]
    rfl
  · rintro e w ⟨v', rfl, hown, _, hx⟩
    rw [List.take_length] at hown
    obtain ⟨lr, h1, h2⟩ := OwnRow.owns hown hx
    exact ⟨v', lr, rfl, h1, h2⟩
/-- All but the first of a row of the call's own. -/
theorem OwnRow.tail {E : TypeId} {lr : List (Nat × TypeId × List Value)} {ao : Option Addr} {n cap : Nat} {x : Value} {xs : List Value} (h : OwnRow E 1 lr (.slice ao (n + 1) cap) (n + 1) (x :: xs)) : ∃ lr', lr'.Sublist lr ∧ OwnRow E 1 lr' (sliced ao 1 (n + 1) cap 1) n xs := by
  obtain ⟨h1, ⟨_, _, h0⟩ | ⟨g, cap2, pre, junk, hlr, hv, hnc, hcm, hj⟩⟩ := h
  · omega
  · cases hv
    have hl : xs.length = n * 1 := by simp at h1; omega
    by_cases hc : cap = 1
    · subst hc
      have hn0 : n = 0 := by omega
      subst hn0
      exact ⟨[], List.nil_sublist _, hl, .inl ⟨rfl, ⟨some ⟨g, pre.length, none⟩, by simp [sliced]⟩, rfl⟩⟩
    · refine ⟨lr, List.Sublist.refl _, hl, .inr ⟨g, cap - 1, pre ++ [x], junk, by rw [hlr]; simp, ?_, by omega, by omega, by omega⟩⟩
      simp [sliced, hc, Addr.add]
/-- The values of a queue, the paths that they are, and the blocks where they lie. -/
def Link (L : List (Nat × TypeId × List Value)) (vs : List Value) (ps : List (List Int)) : Prop :=
  vs.length = ps.length ∧ ∀ (i : Nat) (v : Value) (p : List Int), vs[i]? = some v → ps[i]? = some p → ∃ lr, OwnRow 3 1 lr v p.length (p.map iV) ∧ ∀ e ∈ lr, e ∈ L
theorem Link.mono {L L' : List (Nat × TypeId × List Value)} {vs : List Value} {ps : List (List Int)} (h : Link L vs ps) (hs : ∀ e ∈ L, e ∈ L') : Link L' vs ps :=
  ⟨h.1, fun i v p hv hp => by obtain ⟨lr, h1, h2⟩ := h.2 i v p hv hp; exact ⟨lr, h1, fun e he => hs e (h2 e he)⟩⟩
theorem Link.tail {L : List (Nat × TypeId × List Value)} {v : Value} {vs : List Value} {p : List Int} {ps : List (List Int)} (h : Link L (v :: vs) (p :: ps)) : Link L vs ps :=
  ⟨by have := h.1; simp at this; omega, fun i u q hv hp => h.2 (i + 1) u q (by simpa using hv) (by simpa using hp)⟩
theorem Link.head {L : List (Nat × TypeId × List Value)} {v : Value} {vs : List Value} {p : List Int} {ps : List (List Int)} (h : Link L (v :: vs) (p :: ps)) : ∃ lr, OwnRow 3 1 lr v p.length (p.map iV) ∧ ∀ e ∈ lr, e ∈ L := h.2 0 v p rfl rfl
theorem Link.push {L lr : List (Nat × TypeId × List Value)} {v : Value} {vs : List Value} {p : List Int} {ps : List (List Int)} (h : Link L vs ps) (hr : OwnRow 3 1 lr v p.length (p.map iV)) : Link (lr ++ L) (vs ++ [v]) (ps ++ [p]) := by
  refine ⟨by simp [h.1], fun i u q hv hp => ?_⟩
  by_cases hi : i < vs.length
  · rw [List.getElem?_append_left hi] at hv
    rw [List.getElem?_append_left (by rw [← h.1]; exact hi)] at hp
    obtain ⟨lr, h1, h2⟩ := h.2 i u q hv hp
    exact ⟨lr, h1, fun e he => List.mem_append_right _ (h2 e he)⟩
  · rw [List.getElem?_append_right (by omega)] at hv
    rw [List.getElem?_append_right (by rw [← h.1]; omega), ← h.1] at hp
    cases hj : i - vs.length with
    | zero =>
      rw [hj] at hv hp
      simp at hv hp
      subst hv hp
      exact ⟨lr, hr, fun e he => List.mem_append_left _ he⟩
    | succ j => rw [hj] at hv; simp at hv
theorem St.noMaps {q : CodeRow} {w0 w : World} {l : List (Nat × TypeId × List Value)} (h : St none q w0 w l) : St none default w0 w l := ⟨h.fr, (fun c e => by cases e), h.own, fun _ x hx => by cases hx⟩
end Go.Proofs.YtnfkplohpjfocaaGreat
