/-
  The contracts of find and mode of the table of locks; the closures that ask for a transaction; plain facts on sorted grants.
-/
import Derived.Test.YtnfkplohpjfocaaLkC
set_option linter.unusedVariables false
set_option linter.unusedSimpArgs false
namespace Go.Proofs.Ytnfkplohpjfocaa
open Go.RowKit
theorem ltG_irrefl (a : G) : ¬ ltG a a := by unfold ltG; omega
theorem sorted_get {gs : List G} (h : sortedG gs) {i j : Nat} {x y : G} (hij : i < j) (hx : gs[i]? = some x) (hy : gs[j]? = some y) : ltG x y := by
  obtain ⟨h1, rfl⟩ := List.getElem?_eq_some_iff.1 hx
  obtain ⟨h2, rfl⟩ := List.getElem?_eq_some_iff.1 hy
  exact List.pairwise_iff_getElem.1 h i j h1 h2 hij
/-- The same transaction and lock. -/
def sameKey (t : G) (g : G) : Bool := (g.tx == t.tx) && sameLock g t
theorem sameKey_iff {t g : G} : sameKey t g = true ↔ ordI g t = 0 := by
  rw [ordI_zero]
  unfold sameKey sameLock
  simp only [Bool.and_eq_true, beq_iff_eq]
  constructor
  · rintro ⟨h1, h2, h3⟩; exact ⟨h2, h3, h1⟩
  · rintro ⟨h1, h2, h3⟩; exact ⟨h3, h1, h2⟩
/-- In which mode a transaction holds a lock. -/
def modeF (gs : List G) (t : G) : Int := match gs.find? (sameKey t) with | some g => g.mode | none => 0
/-- What a binary search in sorted grants finds. -/
structure Found (gs : List G) (t : G) (i : Nat) : Prop where
  le : i ≤ gs.length
  before : ∀ (j : Nat) (x : G), j < i → gs[j]? = some x → ltG x t
  behind : ∀ (j : Nat) (x : G), i ≤ j → gs[j]? = some x → ¬ ltG x t
theorem found_of {gs : List G} {t : G} {i : Nat} (hs : sortedG gs) (h0 : i ≤ gs.length) (h1 : ∀ x, 0 < i → gs[i - 1]? = some x → ordI x t < 0) (h2 : ∀ x, gs[i]? = some x → 0 ≤ ordI x t) : Found gs t i := by
  refine ⟨h0, fun j x hj hx => ?_, fun j x hj hx hlt => ?_⟩
  · obtain ⟨y, hy⟩ := list_get_of_lt gs (i - 1) gs.length rfl (by omega)
    have h3 := ordI_lt.1 (h1 y (by omega) hy)
    by_cases e : j = i - 1
    · subst e
      have := hy.symm.trans hx
      cases this
      exact h3
    · exact ltG_trans (sorted_get hs (by omega) hx hy) h3
  · have hjl := (List.getElem?_eq_some_iff.1 hx).1
    obtain ⟨y, hy⟩ := list_get_of_lt gs i gs.length rfl (by omega)
    have h3 := h2 y hy
    have h4 : ¬ ltG y t := fun h => by have := ordI_lt.2 h; omega
    by_cases e : j = i
    · subst e
      have := hy.symm.trans hx
      cases this
      exact h4 hlt
    · exact h4 (ltG_trans (sorted_get hs (by omega) hy hx) hlt)
theorem sameKey_not_lt {t g : G} (h : sameKey t g = true) : ¬ ltG g t ∧ ¬ ltG t g := by
  have := ordI_zero.1 (sameKey_iff.1 h)
  unfold ltG
  omega
theorem find_hit {gs : List G} {t x : G} {i : Nat} (hs : sortedG gs) (hx : gs[i]? = some x) (h : ordI x t = 0) : gs.find? (sameKey t) = some x := by
  have hk := sameKey_iff.2 h
  rw [List.find?_eq_some_iff_append]
  obtain ⟨h1, rfl⟩ := List.getElem?_eq_some_iff.1 hx
  refine ⟨hk, gs.take i, gs.drop (i + 1), ?_, fun y hy => ?_⟩
  · rw [List.append_cons, ← List.take_succ_eq_append_getElem h1, List.take_append_drop]
  · obtain ⟨j, hj⟩ := List.mem_iff_getElem?.1 hy
    rw [List.getElem?_take] at hj
    by_cases hlt : j < i
    · rw [if_pos hlt] at hj
      have h2 := sorted_get hs hlt hj hx
      cases hc : sameKey t y with
      | false => rfl
      | true =>
        exfalso
        have a1 := ordI_zero.1 (sameKey_iff.1 hc)
        have a2 := ordI_zero.1 h
        unfold ltG at h2
        omega
    · rw [if_neg hlt] at hj; cases hj
theorem find_miss {gs : List G} {t : G} {i : Nat} (hs : sortedG gs) (hf : Found gs t i) (h : ∀ x, gs[i]? = some x → ordI x t ≠ 0) : gs.find? (sameKey t) = none := by
  rw [List.find?_eq_none]
  intro y hy hc
  obtain ⟨j, hj⟩ := List.mem_iff_getElem?.1 hy
  have hk := sameKey_not_lt hc
  have hz := sameKey_iff.1 hc
  by_cases h1 : j < i
  · exact hk.1 (hf.before j y h1 hj)
  · by_cases h2 : j = i
    · subst h2
      exact h y hj hz
    · have hjl := (List.getElem?_eq_some_iff.1 hj).1
      obtain ⟨x, hx⟩ := list_get_of_lt gs i gs.length rfl (by omega)
      have h3 := sorted_get hs (show i < j by omega) hx hj
      have h4 := hf.behind i x (Nat.le_refl _) hx
      have h5 := ordI_zero.1 hz
      have h6 := h x hx
      apply h6
      rw [ordI_zero]
      unfold ltG at h3 h4
      omega
theorem modeF_hit {gs : List G} {t x : G} {i : Nat} (hs : sortedG gs) (hx : gs[i]? = some x) (h : ordI x t = 0) : modeF gs t = x.mode := by unfold modeF; rw [find_hit hs hx h]
theorem modeF_miss {gs : List G} {t : G} {i : Nat} (hs : sortedG gs) (hf : Found gs t i) (h : ∀ x, gs[i]? = some x → ordI x t ≠ 0) : modeF gs t = 0 := by unfold modeF; rw [find_miss hs hf h]
theorem modeF_key (gs : List G) (a b : G) (h1 : a.tx = b.tx) (h2 : a.page = b.page) (h3 : a.slot = b.slot) : modeF gs a = modeF gs b := by
  have : sameKey a = sameKey b := by funext g; unfold sameKey sameLock; rw [h1, h2, h3]
  unfold modeF
  rw [this]
/-- The first k of a slice. -/
theorem GsAt.take {w : World} {ao : Option Addr} {n cap k : Nat} {gs : List G} (h : GsAt w (.slice ao n cap) gs) (hk : k ≤ n) : GsAt w (sliced ao 0 k cap 4) (gs.take k) := by
  obtain ⟨ao', cap', h1, h2, h3, h4⟩ := h
  simp only [Value.slice.injEq] at h1
  obtain ⟨rfl, h1, rfl⟩ := h1
  rw [List.length_map] at h1 h2
  have hl : ((gs.take k).map G.lst).length = k := by rw [List.length_map, List.length_take]; omega
  have hsl : sliced ao 0 k cap 4 = .slice ao k cap := by
    unfold sliced
    cases ao with
    | none => split <;> simp
    | some a =>
      obtain ⟨b, o, s⟩ := a
      split
      · simp
      · simp [Addr.add]
  refine ⟨ao, cap, by rw [hl, hsl], by omega, h3, fun hne => ?_⟩
  obtain ⟨g, off, h5, h6⟩ := h4 (fun e => hne (by rw [List.map_take, e]; simp))
  refine ⟨g, off, h5, fun i r hi => h6 i r ?_⟩
  rw [List.map_take, List.getElem?_take] at hi
  by_cases hlt : i < k
  · rw [if_pos hlt] at hi; exact hi
  · rw [if_neg hlt] at hi; cases hi
section
variable {P : Program} {ops : Array Oper} {Q : Exit → Act → World → Prop} {a : Act} {w : World} {cc : Option Nat} {q : CodeRow} {w0 : World} {l : List (Nat × TypeId × List Value)} {o : Oper} {rest : List Oper}
/-- A variable of one cell. -/
theorem sx_box1 (HS : Hid (St cc q w0 w l)) (hw : Region.wanted o (yielded ops a.tmps) = true) (ty : TypeId) (x : Operand) (ho : o.op = .box ty x) (v : Value) (hx : a.eval x = v) (hc : v.cells = #[v])
    (h : ∀ w' b, Hid (St cc q w0 w' ((b, ty, [v]) :: l)) → wpList P ops Q rest (a.put o.dst (.pointer (some ⟨b, 0, none⟩))) w') : wpList P ops Q (o :: rest) a w :=
  wpList_wanted hw fun _ hK => by
    have hcs : (a.eval x).cells = [v].toArray := by rw [hx, hc]
    unfold Oper.wp execOp
    simp only [ho]
    have hr : (Instr.box ty (a.eval x)).run P w = .ok (.pointer (some ⟨w.heap.size, 0, none⟩)) (w.alloc (.cells (a.eval x).cells ty)) := by
      simp [Instr.box, newVar, newRow]
    simp only [Sem.run_bind, hr, Result.andThen_ok, Sem.run_pure]
    exact hK _ _ (h _ _ (HS.out.new (by have := NewBox.of w ty (a.eval x).cells; rw [hcs] at this ⊢; exact this)))
end
set_option maxHeartbeats 1000000 in
theorem lk_find (w0 : World) (v : Value) (gs : List G) (tx p s : Int) (h : GsAt w0 v gs) (hb : gs.length ≤ 1000000) : Calls Try.prog 52 #[v, .int .i64 tx, .agg #[.int .i64 p, .int .i64 s]] w0 (BsPost gs ⟨tx, p, s, 0⟩ w0) := by
  have HG := Lib.hid h
  clear h
  have HS : Hid (St none default w0 w0 []) := St.start w0
  go_enter Try.func52, Try.ntmps52
  go_wp2_with (first | (refine sx_box HS rfl _ _ rfl [.int .i64 p, .int .i64 s] rfl ?_; clear HS; intro w b5 HS) | (refine sx_loads HS rfl 27 _ rfl 0 _ _ _ rfl 0 rfl 2 sh27 [.int .i64 p, .int .i64 s] rfl ⟨rfl, rfl, trivial⟩ ?_))
  refine (bsearch_any _ v gs ⟨tx, p, s, 0⟩ (HG.out.ext HS.out.isExt) hb).mono ?_
  rintro e w ⟨i, h1, h2, h3, rfl, hx⟩
  have HF : Hid (BsPost gs ⟨tx, p, s, 0⟩ w0 (.returned (.tuple #[.int .i64 i, .bool (hitB gs ⟨tx, p, s, 0⟩ i)])) w) := ⟨i, h1, h2, h3, rfl, HS.out.isExt.trans hx⟩
  clear h1 h2 h3 hx HS
  go_wp2_with fail
  go_ret2
  exact HF.out
/-- A table of locks by value. -/
def locksArr (vh vw : Value) : Array Value := #[vh, vw]
set_option maxHeartbeats 2000000 in
set_option maxRecDepth 100000 in
theorem lk_mode (w0 : World) (vh vw : Value) (hs : List G) (tx p s : Int) (h : GsAt w0 vh hs) (hb : hs.length ≤ 1000000) (hsort : sortedG hs) (hone : vw.oneCell' = true) : Calls Try.prog 31 #[.agg #[vh, vw], .int .i64 tx, .agg #[.int .i64 p, .int .i64 s]] w0 fun e w' => e = .returned (.int .i64 (modeF hs ⟨tx, p, s, 0⟩)) ∧ Ext w0 w' := by
  obtain ⟨ao, cap, rfl, hc1, hc2, hat⟩ := h.get
  have HG := Lib.hid h
  have HB := Lib.hid hb
  have HSO := Lib.hid hsort
  obtain ⟨n, hn⟩ : ∃ n, n = hs.length := ⟨_, rfl⟩
  rw [← hn] at hc1 hat HG ⊢
  have HN := Lib.hid hn
  have HAT := Lib.hid hat
  clear hn hat h hb hsort
  have HS : Hid (St none default w0 w0 []) := St.start w0
  go_enter Try.func31, Try.ntmps31
  go_wp2_with (first | (refine sx_box HS rfl _ _ rfl [.slice ao n cap, vw] rfl ?_; clear HS; intro w b3 HS) | (refine sx_box HS rfl _ _ rfl [.int .i64 p, .int .i64 s] rfl ?_; clear HS; intro w b5 HS) | (refine sx_load HS rfl 23 _ rfl 1 _ _ _ rfl 0 rfl _ sh23 (.slice ao n cap) rfl ?_) | (refine sx_loads HS rfl 27 _ rfl 0 _ _ _ rfl 0 rfl 2 sh27 [.int .i64 p, .int .i64 s] rfl ⟨rfl, rfl, trivial⟩ ?_))
  replace HS : Hid (St none default w0 w [(b5, 27, [.int .i64 p, .int .i64 s]), (b3, 25, [.slice ao n cap, vw])]) := HS
  refine (lk_find _ _ hs tx p s (HG.out.ext HS.out.isExt) HB.out).mono ?_
  rintro e w ⟨i, h1, h2, h3, rfl, hx⟩
  replace HS := Lib.hid (HS.out.ext hx)
  have hfo := found_of HSO.out h1 h2 h3
  have HFO := Lib.hid hfo
  clear hx h1 h2 h3 hfo
  cases hh : hitB hs ⟨tx, p, s, 0⟩ i with
  | false =>
    have hm : modeF hs ⟨tx, p, s, 0⟩ = 0 := modeF_miss HSO.out HFO.out (fun x hx e => by unfold hitB at hh; rw [hx] at hh; simp [e] at hh)
    have HM := Lib.hid hm
    clear hm hh
    go_wp2_with fail
    go_ret
    exact ⟨by rw [HM.out]; rfl, HS.out.isExt⟩
  | true =>
    obtain ⟨x, hx, ho⟩ : ∃ x, hs[i]? = some x ∧ ordI x ⟨tx, p, s, 0⟩ = 0 := by
      unfold hitB at hh
      cases hx : hs[i]? with
      | none => rw [hx] at hh; cases hh
      | some x => rw [hx] at hh; exact ⟨x, rfl, by simpa using hh⟩
    have HM := Lib.hid (modeF_hit HSO.out hx ho)
    have hin : i < n := by rw [HN.out]; exact (List.getElem?_eq_some_iff.1 hx).1
    obtain ⟨g, off, rfl, hcell⟩ := HAT.out (by omega)
    have HC : Hid (∀ w, Ext w0 w → w.cell? ⟨g, off + i * 4 + 3, none⟩ = some (.int .i64 x.mode)) := fun w k => hcell i x hx w k 3 _ rfl
    clear hcell hx ho hh
    have hcm := HC.out _ HS.out.isExt
    go_wp2_with (refine sx_load HS rfl 23 _ rfl 1 _ _ _ rfl 0 rfl _ sh23 (.slice (some ⟨g, off, none⟩) n cap) rfl ?_)
    go_ret
    exact ⟨by rw [HM.out]; rfl, HS.out.isExt⟩
set_option maxHeartbeats 400000 in
theorem lk_valid1 (x g : G) (b : Nat) (w : World) (hB : PBox w b 29 g.lst) : Calls Try.prog 43 #[.agg x.arr, .pointer (some ⟨b, 0, none⟩)] w fun e w' => e = .returned (.bool (x.tx == g.tx)) ∧ Ext w w' := by
  have hlt := hB.lt
  have h0 : w.cell? ⟨b, 0, none⟩ = some (.int .i64 g.tx) := hB.cell rfl
  clear hB
  obtain ⟨x1, x2, x3, x4⟩ := x
  unfold G.arr G.lst
  dsimp only
  go_enter Try.func43, Try.ntmps43
  go_wp2
  go_ret
  exact ⟨rfl, (Ext.refl _).alloc _⟩
/-- A closure that asks whether a grant is the transaction's: the transaction lies in a cell. -/
theorem lk_waiting1 (x : G) (tx : Int) (b : Nat) (w : World) (h0 : w.cell? ⟨b, 0, none⟩ = some (.int .i64 tx)) : Calls Try.prog 51 #[.agg x.arr, .pointer (some ⟨b, 0, none⟩)] w fun e w' => e = .returned (.bool (x.tx == tx)) ∧ Ext w w' := by
  have hlt : b < w.heap.size := block_lt_of_cell h0
  obtain ⟨x1, x2, x3, x4⟩ := x
  unfold G.arr G.lst
  dsimp only
  go_enter Try.func51, Try.ntmps51
  go_wp2
  go_ret
  exact ⟨rfl, (Ext.refl _).alloc _⟩
end Go.Proofs.Ytnfkplohpjfocaa
