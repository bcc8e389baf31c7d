/-
  The kernel's closure that asks of a grant whether its page is beyond the pages.
-/
import Derived.Test.YtjnfgapfhpihmaaGreatSeK
import Derived.LoopTactic
set_option linter.unusedVariables false
set_option linter.unusedSimpArgs false
section
namespace Go.Proofs.YtjnfgapfhpihmaaGreat
open Go.RowKit
def gv (l : List (Int × Int)) : List Value := (l.map fun x => [Value.int .i64 1, .int .i64 x.1, .int .i64 7, .int .i64 x.2]).flatten
theorem gv_append (l m : List (Int × Int)) : gv (l ++ m) = gv l ++ gv m := by simp [gv]
theorem ofL_get {l : List (Int × Int)} {i : Nat} {x : Int × Int} (h : l[i]? = some x) : (ofL l)[i]? = some [.i 1, .i x.1, .i 7, .i x.2] := by
  unfold ofL
  rw [List.getElem?_map, h]; rfl
theorem ofL_len (l : List (Int × Int)) : (ofL l).length = l.length := List.length_map ..
theorem gv_row (z : Nat → Option Obj) : ∀ {l : List (Int × Int)} {j : Nat} {row : List DV}, (ofL l)[j]? = some row → RowD z shG row (((gv l).drop (j * 4)).take 4)
  | [], j, row, h => by simp [ofL] at h
  | x :: l, 0, row, h => by
    cases (show some [DV.i 1, .i x.1, .i 7, .i x.2] = some row from h)
    exact mkD_G z 1 x.1 7 x.2
  | x :: l, j + 1, row, h => by
    have h' : (ofL l)[j]? = some row := h
    have e : (gv (x :: l)).drop ((j + 1) * 4) = (gv l).drop (j * 4) := by
      show ([Value.int .i64 1, .int .i64 x.1, .int .i64 7, .int .i64 x.2] ++ gv l).drop ((j + 1) * 4) = _
      rw [show (j + 1) * 4 = 4 + j * 4 by omega, ← List.drop_drop]
      rfl
    rw [e]
    exact gv_row z h'
section
variable {F : List Fc} {ρ : Vn} {φ : Emb}
theorem conF_det {k : IntKind} {t : Nm} {v u : Value} (h : VC ρ φ (conF F k t) v) (h' : VC ρ φ (conF F k t) u) : v = u := by
  cases hr : rngF F t with
  | none =>
    have e : conF F k t = .si k t := by unfold conF; rw [hr]
    rw [e] at h h'
    exact (show v = _ from h).trans (show u = _ from h').symm
  | some x =>
    cases hd : decide (x.1 = x.2) with
    | true =>
      have e : conF F k t = .i k x.1 := by unfold conF; rw [hr]; dsimp only; rw [hd]; rfl
      rw [e] at h h'
      exact (show v = _ from h).trans (show u = _ from h').symm
    | false =>
      have e : conF F k t = .si k t := by unfold conF; rw [hr]; dsimp only; rw [hd]; rfl
      rw [e] at h h'
      exact (show v = _ from h).trans (show u = _ from h').symm
theorem rowsG_val (hs : StdF ρ) (hF : ∀ f ∈ F, f.holds QR ρ) {q : Nm} {l : List (Int × Int)} (hq : ρ.d q = ofL l) : ∀ (k i : Nat) {vs : List Value}, i + k ≤ l.length → All2 (VC ρ φ) (rowsG F q i k) vs → vs = gv ((l.drop i).take k)
  | 0, i, vs, hk, h => by cases h; simp [gv]
  | k + 1, i, vs, hk, h => by
    obtain ⟨x, hx⟩ := list_cases (d := l) (i := i) (by omega)
    have hrow : (ρ.d q)[i]? = some [.i 1, .i x.1, .i 7, .i x.2] := by rw [hq]; exact ofL_get hx
    have h' : All2 (VC ρ φ) (cellG F q i 0 :: cellG F q i 1 :: cellG F q i 2 :: cellG F q i 3 :: rowsG F q (i + 1) k) vs := h
    cases h' with
    | cons a1 t1 =>
      cases t1 with
      | cons a2 t2 =>
        cases t2 with
        | cons a3 t3 =>
          cases t3 with
          | cons a4 t4 =>
            have ih := rowsG_val hs hF hq k (i + 1) (by omega) t4
            rw [conF_det a1 (cellG_ok hs hF hrow (by decide) rfl), conF_det a2 (cellG_ok hs hF hrow (by decide) rfl), conF_det a3 (cellG_ok hs hF hrow (by decide) rfl), conF_det a4 (cellG_ok hs hF hrow (by decide) rfl), ih]
            obtain ⟨hlt, rfl⟩ := List.getElem?_eq_some_iff.1 hx
            rw [List.drop_eq_getElem_cons hlt, List.take_succ_cons]
            rfl
end
theorem place_at : ∀ (l : List (Int × Int)) (p : Int), l.Pairwise (fun x y => x.1 < y.1) → ∃ k, k ≤ l.length ∧ (∀ i x, i < k → l[i]? = some x → x.1 < p) ∧ (∀ i x, k ≤ i → l[i]? = some x → p ≤ x.1) ∧ (∀ i x, k < i → l[i]? = some x → p < x.1)
  | [], p, _ => ⟨0, Nat.le_refl _, fun i x h => absurd h (Nat.not_lt_zero _), fun i x _ h => by simp at h, fun i x _ h => by simp at h⟩
  | y :: l, p, hp => by
    rw [List.pairwise_cons] at hp
    by_cases hy : y.1 < p
    · obtain ⟨k, h1, h2, h3, h4⟩ := place_at l p hp.2
      refine ⟨k + 1, by simp; omega, fun i x hi hx => ?_, fun i x hi hx => ?_, fun i x hi hx => ?_⟩
      · cases i with
        | zero => cases hx; exact hy
        | succ i => exact h2 i x (by omega) hx
      · cases i with
        | zero => omega
        | succ i => exact h3 i x (by omega) hx
      · cases i with
        | zero => omega
        | succ i => exact h4 i x (by omega) hx
    · refine ⟨0, Nat.zero_le _, fun i x h => absurd h (Nat.not_lt_zero _), fun i x _ hx => ?_, fun i x hi hx => ?_⟩
      · cases i with
        | zero => cases hx; omega
        | succ i => have := hp.1 x (List.mem_of_getElem? (i := i) hx); omega
      · cases i with
        | zero => omega
        | succ i => have := hp.1 x (List.mem_of_getElem? (i := i) hx); omega
theorem ins_new : ∀ {l : List (Int × Int)} {p m : Int} {k : Nat}, k ≤ l.length → (∀ i x, i < k → l[i]? = some x → x.1 < p) → (∀ x, l[k]? = some x → p < x.1) → insL l p m = l.take k ++ (p, m) :: l.drop k
  | [], p, m, 0, _, _, _ => rfl
  | y :: l, p, m, 0, _, _, h => by
    have hy := h y rfl
    unfold insL
    rw [if_neg (by omega), if_neg (by omega)]
    rfl
  | y :: l, p, m, k + 1, hk, h1, h2 => by
    have hy := h1 0 y (by omega) rfl
    unfold insL
    rw [if_pos hy, ins_new (k := k) (by simpa using hk) (fun i x hi hx => h1 (i + 1) x (by omega) hx) (fun x hx => h2 x hx)]
    rfl
theorem ins_old : ∀ {l : List (Int × Int)} {p m o : Int} {k : Nat}, (∀ i x, i < k → l[i]? = some x → x.1 < p) → l[k]? = some (p, o) → insL l p m = l.take k ++ (p, max o m) :: l.drop (k + 1)
  | [], p, m, o, k, _, h => by simp at h
  | y :: l, p, m, o, 0, _, h => by
    cases h
    unfold insL
    rw [if_neg (by omega), if_pos rfl]
    rfl
  | y :: l, p, m, o, k + 1, h1, h2 => by
    have hy := h1 0 y (by omega) rfl
    unfold insL
    rw [if_pos hy, ins_old (k := k) (fun i x hi hx => h1 (i + 1) x (by omega) hx) h2]
    rfl
theorem take_cons_drop {α : Type} {l : List α} {k : Nat} {x : α} (h : l[k]? = some x) : l.take k ++ x :: l.drop (k + 1) = l := by
  obtain ⟨hlt, rfl⟩ := List.getElem?_eq_some_iff.1 h
  rw [← List.drop_eq_getElem_cons hlt, List.take_append_drop]
theorem asc_len : ∀ (l : List (Int × Int)) (a n : Int), l.Pairwise (fun x y => x.1 < y.1) → (∀ x ∈ l, a ≤ x.1 ∧ x.1 < n) → (l.length : Int) ≤ max (n - a) 0
  | [], a, n, _, _ => by simp; omega
  | y :: l, a, n, hp, hb => by
    rw [List.pairwise_cons] at hp
    have hy := hb y List.mem_cons_self
    have := asc_len l (y.1 + 1) n hp.2 fun x hx => ⟨by have := hp.1 x hx; omega, (hb x (List.mem_cons_of_mem _ hx)).2⟩
    rw [List.length_cons]
    omega
def cQ (q : Nm) (i o : Nat) : Nm := .f2 (Nat.add 100 o) q (.num (.ofNat i))
noncomputable def fRows (q : Nm) (m : Int) (k : Nat) : List Fc := @Nat.rec (fun _ => List Fc) [] (fun i ih => .rng (cQ q i 0) 1 1 :: .rng (cQ q i 2) 7 7 :: .rng (cQ q i 1) 0 m :: .rng (cQ q i 3) 1 2 :: ih) k
noncomputable def fOrd (q : Nm) (k : Nat) : List Fc := @Nat.rec (fun _ => List Fc) [] (fun i ih => .dif (cQ q i 1) (cQ q (Nat.succ i) 1) (-6) (-1) :: ih) k
noncomputable def factsH (q : Nm) (m : Int) (L : Nat) : List Fc := .rng (.f1 5 q) (.ofNat L) (.ofNat L) :: (fRows q m L ++ fOrd q (Nat.pred L))
def loR (k kind i : Nat) : Int × Int := bif Nat.blt i k then (-6, -1) else bif Nat.beq i k && Nat.blt 0 kind then (0, 0) else (1, 6)
noncomputable def fRel (q p : Nm) (k kind L : Nat) : List Fc := @Nat.rec (fun _ => List Fc) [] (fun i ih => .dif (cQ q i 1) p (loR k kind i).1 (loR k kind i).2 :: ih) L
def fMode (q m : Nm) (k kind : Nat) : List Fc := bif Nat.beq kind 1 then [.dif (cQ q k 3) m 0 1] else bif Nat.beq kind 2 then [.dif (cQ q k 3) m (-1) (-1)] else []
noncomputable def factsR (L k kind : Nat) : List Fc := .rng (.v 1) 0 6 :: .rng (.v 2) 1 2 :: .rng (.f1 5 (.v 3)) 0 0 :: (fMode (.v 0) (.v 2) k kind ++ (fRel (.v 0) (.v 1) k kind L ++ factsH (.v 0) 6 L))
section
variable {ρ : Vn} {q : Nm} {l : List (Int × Int)} {n : Int}
theorem cQ_val (hs : StdF ρ) (hq : ρ.d q = ofL l) {i : Nat} {x : Int × Int} (hx : l[i]? = some x) : ρ.i (cQ q i 0) = 1 ∧ ρ.i (cQ q i 1) = x.1 ∧ ρ.i (cQ q i 2) = 7 ∧ ρ.i (cQ q i 3) = x.2 := by
  have hrow : (ρ.d q)[i]? = some [.i 1, .i x.1, .i 7, .i x.2] := by rw [hq]; exact ofL_get hx
  have go : ∀ o m, o < 900 → ([DV.i 1, .i x.1, .i 7, .i x.2])[o]? = some (.i m) → ρ.i (cQ q i o) = m := fun o m ho hm => by
    have := hs.ci o q (.num (.ofNat i)) ho
    rw [hs.num, show ((Int.ofNat i : Int)) = ((i : Nat) : Int) from rfl, cell_row hrow, hm] at this
    exact this
  exact ⟨go 0 1 (by decide) rfl, go 1 _ (by decide) rfl, go 2 7 (by decide) rfl, go 3 _ (by decide) rfl⟩
theorem fRows_ok (hs : StdF ρ) (hq : ρ.d q = ofL l) (hb : ∀ x ∈ l, 0 ≤ x.1 ∧ x.1 ≤ n ∧ 1 ≤ x.2 ∧ x.2 ≤ 2) : ∀ k, k ≤ l.length → ∀ f ∈ fRows q n k, f.holds QR ρ
  | 0, _ => facts_nil
  | k + 1, hk => by
    obtain ⟨x, hx⟩ := list_cases (d := l) (i := k) (by omega)
    obtain ⟨h0, h1, h2, h3⟩ := cQ_val hs hq hx
    have h4 := hb x (List.mem_of_getElem? hx)
    exact facts_cons (show (1 : Int) ≤ ρ.i (cQ q k 0) ∧ ρ.i (cQ q k 0) ≤ 1 by omega) (facts_cons (show (7 : Int) ≤ ρ.i (cQ q k 2) ∧ ρ.i (cQ q k 2) ≤ 7 by omega) (facts_cons (show (0 : Int) ≤ ρ.i (cQ q k 1) ∧ ρ.i (cQ q k 1) ≤ n by omega) (facts_cons (show (1 : Int) ≤ ρ.i (cQ q k 3) ∧ ρ.i (cQ q k 3) ≤ 2 by omega) (fRows_ok hs hq hb k (by omega)))))
theorem fOrd_ok (hs : StdF ρ) (hq : ρ.d q = ofL l) (hb : ∀ x ∈ l, 0 ≤ x.1 ∧ x.1 ≤ 6 ∧ 1 ≤ x.2 ∧ x.2 ≤ 2) (hp : l.Pairwise (fun x y => x.1 < y.1)) : ∀ k, k + 1 ≤ l.length ∨ k = 0 → ∀ f ∈ fOrd q k, f.holds QR ρ
  | 0, _ => facts_nil
  | k + 1, hk => by
    obtain ⟨x, hx⟩ := list_cases (d := l) (i := k) (by omega)
    obtain ⟨y, hy⟩ := list_cases (d := l) (i := k + 1) (by omega)
    have e1 := (cQ_val hs hq hx).2.1
    have e2 := (cQ_val hs hq hy).2.1
    have h4 := hb x (List.mem_of_getElem? hx)
    have h5 := hb y (List.mem_of_getElem? hy)
    obtain ⟨i1, rfl⟩ := List.getElem?_eq_some_iff.1 hx
    obtain ⟨i2, rfl⟩ := List.getElem?_eq_some_iff.1 hy
    have h6 := List.pairwise_iff_getElem.1 hp k (k + 1) i1 i2 (by omega)
    exact facts_cons (show (-6 : Int) ≤ ρ.i (cQ q k 1) - ρ.i (cQ q (k + 1) 1) ∧ ρ.i (cQ q k 1) - ρ.i (cQ q (k + 1) 1) ≤ -1 by omega) (fOrd_ok hs hq hb hp k (.inl (by omega)))
theorem factsH_ok (hs : StdF ρ) (hq : ρ.d q = ofL l) (hb : ∀ x ∈ l, 0 ≤ x.1 ∧ x.1 ≤ n ∧ 1 ≤ x.2 ∧ x.2 ≤ 2) (hn : n ≤ 6) (hp : l.Pairwise (fun x y => x.1 < y.1)) : ∀ f ∈ factsH q n l.length, f.holds QR ρ := by
  have h1 : ρ.i (.f1 5 q) = (l.length : Int) := by rw [hs.dlen, hq, ofL_len]
  refine facts_cons (show ((l.length : Nat) : Int) ≤ ρ.i (.f1 5 q) ∧ ρ.i (.f1 5 q) ≤ ((l.length : Nat) : Int) by omega) (facts_app (fRows_ok hs hq hb _ (Nat.le_refl _)) (fOrd_ok hs hq (fun x hx => ?_) hp _ ?_))
  · have := hb x hx; omega
  · cases hl : l.length with
    | zero => exact .inr rfl
    | succ k => exact .inl (Nat.le_refl _)
theorem fRel_ok (hs : StdF ρ) (hq : ρ.d q = ofL l) {p : Nm} {k kind : Nat} (hb : ∀ x ∈ l, 0 ≤ x.1 ∧ x.1 ≤ 6) (h0 : 0 ≤ ρ.i p) (h1 : ρ.i p ≤ 6) (h2 : ∀ i x, i < k → l[i]? = some x → x.1 < ρ.i p) (h3 : ∀ x, l[k]? = some x → if 0 < kind then x.1 = ρ.i p else ρ.i p < x.1) (h4 : ∀ i x, k < i → l[i]? = some x → ρ.i p < x.1) : ∀ L, L ≤ l.length → ∀ f ∈ fRel q p k kind L, f.holds QR ρ
  | 0, _ => facts_nil
  | i + 1, hk => by
    obtain ⟨x, hx⟩ := list_cases (d := l) (i := i) (by omega)
    have e1 := (cQ_val hs hq hx).2.1
    have h5 := hb x (List.mem_of_getElem? hx)
    refine facts_cons (f := .dif (cQ q i 1) p (loR k kind i).1 (loR k kind i).2) (show (loR k kind i).1 ≤ ρ.i (cQ q i 1) - ρ.i p ∧ ρ.i (cQ q i 1) - ρ.i p ≤ (loR k kind i).2 from ?_) (fRel_ok hs hq hb h0 h1 h2 h3 h4 i (by omega))
    rw [e1]
    unfold loR
    cases ha : Nat.blt i k with
    | true =>
      have := h2 i x (Nat.le_of_ble_eq_true ha) hx
      simp only [cond_true]
      omega
    | false =>
      have ha' : ¬ i < k := fun h => by
        have : Nat.blt i k = true := Nat.ble_eq_true_of_le h
        rw [ha] at this; cases this
      simp only [cond_false]
      cases hc : (Nat.beq i k && Nat.blt 0 kind) with
      | true =>
        rw [Bool.and_eq_true] at hc
        cases Nat.eq_of_beq_eq_true hc.1
        have := h3 x hx
        have hk0 : 0 < kind := Nat.le_of_ble_eq_true hc.2
        rw [if_pos hk0] at this
        simp only [cond_true]
        omega
      | false =>
        simp only [cond_false]
        by_cases hik : i = k
        · subst hik
          have h6 := h3 x hx
          by_cases hkd : 0 < kind
          · exfalso
            have : Nat.blt 0 kind = true := Nat.ble_eq_true_of_le hkd
            rw [this, Nat.beq_refl] at hc
            cases hc
          · rw [if_neg hkd] at h6
            omega
        · have := h4 i x (by omega) hx
          omega
end
end Go.Proofs.YtjnfgapfhpihmaaGreat
end
section
namespace Go.Proofs.YtjnfgapfhpihmaaGreat
open Go.RowKit
theorem load_grant {w : World} {b off : Nat} {vs : List Value} (hl : vs.length = 4) (hc : ∀ (j : Nat) v, vs[j]? = some v → w.cell? ⟨b, off + j, none⟩ = some v) : (loadVar 93 ⟨b, off, none⟩).run Tryz.prog w = .ok (.agg vs.toArray) w := by
  obtain ⟨ie, z, hi, hz, his, _⟩ := info_grant
  have hs : (sizeOf 93).run Tryz.prog w = .ok 4 w := by simp [sizeOf, typeInfo, hi, his]
  unfold loadVar
  rw [Sem.run_bind, run_isAgg Tryz.underlying93, Result.andThen_ok, if_pos (show aggD _ = true from rfl), Sem.run_bind, hs, Result.andThen_ok, Sem.run_bind, run_loads hc hl]
  rfl
section
variable {ops : Array Oper} {rest : List Oper} {o : Oper} {a : Act} {Q : Exit → Act → World → Prop} {w : World}
theorem wpList_loadG (hw : o.guard = none) (x : Operand) (ho : o.op = .load 93 x) (b off : Nat) (hx : a.eval x = .pointer (some ⟨b, off, none⟩)) {vs : List Value} (hl : vs.length = 4) (hc : ∀ (j : Nat) v, vs[j]? = some v → w.cell? ⟨b, off + j, none⟩ = some v)
    (h : wpList Tryz.prog ops Q rest (a.put o.dst (.agg vs.toArray)) w) : wpList Tryz.prog ops Q (o :: rest) a w :=
  wpList_plain hw fun _ hK => by
    unfold Oper.wp execOp
    simp only [ho, hx, Instr.loadAt, Instr.sureAddr, Sem.run_bind, Sem.run_pure, Result.andThen_ok, load_grant hl hc]
    exact hK _ _ h
theorem wpList_callv (hw : o.guard = none) (f : FuncId) (caps : List Value) (fv : Operand) (xs : List Operand) (ts : Array TypeId)
    (ho : o.op = .call { callee := .value fv, args := xs.toArray, argTypes := ts }) (hfv : a.eval fv = .func (.func f) #[] caps.toArray) (hent : ∀ args w, (callFunc f args).run Tryz.prog w = .ok (.enter f args) w)
    (al : List Value) (hargs : xs.map a.eval = al) (R : Value → World → Prop) (hc : Calls Tryz.prog f (al ++ caps).toArray w (fun e w' => ∃ v, e = .returned v ∧ R v w'))
    (h : ∀ v w', R v w' → wpList Tryz.prog ops Q rest (a.put o.dst v) w') : wpList Tryz.prog ops Q (o :: rest) a w :=
  wpList_plain hw fun _ hK => by
    have hm : xs.toArray.map a.eval = al.toArray := by rw [List.map_toArray, hargs]
    have hap : al.toArray ++ caps.toArray = (al ++ caps).toArray := by simp
    have hrun : (execOp a.eval o).run Tryz.prog w = .ok (.enter f (al ++ caps).toArray) w := by
      unfold execOp
      simp only [ho, resolve, Deferred.ofValue, invoke, hfv, hm, Sem.run_bind, Sem.run_pure, Result.andThen_ok, Array.empty_append, hap, hent]
    unfold Oper.wp
    rw [hrun]
    simp only [Oper.upon]
    refine hc.mono fun e w' he => ?_
    obtain ⟨v, rfl, hv⟩ := he
    exact hK _ _ (h v w' hv)
end
structure NoG (w : World) (b off n : Nat) (K : FuncId) (caps : List Value) : Prop where
  ent : ∀ args w, (callFunc K args).run Tryz.prog w = .ok (.enter K args) w
  row : ∀ i, i < n → ∃ vs : List Value, vs.length = 4 ∧ (∀ (j : Nat) v, vs[j]? = some v → w.cell? ⟨b, off + i * 4 + j, none⟩ = some v) ∧ ∀ w', Below w.heap.size w w' → Calls Tryz.prog K ([Value.agg vs.toArray] ++ caps).toArray w' fun e w2 => e = .returned (.bool false) ∧ Below w'.heap.size w' w2
set_option maxHeartbeats 4000000 in
set_option maxRecDepth 100000 in
theorem index_no (w : World) (ao : Option Addr) (b off n cap : Nat) (hn : n ≤ 1000) (ha : n = 0 ∨ ao = some ⟨b, off, none⟩) (K : FuncId) (caps : List Value) (H : NoG w b off n K caps) :
    Calls Tryz.prog 128 #[.slice ao n cap, .func (.func K) #[] caps.toArray] w fun e w' => e = .returned (.int .i64 (-1)) ∧ Below w.heap.size w w' := by
  have HN := Lib.hid H
  clear H
  go_enter Tryz.func128, Tryz.ntmps128
  go_wp2_with fail
  go_loopw [8] (fun s wr => ∃ i : Nat, i ≤ n ∧ s = .int .i64 i ∧ Hid (Below w.heap.size w wr)) (fun s _ => n - (intOf s).toNat)
  case atStart => exact ⟨0, Nat.zero_le _, rfl, Lib.hid (Below.refl _ _)⟩
  case round =>
    obtain ⟨i, hi, rfl, HB⟩ := hrel
    by_cases hlt : i < n
    · obtain ⟨vs, hl, hc, hcall⟩ := HN.out.row i hlt
      have hao : ao = some ⟨b, off, none⟩ := by rcases ha with h | h; omega; exact h
      subst hao
      have hc2 : ∀ (j : Nat) v, vs[j]? = some v → wr.cell? ⟨b, off + i * 4 + j, none⟩ = some v := fun j v hj => by
        have h1 := hc j v hj
        exact (Below.cell (p := ⟨b, off + i * 4 + j, none⟩) HB.out (block_lt_of_cell (a := ⟨b, off + i * 4 + j, none⟩) h1)).trans h1
      have HC := Lib.hid hc2
      have HCC := Lib.hid (hcall wr HB.out)
      have HE := Lib.hid HN.out.ent
      clear hc hcall hc2
      go_wp2_with (first | (refine wpList_loadG rfl _ rfl b (off + i * 4) rfl hl HC.out ?_) | (refine wpList_callv rfl K caps (.tmp 11) [.tmp 15] _ rfl rfl HE.out [.agg vs.toArray] rfl (fun v w' => v = .bool false ∧ Below wr.heap.size wr w') (HCC.out.mono (fun e w1 h => ⟨_, h.1, rfl, h.2⟩)) ?_; rintro _ w3 ⟨rfl, hst⟩; have HB3 := Lib.hid hst; clear hst))
      go_roundw
      case rel => exact ⟨i + 1, by omega, by go_num, Lib.hid (HB.out.trans (HB3.out.mono HB.out.size))⟩
      case measure => simp [intOf]; omega
    · have hin : i = n := by omega
      subst hin
      go_wp2_with fail
      go_ret
      exact ⟨rfl, HB.out⟩
set_option maxHeartbeats 4000000 in
theorem contains_no (w : World) (ao : Option Addr) (b off n cap : Nat) (hn : n ≤ 1000) (ha : n = 0 ∨ ao = some ⟨b, off, none⟩) (K : FuncId) (caps : List Value) (H : NoG w b off n K caps) :
    Calls Tryz.prog 60 #[.slice ao n cap, .func (.func K) #[] caps.toArray] w fun e w' => e = .returned (.bool false) ∧ Below w.heap.size w w' := by
  have HH := Lib.hid (index_no w ao b off n cap hn ha K caps H)
  clear H
  go_enter Tryz.func60, Tryz.ntmps60
  go_wp2_with fail
  refine HH.out.mono ?_
  rintro e w1 ⟨rfl, hx⟩
  go_wp2_with fail
  go_ret
  exact ⟨rfl, hx⟩
end Go.Proofs.YtjnfgapfhpihmaaGreat
end
section
namespace Go.Proofs.YtjnfgapfhpihmaaGreat
open Go.RowKit
set_option maxHeartbeats 4000000 in
set_option maxRecDepth 100000 in
theorem beyond_no (w : World) (bk bo : Nat) (n a p c d : Int) (h : w.cell? ⟨bk, bo, none⟩ = some (.int .i64 n)) (hp : p < n) :
    Calls Tryz.prog 55 #[.agg #[.int .i64 a, .int .i64 p, .int .i64 c, .int .i64 d], .pointer (some ⟨bk, bo, none⟩)] w fun e w' => e = .returned (.bool false) ∧ Below w.heap.size w w' := by
  have hb : bk < w.heap.size := block_lt_of_cell h
  go_enter Tryz.func55, Tryz.ntmps55
  go_wp2
  go_ret
  have e : decide (n ≤ p) = false := decide_eq_false (by omega)
  exact ⟨by rw [← e]; rfl, (Below.refl _ w).alloc (Nat.le_refl _) _⟩
end Go.Proofs.YtjnfgapfhpihmaaGreat
end
