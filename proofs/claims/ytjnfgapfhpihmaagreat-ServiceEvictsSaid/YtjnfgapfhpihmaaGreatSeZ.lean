/-
  The contract of locks.Request for transaction 1, where nobody waits: one more lock is held.
-/
import Derived.Test.YtjnfgapfhpihmaaGreatSeT
import Derived.Test.YtjnfgapfhpihmaaGreatInsN
set_option linter.unusedVariables false
set_option linter.unusedSimpArgs false
section
set_option maxRecDepth 100000
namespace Go.Proofs.YtjnfgapfhpihmaaGreat
open Go.RowKit
noncomputable def tblIn : Tab := tabOf [(⟨.x0, .x8, .x8⟩, c136)]
theorem tblIn_ok {E : Env} : TabOk Tryz.prog E tblIn := tab_cons tab_nil e136
noncomputable def insG : List AV → Hp → RO := natSplit (callBy tblIn (aev Tryz.prog envI tblIn (nat_lit 200))) ⟨.x0, .x8, .x8⟩
theorem insG_ok {E : Env} : EntOk Tryz.prog E ⟨.x0, .x8, .x8⟩ (.natm insG) := natSplit_ok (eval_ok tblIn_ok mixedS _) (e136 (E := envI)).1
noncomputable def clnG (F : List Fc) : List AV → Hp → RO := natClG F (callBy (tblW F) (aev Tryz.prog (envR F) (tblW F) (nat_lit 60))) ⟨.x0, .xc, .x7⟩
noncomputable def tblR (F : List Fc) : Tab := tabOf [(⟨.x0, .x3, .x4⟩, .nat (natLV F)), (⟨.x0, .x7, .x6⟩, .nat (natVg F)), (⟨.x0, .xc, .x7⟩, .natm (clnG F)), (⟨.x0, .x8, .x8⟩, .natm (natInG insG)), (⟨.x0, .x3, .xc⟩, c60), (⟨.x0, .x4, .x5⟩, c69), (⟨.x0, .x4, .x7⟩, c71), (⟨.x0, .x7, .x7⟩, c119), (⟨.x0, .x7, .x8⟩, c120), (⟨.x0, .x7, .x9⟩, c121), (⟨.x0, .x8, .x0⟩, c128), (⟨.x0, .x8, .x7⟩, c135), (⟨.x0, .x8, .x9⟩, c137), (⟨.x0, .x8, .xa⟩, c138), (⟨.x0, .xc, .x1⟩, c193), (⟨.x0, .xc, .x2⟩, c194), (⟨.x0, .xf, .xb⟩, c251), (⟨.x0, .xc, .x3⟩, c195), (⟨.x0, .xc, .xa⟩, c202), (⟨.x0, .xc, .xb⟩, c203), (⟨.x0, .xf, .xc⟩, c252), (⟨.x0, .xf, .xf⟩, c255)]
theorem tblR_ok (F : List Fc) : TabOk Tryz.prog (envR F) (tblR F) := tab_cons (tab_cons (tab_cons (tab_cons (tab_cons (tab_cons (tab_cons (tab_cons (tab_cons (tab_cons (tab_cons (tab_cons (tab_cons (tab_cons (tab_cons (tab_cons (tab_cons (tab_cons (tab_cons (tab_cons (tab_cons (tab_cons tab_nil e255) e252) e203) e202) e195) e251) e194) e193) e138) e137) e135) e128) e121) e120) e119) e71) e69) e60) (natInG_ok insG_ok)) (natClG_ok (eval_ok (tblW_ok F) mixedS _))) (nat_ok entVg (natVg_ok F))) (nat_ok entLV (natLV_ok F))
noncomputable def factsQ (L k kind : Nat) : List Fc := .pr 11 [.v 0, .num 7] :: factsR L k kind
noncomputable def expR (F : List Fc) (L k kind : Nat) : List AC := rowsG F (.v 0) 0 k ++ ([.i .i64 (.ofNat 1), bif Nat.beq kind 2 then cellG F (.v 0) k 1 else .si .i64 (.v 1), .i .i64 (.ofNat 7), .si .i64 (.v 2)] ++ bif Nat.beq kind 2 then rowsG F (.v 0) (Nat.succ k) (Nat.sub L (Nat.succ k)) else rowsG F (.v 0) k (Nat.sub L k))
def cellsIs (o : Option AB) (l : List AC) : Bool := match o with
  | some (.cells c) => decide (c = l)
  | _ => false
noncomputable def reqOk (F : List Fc) (L k kind : Nat) : RO → Bool
  | .ok (.t [.a [hc, wc], .c (.b true), .c (.i .i64 (.ofNat 0))]) h => bif Nat.beq kind 1 then decide (hc = .ds shG (.v 0)) && decide (wc = .ds shG (.v 3)) else (match hc, wc with
    | .su id off len lb es, .su id2 off2 len2 lb2 es2 => (Nat.beq off 0 && Nat.beq len2 0) && (Nat.beq len (bif Nat.beq kind 2 then L else Nat.succ L) && cellsIs (h.get id) (expR F L k kind))
    | _, _ => false)
  | _ => false
def gReq : AV := .a [.i .i64 (.ofNat (nat_lit 1)), .si .i64 (.v (nat_lit 1)), .i .i64 (.ofNat (nat_lit 7)), .si .i64 (.v (nat_lit 2))]
noncomputable def runR (hc wc : AC) (L k kind : Nat) : Bool := reqOk (factsQ L k kind) L k kind (callBy (tblR (factsQ L k kind)) (aev Tryz.prog (envR (factsQ L k kind)) (tblR (factsQ L k kind)) (nat_lit 300)) ⟨.x0, .x4, .x7⟩ [.a [hc, wc], gReq] hp0)
noncomputable def runRk (L k : Nat) : Bool := runR (.ds shG (.v (nat_lit 0))) (.ds shG (.v (nat_lit 3))) L k 0 && (bif Nat.blt k L then runR (.ds shG (.v (nat_lit 0))) (.ds shG (.v (nat_lit 3))) L k 1 && runR (.ds shG (.v (nat_lit 0))) (.ds shG (.v (nat_lit 3))) L k 2 else true)
noncomputable def runRs (L n : Nat) : Bool := @Nat.rec (fun _ => Bool) true (fun k ih => runRk L k && ih) n
theorem runRs_at {L : Nat} : ∀ {n : Nat}, runRs L n = true → ∀ k, k < n → runRk L k = true
  | 0, _, k, hk => absurd hk (Nat.not_lt_zero _)
  | n + 1, h, k, hk => by
    have h' : (runRk L n && runRs L n) = true := h
    rw [Bool.and_eq_true] at h'
    by_cases e : k = n
    · rw [e]; exact h'.1
    · exact runRs_at h'.2 k (by omega)
theorem runR0 : runR .sn .sn 0 0 0 = true := by kernel_rfl
theorem runRs0 : runRs 0 1 = true := by kernel_rfl
theorem runRs1 : runRs 1 2 = true := by kernel_rfl
theorem runRs2 : runRs 2 3 = true := by kernel_rfl
theorem runRs3 : runRs 3 4 = true := by kernel_rfl
theorem runRs4 : runRs 4 5 = true := by kernel_rfl
theorem runRs5 : runRs 5 6 = true := by kernel_rfl
theorem runRs6 : runRs 6 7 = true := by kernel_rfl
theorem runRs7 : runRs 7 8 = true := by kernel_rfl
end Go.Proofs.YtjnfgapfhpihmaaGreat
end
section
set_option maxRecDepth 100000
namespace Go.Proofs.YtjnfgapfhpihmaaGreat
open Go.RowKit
theorem runR_at : ∀ L, L ≤ 7 → ∀ k, k ≤ L → runR (.ds shG (.v 0)) (.ds shG (.v 3)) L k 0 = true ∧ (k < L → runR (.ds shG (.v 0)) (.ds shG (.v 3)) L k 1 = true ∧ runR (.ds shG (.v 0)) (.ds shG (.v 3)) L k 2 = true) := by
  intro L hL k hk
  have h : runRs L (L + 1) = true := match L, hL with
    | 0, _ => runRs0
    | 1, _ => runRs1
    | 2, _ => runRs2
    | 3, _ => runRs3
    | 4, _ => runRs4
    | 5, _ => runRs5
    | 6, _ => runRs6
    | 7, _ => runRs7
    | L + 8, hL => absurd hL (by omega)
  have h1 : runRk L k = true := runRs_at h k (by omega)
  unfold runRk at h1
  rw [Bool.and_eq_true] at h1
  refine ⟨h1.1, fun hlt => ?_⟩
  have h2 := h1.2
  rw [show Nat.blt k L = true from Nat.ble_eq_true_of_le hlt, cond_true, Bool.and_eq_true] at h2
  exact h2
theorem cellsIs_ok {o : Option AB} {l : List AC} (h : cellsIs o l = true) : o = some (.cells l) := by
  unfold cellsIs at h
  split at h
  · rw [of_decide_eq_true h]
  · cases h
theorem reqOk_ok {F : List Fc} {L k kind : Nat} {r : RO} (h : reqOk F L k kind r = true) : ∃ hc wc h1, r = .ok (.t [.a [hc, wc], .c (.b true), .c (.i .i64 (.ofNat 0))]) h1 ∧ ((kind = 1 ∧ hc = .ds shG (.v 0) ∧ wc = .ds shG (.v 3)) ∨
    (kind ≠ 1 ∧ ∃ id lb es id2 off2 lb2 es2, hc = .su id 0 (if kind = 2 then L else L + 1) lb es ∧ wc = .su id2 off2 0 lb2 es2 ∧ h1.get id = some (.cells (expR F L k kind)))) := by
  unfold reqOk at h
  split at h
  · rename_i hc wc h1
    refine ⟨hc, wc, h1, rfl, ?_⟩
    cases hk : Nat.beq kind 1 with
    | true =>
      rw [hk, cond_true, Bool.and_eq_true, decide_eq_true_eq, decide_eq_true_eq] at h
      exact .inl ⟨Nat.eq_of_beq_eq_true hk, h.1, h.2⟩
    | false =>
      rw [hk, cond_false] at h
      refine .inr ⟨fun e => (by rw [e] at hk; cases hk), ?_⟩
      split at h
      · rename_i id off len lb es id2 off2 len2 lb2 es2
        simp only [Bool.and_eq_true] at h
        obtain ⟨⟨a1, a2⟩, a3, a4⟩ := h
        cases Nat.eq_of_beq_eq_true a1
        cases Nat.eq_of_beq_eq_true a2
        have a3 := Nat.eq_of_beq_eq_true a3
        refine ⟨id, lb, es, id2, off2, lb2, es2, ?_, rfl, cellsIs_ok a4⟩
        rw [a3]
        congr 1
        by_cases e : kind = 2
        · subst e; rfl
        · rw [if_neg e]
          cases hb : Nat.beq kind 2 with
          | true => exact absurd (Nat.eq_of_beq_eq_true hb) e
          | false => rfl
      · cases h
  · cases h
theorem all2_split {α β : Type} {R : α → β → Prop} : ∀ {l m : List α} {vs : List β}, All2 R (l ++ m) vs → ∃ a b, vs = a ++ b ∧ All2 R l a ∧ All2 R m b
  | [], m, vs, h => ⟨[], vs, rfl, .nil, h⟩
  | x :: l, m, vs, h => by
    cases (show All2 R (x :: (l ++ m)) vs from h) with
    | cons h1 h2 =>
      obtain ⟨a, b, rfl, h3, h4⟩ := all2_split h2
      exact ⟨_ :: a, b, rfl, .cons h1 h3, h4⟩
theorem all2_at {α β : Type} {R : α → β → Prop} : ∀ {l : List α} {vs : List β}, l.length = vs.length → (∀ (o : Nat) x, l[o]? = some x → ∃ v, vs[o]? = some v ∧ R x v) → All2 R l vs
  | [], [], _, _ => .nil
  | x :: l, v :: vs, hl, h => by
    obtain ⟨u, h1, h2⟩ := h 0 x rfl
    cases h1
    exact .cons h2 (all2_at (by simpa using hl) fun o y hy => h (o + 1) y hy)
  | [], _ :: _, hl, _ => by cases hl
  | _ :: _, [], hl, _ => by cases hl
theorem rowsG_len (F : List Fc) (q : Nm) : ∀ k i, (rowsG F q i k).length = k * 4
  | 0, i => rfl
  | k + 1, i => by
    show (rowG F q i ++ rowsG F q (i + 1) k).length = _
    rw [List.length_append, rowsG_len F q k (i + 1)]
    show 4 + _ = _
    omega
theorem expR_len (F : List Fc) {L k kind : Nat} (hk : k ≤ L) (h2 : kind = 2 → k < L) : (expR F L k kind).length = (if kind = 2 then L else L + 1) * 4 := by
  unfold expR
  by_cases e : kind = 2
  · subst e
    have := h2 rfl
    rw [if_pos rfl]
    show (rowsG F (.v 0) 0 k ++ (_ ++ rowsG F (.v 0) (Nat.succ k) (Nat.sub L (Nat.succ k)))).length = _
    rw [List.length_append, List.length_append, rowsG_len, rowsG_len]
    show k * 4 + (4 + (L - (k + 1)) * 4) = _
    omega
  · rw [if_neg e]
    have hb : Nat.beq kind 2 = false := by
      cases hb : Nat.beq kind 2 with
      | true => exact absurd (Nat.eq_of_beq_eq_true hb) e
      | false => rfl
    rw [hb]
    show (rowsG F (.v 0) 0 k ++ (_ ++ rowsG F (.v 0) k (Nat.sub L k))).length = _
    rw [List.length_append, List.length_append, rowsG_len, rowsG_len]
    show k * 4 + (4 + (L - k) * 4) = _
    omega
theorem gv_cons (x : Int × Int) (l : List (Int × Int)) : gv (x :: l) = [Value.int .i64 1, .int .i64 x.1, .int .i64 7, .int .i64 x.2] ++ gv l := rfl
section
variable {ρ : Vn} {φ : Emb} {F : List Fc}
theorem exp0 (hs : StdF ρ) (hF : ∀ f ∈ F, f.holds QR ρ) {l : List (Int × Int)} (hq : ρ.d (.v 0) = ofL l) {k : Nat} (hk : k ≤ l.length) {vs : List Value} (h : All2 (VC ρ φ) (expR F l.length k 0) vs) : vs = gv (l.take k ++ (ρ.i (.v 1), ρ.i (.v 2)) :: l.drop k) := by
  obtain ⟨a, b, rfl, h1, h2⟩ := all2_split h
  obtain ⟨c, d, rfl, h3, h4⟩ := all2_split h2
  have h4' : All2 (VC ρ φ) (rowsG F (.v 0) k (l.length - k)) d := h4
  rw [rowsG_val hs hF hq k 0 (by omega) h1, rowsG_val hs hF hq _ k (by omega) h4', gv_append, gv_cons]
  cases h3 with
  | cons a1 t1 =>
    cases t1 with
    | cons a2 t2 =>
      cases t2 with
      | cons a3 t3 =>
        cases t3 with
        | cons a4 t4 =>
          cases t4
          cases (show _ = Value.int .i64 1 from a1)
          cases (show _ = Value.int .i64 (ρ.i (.v 1)) from a2)
          cases (show _ = Value.int .i64 7 from a3)
          cases (show _ = Value.int .i64 (ρ.i (.v 2)) from a4)
          rw [List.drop_zero, List.take_of_length_le (l := l.drop k) (by rw [List.length_drop]; exact Nat.le_refl _)]
theorem exp2 (hs : StdF ρ) (hF : ∀ f ∈ F, f.holds QR ρ) {l : List (Int × Int)} (hq : ρ.d (.v 0) = ofL l) {k : Nat} {x : Int × Int} (hx : l[k]? = some x) {vs : List Value} (h : All2 (VC ρ φ) (expR F l.length k 2) vs) : vs = gv (l.take k ++ (x.1, ρ.i (.v 2)) :: l.drop (k + 1)) := by
  have hlt := (List.getElem?_eq_some_iff.1 hx).1
  obtain ⟨a, b, rfl, h1, h2⟩ := all2_split h
  obtain ⟨c, d, rfl, h3, h4⟩ := all2_split h2
  have h4' : All2 (VC ρ φ) (rowsG F (.v 0) (k + 1) (l.length - (k + 1))) d := h4
  have hrow : (ρ.d (.v 0))[k]? = some [.i 1, .i x.1, .i 7, .i x.2] := by rw [hq]; exact ofL_get hx
  rw [rowsG_val hs hF hq k 0 (by omega) h1, rowsG_val hs hF hq _ (k + 1) (by omega) h4', gv_append, gv_cons]
  cases h3 with
  | cons a1 t1 =>
    cases t1 with
    | cons a2 t2 =>
      cases t2 with
      | cons a3 t3 =>
        cases t3 with
        | cons a4 t4 =>
          cases t4
          cases (show _ = Value.int .i64 1 from a1)
          cases conF_det a2 (cellG_ok hs hF hrow (by decide) rfl)
          cases (show _ = Value.int .i64 7 from a3)
          cases (show _ = Value.int .i64 (ρ.i (.v 2)) from a4)
          rw [List.drop_zero, List.take_of_length_le (l := l.drop (k + 1)) (by rw [List.length_drop]; exact Nat.le_refl _)]
end
theorem factsQ_ok {l : List (Int × Int)} {wd : List (List DV)} {p m : Int} {z : Nat → Option Obj} (hw : wd = []) (hpw : l.Pairwise (fun x y => x.1 < y.1)) (hb : ∀ x ∈ l, 0 ≤ x.1 ∧ x.1 ≤ 6 ∧ 1 ≤ x.2 ∧ x.2 ≤ 2) (p0 : 0 ≤ p) (p1 : p ≤ 6) (m0 : 1 ≤ m) (m1 : m ≤ 2) {k kind : Nat}
    (h2 : ∀ i x, i < k → l[i]? = some x → x.1 < p) (h3 : ∀ x, l[k]? = some x → if 0 < kind then x.1 = p else p < x.1) (h4 : ∀ i x, k < i → l[i]? = some x → p < x.1) (h5 : kind = 1 → ∃ o, l[k]? = some (p, o) ∧ m ≤ o) (h6 : kind = 2 → ∃ o, l[k]? = some (p, o) ∧ o < m) : ∀ f ∈ factsQ l.length k kind, f.holds QR (vb (bH (ofL l) wd p m) gIf z) := by
  have hs := vb_std (bH (ofL l) wd p m) gIf z
  have hq : (vb (bH (ofL l) wd p m) gIf z).d (.v 0) = ofL l := rfl
  refine facts_cons (f := .pr 11 [.v 0, .num 7]) (show HV (ofL l) 7 from ⟨by decide, l, rfl, hpw, fun x hx => by have := hb x hx; omega⟩) ?_
  refine facts_cons (f := .rng (.v 1) 0 6) ⟨p0, p1⟩ (facts_cons (f := .rng (.v 2) 1 2) ⟨m0, m1⟩ (facts_cons (f := .rng (.f1 5 (.v 3)) 0 0) (show (0 : Int) ≤ ((wd.length : Nat) : Int) ∧ ((wd.length : Nat) : Int) ≤ 0 by rw [hw]; exact ⟨Int.le_refl _, Int.le_refl _⟩) (facts_app ?_ (facts_app (fRel_ok (p := .v 1) hs hq (fun x hx => ⟨(hb x hx).1, (hb x hx).2.1⟩) p0 p1 h2 h3 h4 _ (Nat.le_refl _)) (factsH_ok hs hq hb (by decide) hpw)))))
  unfold fMode
  by_cases e1 : kind = 1
  · obtain ⟨o, ho, hm⟩ := h5 e1
    have hv := (cQ_val hs hq ho).2.2.2
    have hbo := hb _ (List.mem_of_getElem? ho)
    subst e1
    refine facts_cons (f := .dif (cQ (.v 0) k 3) (.v 2) 0 1) (show (0 : Int) ≤ (vb (bH (ofL l) wd p m) gIf z).i (cQ (.v 0) k 3) - m ∧ (vb (bH (ofL l) wd p m) gIf z).i (cQ (.v 0) k 3) - m ≤ 1 from ?_) facts_nil
    rw [hv]
    simp only at hbo ⊢
    omega
  · by_cases e2 : kind = 2
    · obtain ⟨o, ho, hm⟩ := h6 e2
      have hv := (cQ_val hs hq ho).2.2.2
      have hbo := hb _ (List.mem_of_getElem? ho)
      subst e2
      refine facts_cons (f := .dif (cQ (.v 0) k 3) (.v 2) (-1) (-1)) (show (-1 : Int) ≤ (vb (bH (ofL l) wd p m) gIf z).i (cQ (.v 0) k 3) - m ∧ (vb (bH (ofL l) wd p m) gIf z).i (cQ (.v 0) k 3) - m ≤ -1 from ?_) facts_nil
      rw [hv]
      simp only at hbo ⊢
      omega
    · have b1 : Nat.beq kind 1 = false := by
        cases hb : Nat.beq kind 1 with
        | true => exact absurd (Nat.eq_of_beq_eq_true hb) e1
        | false => rfl
      have b2 : Nat.beq kind 2 = false := by
        cases hb : Nat.beq kind 2 with
        | true => exact absurd (Nat.eq_of_beq_eq_true hb) e2
        | false => rfl
      rw [b1, b2]
      exact facts_nil
def RqPost (ρ : Vn) (φ : Emb) (h : Hp) (w : World) (l : List (Int × Int)) (p m : Int) (e : Ending) (w' : World) : Prop := ∃ v1 v2 φ', e = .returned (.tuple #[.agg #[v1, v2], .bool true, .int .i64 0]) ∧ SlD φ'.z shG (ofL (insL l p m)) v1 ∧ SlD φ'.z shG [] v2 ∧ Stp ρ φ h w φ' h w'
theorem req_one {ρ : Vn} {φ : Emb} {h : Hp} {w : World} (hr : Rel ρ φ h w) {l : List (Int × Int)} {wd : List (List DV)} {p m : Int} {k kind : Nat} {hc wc : AC} {u1 u2 : Value} (hw : wd = []) (hF : ∀ f ∈ factsQ l.length k kind, f.holds QR (vb (bH (ofL l) wd p m) gIf φ.z)) (hk : k ≤ l.length)
    (x1 : VC (vb (bH (ofL l) wd p m) gIf φ.z) (Emb.nil φ.z) hc u1) (x2 : VC (vb (bH (ofL l) wd p m) gIf φ.z) (Emb.nil φ.z) wc u2) (hrun : runR hc wc l.length k kind = true)
    (h0 : kind = 0 → insL l p m = l.take k ++ (p, m) :: l.drop k) (h1 : kind = 1 → insL l p m = l) (h2 : kind = 2 → ∃ x, l[k]? = some x ∧ insL l p m = l.take k ++ (x.1, m) :: l.drop (k + 1)) (h3 : kind ≤ 2) :
    Calls Tryz.prog 71 #[.agg #[u1, u2], .agg #[.int .i64 1, .int .i64 p, .int .i64 7, .int .i64 m]] w (RqPost ρ φ h w l p m) := by
  have hs := vb_std (bH (ofL l) wd p m) gIf φ.z
  obtain ⟨hc', wc', hh, hres, hcase⟩ := reqOk_ok hrun
  refine (((eval_ok (tblR_ok (factsQ l.length k kind)) mixedS (nat_lit 300)) ⟨.x0, .x4, .x7⟩ [.a [hc, wc], gReq] hp0 _ hh hres).2 (vb (bH (ofL l) wd p m) gIf φ.z) (Emb.nil φ.z) w [.agg #[u1, u2], .agg #[.int .i64 1, .int .i64 p, .int .i64 7, .int .i64 m]] (envR_ok hF) (rel0 _ w fun b x hb => (hr.frz.at_ b x hb).1)
    (.cons ⟨_, rfl, .cons x1 (.cons x2 .nil)⟩ (.cons ⟨_, rfl, .cons rfl (.cons rfl (.cons rfl (.cons rfl .nil)))⟩ .nil))).mono ?_
  rintro e w' ⟨u, φ1, rfl, ⟨vs, rfl, hvs⟩, S⟩
  cases hvs with
  | cons q1 q2 =>
    cases q2 with
    | cons q2 q3 =>
      cases q3 with
      | cons q3 q4 =>
        cases q4
        cases (show _ = Value.bool true from q2)
        cases (show _ = Value.int .i64 0 from q3)
        obtain ⟨xs, rfl, hx⟩ := q1
        cases hx with
        | @cons _ v1 _ _ y1 t1 =>
          cases t1 with
          | @cons _ v2 _ _ y2 t2 =>
            cases t2
            have zd : ∀ c y, φ1.z c = some y → φ.z c = some y ∨ (w.heap.size ≤ c ∧ w'.heap[c]? = some y) := fun c y hc => by
              rcases S.zdom c y hc with h | h | ⟨id, _, hi, _⟩
              · exact .inl h
              · exact .inr ⟨h, (S.rel.frz.at_ c y hc).1⟩
              · rw [hp0_get] at hi; cases hi
            rcases hcase with ⟨rfl, rfl, rfl⟩ | ⟨hk1, id, lb, es, id2, off2, lb2, es2, rfl, rfl, hget⟩
            · refine ⟨v1, v2, _, rfl, ?_, ?_, Stp.lift hr S φ1.z S.le.z zd⟩
              · rw [h1 rfl]; exact y1
              · rw [← hw]; exact y2
            · obtain ⟨b, base, tot, cap, k1, rfl, k3, k4, k5⟩ := y1
              obtain ⟨b', base', arr, T, j1, j2, j3⟩ := S.rel.cells id _ hget
              rw [k1] at j1
              cases j1
              have hb : w.heap.size ≤ b := by
                by_cases hlt : b < w.heap.size
                · obtain ⟨id0, x0, hi, _⟩ := S.sub id _ (by rw [hget]; rfl) k1 hlt
                  rw [hp0_get] at hi; cases hi
                · omega
              obtain ⟨b2, base2, tot2, cap2, m1, rfl, m3, m4, m5⟩ := y2
              have hlen := expR_len (factsQ l.length k kind) hk (fun e => by obtain ⟨x, hx, _⟩ := h2 e; exact (List.getElem?_eq_some_iff.1 hx).1)
              obtain ⟨n, hn⟩ : ∃ n, n = (if kind = 2 then l.length else l.length + 1) := ⟨_, rfl⟩
              rw [← hn] at hlen k3
              have hall : All2 (VC (vb (bH (ofL l) wd p m) gIf φ.z) φ1) (expR (factsQ l.length k kind) l.length k kind) ((arr.toList.drop base).take (n * 4)) := by
                refine all2_at ?_ fun o x ho => ?_
                · have := j3.1
                  have e1 : ((arr.toList.drop base).take (n * 4)).length = min (n * 4) (arr.size - base) := by simp
                  rw [e1, hlen]
                  rw [hlen] at this
                  omega
                · obtain ⟨v, e1, e2⟩ := j3.2 o x ho
                  have := (List.getElem?_eq_some_iff.1 ho).1
                  rw [hlen] at this
                  exact ⟨v, by rw [List.getElem?_take_of_lt this, List.getElem?_drop, Array.getElem?_toList]; exact e1, e2⟩
              have hval : (arr.toList.drop base).take (n * 4) = gv (insL l p m) ∧ n = (insL l p m).length := by
                by_cases e2 : kind = 2
                · subst e2
                  obtain ⟨x, hx, hins⟩ := h2 rfl
                  have hlt := (List.getElem?_eq_some_iff.1 hx).1
                  rw [hins]
                  refine ⟨exp2 hs hF rfl hx hall, ?_⟩
                  rw [hn, if_pos rfl]
                  simp only [List.length_append, List.length_take, List.length_cons, List.length_drop]
                  omega
                · have e0 : kind = 0 := by omega
                  subst e0
                  rw [h0 rfl]
                  refine ⟨exp0 hs hF rfl hk hall, ?_⟩
                  rw [hn, if_neg e2]
                  simp only [List.length_append, List.length_take, List.length_cons, List.length_drop]
                  omega
              have hne : ∀ c y, φ.z c = some y → c ≠ b := fun c y hc e => by
                have := (Array.getElem?_eq_some_iff.1 (hr.frz.at_ c y hc).1).1
                omega
              refine ⟨_, _, ⟨φ.m, fun c => if c = b then some (.cells arr T (0, 0)) else φ1.z c⟩, rfl, ?_, ⟨_, cap2, rfl, Nat.zero_le _, .inl rfl⟩, Stp.lift hr S _ (fun c y hc => ?_) (fun c y hc => ?_)⟩
              · rw [← hn]
                refine ⟨_, cap, by rw [ofL_len, ← hval.2], by rw [ofL_len, ← hval.2]; omega, .inr ⟨b, base + 0, arr, T, (0, 0), rfl, if_pos rfl, fun i row hrow => ?_⟩⟩
                have hi : i < (insL l p m).length := by
                  have := (List.getElem?_eq_some_iff.1 hrow).1
                  rw [ofL_len] at this
                  exact this
                have hR := gv_row (fun c => if c = b then some (.cells arr T (0, 0)) else φ1.z c) hrow
                rw [← hval.1, List.drop_take, List.take_take, List.drop_drop, Nat.min_eq_left (by rw [hval.2]; omega)] at hR
                exact hR
              · show (if c = b then _ else φ1.z c) = some y
                rw [if_neg (hne c y hc)]
                exact S.le.z c y hc
              · have hc' : (if c = b then some (Obj.cells arr T (0, 0)) else φ1.z c) = some y := hc
                split at hc'
                · rename_i e
                  subst e
                  cases hc'
                  exact .inr ⟨hb, j2⟩
                · exact zd c y hc'
theorem req_all {ρ : Vn} {φ : Emb} {h : Hp} {w : World} (hr : Rel ρ φ h w) {l : List (Int × Int)} {wd : List (List DV)} {p m : Int} {hc wc : AC} {u1 u2 : Value} (hw : wd = []) (hpw : l.Pairwise (fun x y => x.1 < y.1)) (hb : ∀ x ∈ l, 0 ≤ x.1 ∧ x.1 ≤ 6 ∧ 1 ≤ x.2 ∧ x.2 ≤ 2) (p0 : 0 ≤ p) (p1 : p ≤ 6) (m0 : 1 ≤ m) (m1 : m ≤ 2)
    (x1 : VC (vb (bH (ofL l) wd p m) gIf φ.z) (Emb.nil φ.z) hc u1) (x2 : VC (vb (bH (ofL l) wd p m) gIf φ.z) (Emb.nil φ.z) wc u2) (hrun : ∀ k, k ≤ l.length → runR hc wc l.length k 0 = true ∧ (k < l.length → runR hc wc l.length k 1 = true ∧ runR hc wc l.length k 2 = true)) :
    Calls Tryz.prog 71 #[.agg #[u1, u2], .agg #[.int .i64 1, .int .i64 p, .int .i64 7, .int .i64 m]] w (RqPost ρ φ h w l p m) := by
  obtain ⟨k, hk, a1, a2, a3⟩ := place_at l p hpw
  have hF := fun (kind : Nat) (h3 : ∀ x, l[k]? = some x → if 0 < kind then x.1 = p else p < x.1) (h5 : kind = 1 → ∃ o, l[k]? = some (p, o) ∧ m ≤ o) (h6 : kind = 2 → ∃ o, l[k]? = some (p, o) ∧ o < m) => factsQ_ok (z := φ.z) hw hpw hb p0 p1 m0 m1 (k := k) a1 h3 a3 h5 h6
  have new : (∀ x, l[k]? = some x → p < x.1) → Calls Tryz.prog 71 #[.agg #[u1, u2], .agg #[.int .i64 1, .int .i64 p, .int .i64 7, .int .i64 m]] w (RqPost ρ φ h w l p m) := fun hx =>
    req_one hr hw (hF 0 (fun x h => by rw [if_neg (by decide)]; exact hx x h) (fun e => by cases e) (fun e => by cases e)) hk x1 x2 (hrun k hk).1 (fun _ => ins_new hk a1 hx) (fun e => by cases e) (fun e => by cases e) (by decide)
  cases hq : l[k]? with
  | none => exact new fun x hx => by rw [hq] at hx; cases hx
  | some x =>
    have hlt := (List.getElem?_eq_some_iff.1 hq).1
    have hx := a2 k x (Nat.le_refl _) hq
    by_cases e : x.1 = p
    · have hq2 : l[k]? = some (p, x.2) := by rw [hq, ← e]
      have h3 : ∀ kind, 0 < kind → ∀ y, l[k]? = some y → if 0 < kind then y.1 = p else p < y.1 := fun kind hk y hy => by rw [if_pos hk]; rw [hq] at hy; cases hy; exact e
      by_cases hm : m ≤ x.2
      · refine req_one hr hw (hF 1 (h3 1 (by decide)) (fun _ => ⟨x.2, hq2, hm⟩) (fun e => by cases e)) hk x1 x2 ((hrun k hk).2 hlt).1 (fun e => by cases e) (fun _ => ?_) (fun e => by cases e) (by decide)
        rw [ins_old a1 hq2, Int.max_eq_left hm]
        exact take_cons_drop hq2
      · refine req_one hr hw (hF 2 (h3 2 (by decide)) (fun e => by cases e) (fun _ => ⟨x.2, hq2, by omega⟩)) hk x1 x2 ((hrun k hk).2 hlt).2 (fun e => by cases e) (fun e => by cases e) (fun _ => ⟨x, hq, ?_⟩) (by decide)
        rw [ins_old a1 hq2, Int.max_eq_right (by omega), e]
    · exact new fun y hy => by rw [hq] at hy; cases hy; omega
def resQ (q p m : Nm) : AV := .t [.a [.ds shG (.f2 3200 q (.f2 2002 p m)), .ds shG nmNil], .c (.b true), .c (.i .i64 (.ofNat 0))]
def natRq (F : List Fc) : List AV → Option AV
  | [.a [hc, wc], .a [t, pg, s, md]] => match nmI pg, nmI md with
    | some p, some m => bif (decide (t = .i .i64 (.ofNat 1)) && decide (s = .i .i64 (.ofNat 7))) && (numIn F pg 0 6 && numIn F md 1 2) then (match hc, wc with
      | .ds e q, .ds e' wq => bif (decide (e = shG) && decide (e' = shG)) && ((fdH F q).isSome && zero? F wq) then some (resQ q p.2 m.2) else none
      | .sn, .sn => some (resQ nmNil p.2 m.2)
      | _, _ => none) else none
    | _, _ => none
  | _ => none
theorem natRq_ok (F : List Fc) : NatOk Tryz.prog (envR F) 71 (natRq F) := by
  intro vs v hv ρ φ h w us he hr hu
  have hp := envR_prop he
  unfold natRq at hv
  split at hv
  · rename_i hc wc t pg s md
    split at hv
    · rename_i p m hpn hmn
      cases hb : ((decide (t = .i .i64 (.ofNat 1)) && decide (s = .i .i64 (.ofNat 7))) && (numIn F pg 0 6 && numIn F md 1 2)) with
      | false => rw [hb] at hv; cases hv
      | true =>
        rw [hb, cond_true] at hv
        rw [Bool.and_eq_true, Bool.and_eq_true, Bool.and_eq_true, decide_eq_true_eq, decide_eq_true_eq] at hb
        obtain ⟨⟨rfl, rfl⟩, b3, b4⟩ := hb
        cases hu with
        | cons a1 t1 =>
          cases t1 with
          | cons a2 t2 =>
            cases t2
            obtain ⟨xs, rfl, hx⟩ := a1
            obtain ⟨ys, rfl, hy⟩ := a2
            cases hy with
            | cons y1 t3 =>
              cases t3 with
              | cons y2 t4 =>
                cases t4 with
                | cons y3 t5 =>
                  cases t5 with
                  | cons y4 t6 =>
                    cases t6
                    cases (show _ = Value.int .i64 1 from y1)
                    cases (show _ = Value.int .i64 7 from y3)
                    obtain ⟨p', rfl, p0, p1⟩ := numIn_ok hp.1 hp.2 b3 y2
                    obtain ⟨m', rfl, m0, m1⟩ := numIn_ok hp.1 hp.2 b4 y4
                    have ep : p' = ρ.i p.2 := by
                      have := nmI_ok hp.1.toStdA hpn y2
                      injection this
                    have em : m' = ρ.i m.2 := by
                      have := nmI_ok hp.1.toStdA hmn y4
                      injection this
                    have fin : ∀ {q : Nm} {l : List (Int × Int)} {e : Ending} {w' : World}, ρ.d q = ofL l → RqPost ρ φ h w l p' m' e w' → ∃ u φ', e = .returned u ∧ VV ρ φ' (resQ q p.2 m.2) u ∧ Stp ρ φ h w φ' h w' := fun {q l e w'} hq ⟨v1, v2, φ', e1, e2, e3, e4⟩ => by
                      refine ⟨_, φ', e1, ⟨[_, _, _], rfl, .cons ⟨[_, _], rfl, .cons ?_ (.cons ?_ .nil)⟩ (.cons rfl (.cons rfl .nil))⟩, e4⟩
                      · show SlD φ'.z shG (ρ.d (.f2 3200 q (.f2 2002 p.2 m.2))) v1
                        rw [(envR_pp he).ins, hq, ← ep, ← em]
                        unfold insD
                        rw [toL_ofL, Int.toNat_of_nonneg (by omega)]
                        exact e2
                      · show SlD φ'.z shG (ρ.d nmNil) v2
                        rw [hp.1.nil]
                        exact e3
                    split at hv
                    · rename_i e q e' wq
                      cases hb : ((decide (e = shG) && decide (e' = shG)) && ((fdH F q).isSome && zero? F wq)) with
                      | false => rw [hb] at hv; cases hv
                      | true =>
                        rw [hb] at hv
                        cases hv
                        rw [Bool.and_eq_true, Bool.and_eq_true, Bool.and_eq_true, decide_eq_true_eq, decide_eq_true_eq] at hb
                        obtain ⟨⟨rfl, rfl⟩, c3, c4⟩ := hb
                        obtain ⟨mm, hm⟩ := Option.isSome_iff_exists.1 c3
                        obtain ⟨l, hd, hpw, _, hbd, hlen⟩ := (fdH_ok hp.2 hm).list
                        have hw := zero?_ok hp.1 hp.2 c4
                        cases hx with
                        | cons x1 t2 =>
                          cases t2 with
                          | cons x2 t3 =>
                            cases t3
                            have x1' : SlD φ.z shG (ρ.d q) _ := x1
                            rw [hd] at x1'
                            exact (req_all hr (wd := ρ.d wq) hw hpw hbd p0 p1 m0 m1 (hc := .ds shG (.v 0)) (wc := .ds shG (.v 3)) x1' x2 (fun k hk => runR_at _ hlen k hk)).mono fun e w' he => fin hd he
                    · cases hv
                      cases hx with
                      | cons x1 t2 =>
                        cases t2 with
                        | cons x2 t3 =>
                          cases t3
                          exact (req_all hr (l := []) (wd := []) rfl .nil (fun x hx => (nomatch hx)) p0 p1 m0 m1 (hc := .sn) (wc := .sn) x1 x2 (fun k hk => by
                            have : k = 0 := by simpa using hk
                            subst this
                            exact ⟨runR0, fun h => absurd h (by decide)⟩)).mono fun e w' he => fin (q := nmNil) (by rw [hp.1.nil]; rfl) he
                    · cases hv
    · cases hv
  · cases hv
end Go.Proofs.YtjnfgapfhpihmaaGreat
end
