/-
  RollbackSaves: the second half of the walk: the undone steps, and the whole law (printed by a program).
-/
import Derived.Test.YtnofmmceafkkoaaGreatRsW
set_option linter.unusedVariables false
set_option linter.unusedSimpArgs false
set_option maxRecDepth 100000
namespace Go.Proofs.YtnofmmceafkkoaaGreat
open Go.RowKit
section
variable {w0 : World} {N : Nat} {g : Nm → Value} {z : Nat → Option Obj} {b : Nat → MV} {k p n0 : Nat} {d50 d51 : List (List DV)} {w : Nat → Cel} {H : List Wr}
theorem iot_i {i : Nat} (hq : (b 1).d = iot p) (hi : i < p) {t : Nm} (ht : (vb b g z).i t = i) : (vb b g z).i (.f2 (100 + 0) (.v 1) t) = ((i + 1 : Nat) : Int) := by
  have h1 : ((vb b g z).d (.v 1))[i]? = some [DV.i ((i + 1 : Nat) : Int)] := (congrArg (fun x : List (List DV) => x[i]?) hq).trans (iot_get hi)
  exact ci_row h1 ht 0 (by decide) rfl
theorem lq_i (hq : (b 1).d = iot p) (c : Int) : (vb b g z).i (.f2 1000 (.f1 5 (.v 1)) (.num c)) = p + c := by
  show (((b 1).d.length : Nat) : Int) + c = _
  rw [hq, iot_len]
theorem lq0 (hq : (b 1).d = iot p) : (vb b g z).i (.f1 5 (.v 1)) = p := by
  show (((b 1).d.length : Nat) : Int) = _
  rw [hq, iot_len]
theorem pq_i (hq : (b 1).d = iot p) (hp : 1 ≤ p) : (vb b g z).i (.f2 (100 + 0) (.v 1) (.f2 1000 (.f1 5 (.v 1)) (.num (-1)))) = p := by
  obtain ⟨m, rfl⟩ : ∃ m, p = m + 1 := ⟨p - 1, by omega⟩
  exact iot_i hq (Nat.lt_succ_self m) (by rw [lq_i hq]; omega)
theorem fg4E1_ok (h : I3 d51 w k n0 H b) (hk : k ≠ 0) (hH : H = [] ∧ 1 ≤ n0) : ∀ f ∈ fg4E1, f.holds QR (vb b g z) := by
  have hp := h.kb.pn
  have hn := h.kb.n
  have h5 := h.sv
  have hz : (b 0).d.length ≠ 0 := fun e => hk (h.kb.k0.2 e)
  have h1 : 1 ≤ n0 + H.length := by omega
  have e1 := pq_i (g := g) (z := z) h.kb.q h1
  have e2 := lq0 (g := g) (z := z) h.kb.q
  exact facts_cons (by show (1 : Int) ≤ (vb b g z).i (.f1 5 (.v 1)) ∧ (vb b g z).i (.f1 5 (.v 1)) ≤ 900; rw [e2]; omega) (facts_cons (by show (1 : Int) ≤ (vb b g z).i (.f2 (100 + 0) (.v 1) (.f2 1000 (.f1 5 (.v 1)) (.num (-1)))) ∧ (vb b g z).i (.f2 (100 + 0) (.v 1) (.f2 1000 (.f1 5 (.v 1)) (.num (-1)))) ≤ 900; rw [e1]; omega)
    (facts_cons (by show (-900 : Int) ≤ (vb b g z).i (.f2 (100 + 0) (.v 1) (.f2 1000 (.f1 5 (.v 1)) (.num (-1)))) - (b 5).i ∧ (vb b g z).i (.f2 (100 + 0) (.v 1) (.f2 1000 (.f1 5 (.v 1)) (.num (-1)))) - (b 5).i ≤ 0; rw [e1, h5]; rw [hH.1]; show (-900 : Int) ≤ ((n0 + 0 : Nat) : Int) - n0 ∧ ((n0 + 0 : Nat) : Int) - n0 ≤ 0; omega) facts_nil))
theorem fg4H0_ok (h : I3 d51 w k n0 H b) (hk : k ≠ 0) (hH : 1 ≤ H.length) : ∀ f ∈ fg4H0, f.holds QR (vb b g z) := by
  have hp := h.kb.pn
  have hn := h.kb.n
  have h5 := h.sv
  have hz : (b 0).d.length ≠ 0 := fun e => hk (h.kb.k0.2 e)
  have h1 : 1 ≤ n0 + H.length := by omega
  have e1 := pq_i (g := g) (z := z) h.kb.q h1
  have e2 := lq0 (g := g) (z := z) h.kb.q
  exact facts_cons (by show (1 : Int) ≤ (vb b g z).i (.f1 5 (.v 1)) ∧ (vb b g z).i (.f1 5 (.v 1)) ≤ 900; rw [e2]; omega) (facts_cons (by show (1 : Int) ≤ (vb b g z).i (.f2 (100 + 0) (.v 1) (.f2 1000 (.f1 5 (.v 1)) (.num (-1)))) ∧ (vb b g z).i (.f2 (100 + 0) (.v 1) (.f2 1000 (.f1 5 (.v 1)) (.num (-1)))) ≤ 900; rw [e1]; omega)
    (facts_cons (by show (1 : Int) ≤ (vb b g z).i (.f2 (100 + 0) (.v 1) (.f2 1000 (.f1 5 (.v 1)) (.num (-1)))) - (b 5).i ∧ (vb b g z).i (.f2 (100 + 0) (.v 1) (.f2 1000 (.f1 5 (.v 1)) (.num (-1)))) - (b 5).i ≤ 900; rw [e1, h5]; omega) facts_nil))
theorem fg4H1_ok (h : I3 d51 w k n0 H b) (hk : k ≠ 0) (hH : 1 ≤ H.length) : ∀ f ∈ fg4H1, f.holds QR (vb b g z) := by
  have hp := h.kb.pn
  have hn := h.kb.n
  have h5 := h.sv
  have hz : (b 0).d.length ≠ 0 := fun e => hk (h.kb.k0.2 e)
  have h1 : 1 ≤ n0 + H.length := by omega
  have e1 := pq_i (g := g) (z := z) h.kb.q h1
  have e2 := lq0 (g := g) (z := z) h.kb.q
  exact facts_cons (by show (1 : Int) ≤ (vb b g z).i (.f1 5 (.v 1)) ∧ (vb b g z).i (.f1 5 (.v 1)) ≤ 900; rw [e2]; omega) (facts_cons (by show (1 : Int) ≤ (vb b g z).i (.f2 (100 + 0) (.v 1) (.f2 1000 (.f1 5 (.v 1)) (.num (-1)))) ∧ (vb b g z).i (.f2 (100 + 0) (.v 1) (.f2 1000 (.f1 5 (.v 1)) (.num (-1)))) ≤ 900; rw [e1]; omega)
    (facts_cons (by show (1 : Int) ≤ (vb b g z).i (.f2 (100 + 0) (.v 1) (.f2 1000 (.f1 5 (.v 1)) (.num (-1)))) - (b 5).i ∧ (vb b g z).i (.f2 (100 + 0) (.v 1) (.f2 1000 (.f1 5 (.v 1)) (.num (-1)))) - (b 5).i ≤ 900; rw [e1, h5]; omega) facts_nil))
theorem to5 {b' : Nat → MV} (h : I3L d51 w k n0 H b) (hH : H.length = d51.length) (hid : ∀ n, n ≠ 6 → b' n = b n) (h6 : (b' 6).i = 0) : I5 d51 w k n0 H b' := by
  have e : ∀ n, n ≠ 6 → b' n = b n := hid
  have hpc : ∀ i, pc k b' i = pc k b i := fun i => by unfold pc; rw [e _ (by omega), e _ (by omega)]
  refine ⟨⟨by rw [e 51 (by decide)]; exact h.s, h.k64, ⟨by rw [e 0 (by decide)]; exact h.kb.y, by rw [e 0 (by decide)]; exact h.kb.n, by rw [e 0 (by decide), e 2 (by decide)]; exact h.kb.la, by rw [e 0 (by decide), e 3 (by decide)]; exact h.kb.pl, by rw [e 4 (by decide)]; exact h.kb.du, by rw [e 1 (by decide)]; exact h.kb.q, by rw [e 0 (by decide)]; exact h.kb.pn, by rw [e 0 (by decide)]; exact h.kb.k0,
    fun hk i hi => by rw [e _ (by omega), e _ (by omega)]; exact h.kb.c hk i hi⟩, by rw [e 5 (by decide)]; exact h.sv, by rw [e 0 (by decide)]; exact h.rw, ?_, fun i hi => by rw [e _ (by omega), e _ (by omega)]; exact h.ws i hi, h.w4, h.w5, h.wv, h.sl⟩, by omega, by omega, by rw [e 0 (by decide), h6, h.yl]; omega, h.n20⟩
  obtain ⟨c, c1, c2⟩ := h.ch
  exact ⟨c, c1, fun i hi => by rw [hpc i]; exact c2 i hi⟩
theorem nb6 {r : Rn} (h : r.idEx [6] = true) : ∀ n, n ≠ 6 → nb b r n = b n := fun n hn => nb_id h (by simp [hn])
def st5 (k : Nat) (H : List Wr) : Lit := match H with
  | [] => st5a k
  | _ :: _ => st5b k
theorem part4 (h : I3L d51 w k n0 H b) (hH : H.length = d51.length) {Post : Exit → Act → World → Prop} (hrest : ∀ b', I5 d51 w k n0 H b' → Tri Tryz.prog N lw5 (At w0 N (vb b' g z) (st5 k H)) Post) : Tri Tryz.prog N lw4 (At w0 N (vb b g z) (st4 k)) Post := by
  have hp := h.kb.pn
  have hyl := h.yl
  by_cases hk : k = 0
  · subst hk
    have e0 := h.kb.k0.1 rfl
    have hH0 : H = [] := List.eq_nil_of_length_eq_zero (by omega)
    subst hH0
    have hr := ru4_0
    unfold run4E0 at hr
    exact Tri.pre_run (codeM _ _) (envR_ok (facts_app (fb6_ok h.kb) (fS0_ok h.toI3 (by omega)))) cutL4 hr (ren_nb (by decide)) (hrest _ (to5 h hH (nb6 (by decide)) rfl))
  · have hz : (b 0).d.length ≠ 0 := fun e => hk (h.kb.k0.2 e)
    have ht := RU4 k h.k64 hk
    rw [Bool.and_eq_true, Bool.and_eq_true] at ht
    obtain ⟨hE, h0, h1⟩ := ht
    unfold run4E1 at hE
    unfold run4H0 at h0
    unfold run4H1 at h1
    cases H with
    | nil => exact Tri.pre_run (codeM _ _) (envR_ok (facts_app (fg4E1_ok h.toI3 hk ⟨rfl, by have : ([] : List Wr).length = 0 := rfl; omega⟩) (facts_app (fb6_ok h.kb) (fS1_ok h.toI3 (by have : ([] : List Wr).length = 0 := rfl; omega))))) cutL4 hE (ren_nb (by decide)) (hrest _ (to5 h hH (nb6 (by decide)) rfl))
    | cons x H =>
      have hl1 : 1 ≤ (x :: H).length := by simp
      by_cases hn : n0 = 0
      · exact Tri.pre_run (codeM _ _) (envR_ok (facts_app (fg4H0_ok h.toI3 hk hl1) (facts_app (fb6_ok h.kb) (fS0_ok h.toI3 hn)))) cutL4 h0 (ren_nb (by decide)) (hrest _ (to5 h hH (nb6 (by decide)) rfl))
      · exact Tri.pre_run (codeM _ _) (envR_ok (facts_app (fg4H1_ok h.toI3 hk hl1) (facts_app (fb6_ok h.kb) (fS1_ok h.toI3 (by omega))))) cutL4 h1 (ren_nb (by decide)) (hrest _ (to5 h hH (nb6 (by decide)) rfl))
theorem fN6_ok (h : I5 d51 w k n0 H b) (hl : d51.length ≤ 20) : ∀ f ∈ fN6, f.holds QR (vb b g z) := by
  have h6 := h.n6
  have h0 := h.n60
  have hf : (((b 51).d.length : Nat) : Int) = d51.length := by rw [h.s]
  exact facts_cons ⟨(by show (0 : Int) ≤ (b 6).i; omega), (by show (b 6).i ≤ 20; omega)⟩ (facts_cons ⟨(by show (0 : Int) ≤ (((b 51).d.length : Nat) : Int); omega), (by show (((b 51).d.length : Nat) : Int) ≤ 20; omega)⟩ (facts_cons ⟨(by show (-20 : Int) ≤ (b 6).i - (((b 51).d.length : Nat) : Int); omega), (by show (b 6).i - (((b 51).d.length : Nat) : Int) ≤ 0; omega)⟩ facts_nil))
structure Lst (b : Nat → MV) (g : Nm → Value) (z : Nat → Option Obj) (t u lq : Nm) (p L : Nat) (ptx pp : Int) (s : Nat) (bf af : Cel) : Prop where
  t : (vb b g z).i t = p
  c0 : (vb b g z).i (.f2 (100 + 0) (.v 0) u) = p
  c6 : (vb b g z).i (.f2 (100 + 6) (.v 0) u) = 0
  c7 : (vb b g z).i (.f2 (100 + 7) (.v 0) u) = s
  c8 : (vb b g z).b (.f2 (100 + 8) (.v 0) u) = bf.1
  c9 : (vb b g z).s (.f2 (100 + 9) (.v 0) u) = bf.2
  c10 : (vb b g z).b (.f2 (100 + 10) (.v 0) u) = af.1
  c11 : (vb b g z).s (.f2 (100 + 11) (.v 0) u) = af.2
  okb : VCell bf.1 bf.2
  oka : VCell af.1 af.2
  at_ : IsAt (b 1).d p ((vb b g z).i lq)
theorem lst_of {x : Wr} (h : I3 d51 w k n0 (H ++ [x]) b) {t lq : Nm} (ht : (vb b g z).i t = ((n0 + H.length + 1 : Nat) : Int)) (hlq : (vb b g z).i lq = ((n0 + H.length : Nat) : Int)) : ∃ ptx pp, Lst b g z t (.f2 1000 t (.num (-1))) lq (n0 + H.length + 1) (b 0).d.length ptx pp x.1 x.2.1 x.2.2 := by
  have hx : (H ++ [x])[H.length]? = some x := by rw [List.getElem?_append_right (Nat.le_refl _), Nat.sub_self]; rfl
  obtain ⟨ptx, pp, hrow⟩ := h.rw H.length x hx
  have hp := h.kb.pn
  have hlen : (H ++ [x]).length = H.length + 1 := by simp
  rw [hlen] at hp
  have hi : (vb b g z).i (.f2 1000 t (.num (-1))) = ((n0 + H.length : Nat) : Int) := by
    rw [(vb_std b g z).ex, ht, (vb_std b g z).num]; omega
  have hy : ((vb b g z).d (.v 0))[n0 + H.length]? = some _ := hrow
  obtain ⟨kind, tx, ptx', pp', ref, pg, sl, bs, bd, az, ad, er, _, _, _, _, _, _, _, _, hk⟩ := h.kb.y.2 _ _ hrow
  have hv : VCell x.2.1.1 x.2.1.2 ∧ VCell x.2.2.1 x.2.2.2 := by
    simp only [enR, List.cons.injEq, DV.i.injEq, DV.b.injEq, DV.s.injEq, true_and, and_true] at er
    obtain ⟨rfl, rfl, rfl, rfl, rfl, rfl, rfl, e1, e2, e3, e4⟩ := er
    rw [e1, e2, e3, e4]
    rcases hk with ⟨_, _, c⟩ | ⟨_, _, _, c⟩ | ⟨q, _⟩
    · exact ⟨c.2.2.2.2.1, c.2.2.2.2.2⟩
    · exact ⟨c.2.2.2.2.1, c.2.2.2.2.2⟩
    · rcases q with q | q | q <;> cases q
  refine ⟨ptx, pp, ⟨ht, ci_row hy hi 0 (by decide) rfl, ci_row hy hi 6 (by decide) rfl, ci_row hy hi 7 (by decide) rfl, cb_row hy hi 8 (by decide) rfl, cs_row hy hi 9 (by decide) rfl, cb_row hy hi 10 (by decide) rfl, cs_row hy hi 11 (by decide) rfl, hv.1, hv.2, ?_⟩⟩
  rw [hlq]
  refine ⟨Int.natCast_nonneg _, ?_, _, h.kb.asc⟩
  rw [h.kb.q, hlen, show ((((n0 + H.length : Nat) : Int)).toNat) = n0 + H.length from rfl, iot_get (by omega)]
theorem I5.next {x : Wr} {s : Nat} {b' : Nat → MV} (h : I5 d51 w k n0 (H ++ [x]) b) (hl : d51.length ≤ 20) (hs : s = x.1) (hk : k ≠ 0) (hv : VCell x.2.1.1 x.2.1.2) (hva : VCell x.2.2.1 x.2.2.2)
    (hy : (b' 0).d = (b 0).d ++ [enR (((b 0).d.length : Int) + 1) 2 1 (b 2).i (b 3).i ((n0 + H.length + 1 : Nat) : Int) 0 s x.2.2.1 x.2.2.2 x.2.1.1 x.2.1.2]) (hq : (b' 1).d = (b 1).d.eraseIdx (n0 + H.length)) (h2 : (b' 2).i = ((b 0).d.length : Int) + 1) (h3 : (b' 3).i = ((b 0).d.length : Int) + 1) (h4 : (b' 4).i = (b 4).i) (h5 : (b' 5).i = (b 5).i) (h6 : (b' 6).i = (b 6).i + 1) (h51 : (b' 51).d = (b 51).d)
    (hw : ∀ i, i < 4 → ((b' (60 + 2 * i)).b, (b' (61 + 2 * i)).s) = ((b (60 + 2 * i)).b, (b (61 + 2 * i)).s)) (hc : ∀ i, i < 6 → pc k b' i = updC (pc k b) s x.2.1 i) : I5 d51 w k n0 H b' := by
  subst hs
  have hlen : (H ++ [x]).length = H.length + 1 := by simp
  have hp := h.kb.pn
  have hla := h.kb.la
  have hpl := h.kb.pl hk
  have hyl := h.yl
  have h20 := h.n20
  have h60 := h.n60
  have h66 := h.n6
  rw [hlen] at hp h66
  have e1 : (b' 0).d.length = (b 0).d.length + 1 := by rw [hy]; simp
  obtain ⟨c, c1, c2⟩ := h.ch
  obtain ⟨c0, k1, k2, k3⟩ := c1.last
  have hsx := (h.sl x (by simp)).1
  have hpc : ∀ i, i < 6 → pc k b' i = c0 i := fun i hi => by
    rw [hc i hi]
    unfold updC
    split
    · rename_i e; rw [e, k2]
    · rename_i e
      rw [c2 i hi, k3]
      unfold updC
      rw [if_neg e]
  refine ⟨⟨by rw [h51, h.s], h.k64, ⟨?_, by omega, by rw [h2, e1]; rfl, fun _ => by rw [h3, e1]; rfl, by rw [h4, h.kb.du], ?_, by omega, ⟨fun e => absurd e hk, fun e => by omega⟩, fun hk' i hi => ?_⟩, by rw [h5, h.sv], ?_, ⟨c0, k1, hpc⟩, fun i hi => by rw [hw i hi, h.ws i hi], h.w4, h.w5, h.wv, fun y hy => h.sl y (by simp [hy])⟩, by omega, by omega, by rw [e1, h6]; omega, h20⟩
  · rw [hy]
    exact h.kb.y.push (by omega) (en_ok (by omega) (.inr ⟨rfl, by omega, by omega⟩) (by omega) (by omega) (by omega) (by omega) (by omega) hva hv)
  · rw [hq, h.kb.q, hlen]
    exact iot_del _
  · have e2 := hc i hi
    unfold pc at e2
    rw [if_neg hk] at e2
    have e3 : (b' (20 + 2 * i)).b = (updC (pc k b) x.1 x.2.1 i).1 := congrArg Prod.fst e2
    have e4 : (b' (21 + 2 * i)).s = (updC (pc k b) x.1 x.2.1 i).2 := congrArg Prod.snd e2
    unfold pc at e3 e4
    rw [e3, e4]
    unfold updC
    split
    · exact hv
    · exact h.kb.c hk i hi
  · rw [hy]
    exact (h.rw.take).push (by omega) _
theorem rg {x q lo hi : Int} (h : x = q) (k : lo ≤ q ∧ q ≤ hi) : lo ≤ x ∧ x ≤ hi := by rw [h]; exact k
theorem df {x y q lo hi : Int} (h : x = q) (k : lo ≤ q - y ∧ q - y ≤ hi) : lo ≤ x - y ∧ x - y ≤ hi := by rw [h]; exact k
theorem d0 {x y q : Int} (h : x = q) (k : y = q) : (0 : Int) ≤ x - y ∧ x - y ≤ 0 := by omega
theorem pre5_ok {lo hi : Int} {t u lq : Nm} {m L s : Nat} {ptx pp : Int} {bf af : Cel} (h : Lst b g z t u lq m L ptx pp s bf af) (h0 : lo ≤ (vb b g z).i (.f1 5 (.v 1)) ∧ (vb b g z).i (.f1 5 (.v 1)) ≤ hi) (h1 : (1 : Int) ≤ (m : Int) ∧ (m : Int) ≤ 900)
    (h2 : (1 : Int) ≤ (m : Int) - (b 5).i ∧ (m : Int) - (b 5).i ≤ 900) (h3 : (-900 : Int) ≤ (m : Int) - (((b 0).d.length : Nat) : Int) ∧ (m : Int) - (((b 0).d.length : Nat) : Int) ≤ 0) (h4 : (-900 : Int) ≤ (m : Int) - (b 2).i ∧ (m : Int) - (b 2).i ≤ 0) : ∀ f ∈ pre5 lo hi t u lq s, f.holds QR (vb b g z) :=
  facts_cons h0 (facts_cons (rg h.t h1) (facts_cons (df h.t h2) (facts_cons (df h.t h3) (facts_cons (df h.t h4) (facts_cons (rg h.c0 h1) (facts_cons (d0 h.c0 h.t) (facts_cons (df h.c0 h4) (facts_cons (df h.c0 h3) (facts_cons (rg h.c6 ⟨Int.le_refl 0, Int.le_refl 0⟩) (facts_cons (rg h.c7 ⟨Int.le_refl _, Int.le_refl _⟩)
    (facts_cons (show VCell ((vb b g z).b (.f2 (100 + 8) (.v 0) u)) ((vb b g z).s (.f2 (100 + 9) (.v 0) u)) from by rw [h.c8, h.c9]; exact h.okb) (facts_cons (show VCell ((vb b g z).b (.f2 (100 + 10) (.v 0) u)) ((vb b g z).s (.f2 (100 + 11) (.v 0) u)) from by rw [h.c10, h.c11]; exact h.oka)
    (facts_cons (show IsAt (b 1).d ((vb b g z).i (.f2 (100 + 0) (.v 0) u)) ((vb b g z).i lq) from by rw [h.c0]; exact h.at_) facts_nil)))))))))))))
theorem sub5_ok {u : Nm} {s : Nat} {t lq : Nm} {m L : Nat} {ptx pp : Int} {bf af : Cel} (h : Lst b g z t u lq m L ptx pp s bf af) (hcs : ((b (20 + 2 * s)).b, (b (21 + 2 * s)).s) = af) : ∀ y ∈ [((.sb (.v (20 + 2 * s)) : AC), (.sb (.f2 (100 + 10) (.v 0) u) : AC)), (.ss (.v (21 + 2 * s)), .ss (.f2 (100 + 11) (.v 0) u))], ∀ φ v, VC (vb b g z) φ y.1 v → VC (vb b g z) φ y.2 v := by
  intro y hy φ v hv
  have hy' : y = ((.sb (.v (20 + 2 * s)) : AC), (.sb (.f2 (100 + 10) (.v 0) u) : AC)) ∨ y = (.ss (.v (21 + 2 * s)), .ss (.f2 (100 + 11) (.v 0) u)) := by simpa using hy
  rcases hy' with rfl | rfl
  · show v = .bool ((vb b g z).b (.f2 (100 + 10) (.v 0) u))
    rw [h.c10, ← hcs]; exact hv
  · show v = .string ((vb b g z).s (.f2 (100 + 11) (.v 0) u))
    rw [h.c11, ← hcs]; exact hv
theorem nb5AB (g : Nm → Value) (z : Nat → Option Obj) (b : Nat → MV) : ∀ s, s < 6 → (r5AB s).ok = true ∧ (nb b (r5AB s) 0).d = (b 0).d ++ [enR (((b 0).d.length : Int) + 1) 2 1 (b 2).i (b 3).i ((vb b g z).i (tE 100)) 0 s ((vb b g z).b (tE 110)) ((vb b g z).s (tE 111)) ((vb b g z).b (tE 108)) ((vb b g z).s (tE 109))] ∧ (nb b (r5AB s) 1).d = (b 1).d.eraseIdx ((vb b g z).i (tQ)).toNat
    ∧ (nb b (r5AB s) 2).i = ((b 0).d.length : Int) + 1 ∧ (nb b (r5AB s) 3).i = ((b 0).d.length : Int) + 1 ∧ (nb b (r5AB s) 4).i = (b 4).i ∧ (nb b (r5AB s) 5).i = (b 5).i ∧ (nb b (r5AB s) 6).i = (b 6).i + 1 ∧ (nb b (r5AB s) 51).d = (b 51).d
  | 0, _ => ⟨by decide, rfl, rfl, rfl, rfl, rfl, rfl, rfl, rfl⟩
  | 1, _ => ⟨by decide, rfl, rfl, rfl, rfl, rfl, rfl, rfl, rfl⟩
  | 2, _ => ⟨by decide, rfl, rfl, rfl, rfl, rfl, rfl, rfl, rfl⟩
  | 3, _ => ⟨by decide, rfl, rfl, rfl, rfl, rfl, rfl, rfl, rfl⟩
  | 4, _ => ⟨by decide, rfl, rfl, rfl, rfl, rfl, rfl, rfl, rfl⟩
  | 5, _ => ⟨by decide, rfl, rfl, rfl, rfl, rfl, rfl, rfl, rfl⟩
  | i + 6, h => absurd h (by omega)
theorem nw5AB (b : Nat → MV) : ∀ s, s < 6 → ∀ i, i < 4 → ((nb b (r5AB s) (60 + 2 * i)).b, (nb b (r5AB s) (61 + 2 * i)).s) = ((b (60 + 2 * i)).b, (b (61 + 2 * i)).s)
  | 0, _, 0, _ => rfl
  | 0, _, 1, _ => rfl
  | 0, _, 2, _ => rfl
  | 0, _, 3, _ => rfl
  | 1, _, 0, _ => rfl
  | 1, _, 1, _ => rfl
  | 1, _, 2, _ => rfl
  | 1, _, 3, _ => rfl
  | 2, _, 0, _ => rfl
  | 2, _, 1, _ => rfl
  | 2, _, 2, _ => rfl
  | 2, _, 3, _ => rfl
  | 3, _, 0, _ => rfl
  | 3, _, 1, _ => rfl
  | 3, _, 2, _ => rfl
  | 3, _, 3, _ => rfl
  | 4, _, 0, _ => rfl
  | 4, _, 1, _ => rfl
  | 4, _, 2, _ => rfl
  | 4, _, 3, _ => rfl
  | 5, _, 0, _ => rfl
  | 5, _, 1, _ => rfl
  | 5, _, 2, _ => rfl
  | 5, _, 3, _ => rfl
  | _, _, i + 4, h => absurd h (by omega)
  | s + 6, h, _, _ => absurd h (by omega)
theorem nc5AB (g : Nm → Value) (z : Nat → Option Obj) (b : Nat → MV) : ∀ s, s < 6 → ∀ i, i < 6 → ((nb b (r5AB s) (20 + 2 * i)).b, (nb b (r5AB s) (21 + 2 * i)).s) = if i = s then ((vb b g z).b (tE 108), (vb b g z).s (tE 109)) else ((b (20 + 2 * i)).b, (b (21 + 2 * i)).s)
  | 0, _, 0, _ => rfl
  | 0, _, 1, _ => rfl
  | 0, _, 2, _ => rfl
  | 0, _, 3, _ => rfl
  | 0, _, 4, _ => rfl
  | 0, _, 5, _ => rfl
  | 1, _, 0, _ => rfl
  | 1, _, 1, _ => rfl
  | 1, _, 2, _ => rfl
  | 1, _, 3, _ => rfl
  | 1, _, 4, _ => rfl
  | 1, _, 5, _ => rfl
  | 2, _, 0, _ => rfl
  | 2, _, 1, _ => rfl
  | 2, _, 2, _ => rfl
  | 2, _, 3, _ => rfl
  | 2, _, 4, _ => rfl
  | 2, _, 5, _ => rfl
  | 3, _, 0, _ => rfl
  | 3, _, 1, _ => rfl
  | 3, _, 2, _ => rfl
  | 3, _, 3, _ => rfl
  | 3, _, 4, _ => rfl
  | 3, _, 5, _ => rfl
  | 4, _, 0, _ => rfl
  | 4, _, 1, _ => rfl
  | 4, _, 2, _ => rfl
  | 4, _, 3, _ => rfl
  | 4, _, 4, _ => rfl
  | 4, _, 5, _ => rfl
  | 5, _, 0, _ => rfl
  | 5, _, 1, _ => rfl
  | 5, _, 2, _ => rfl
  | 5, _, 3, _ => rfl
  | 5, _, 4, _ => rfl
  | 5, _, 5, _ => rfl
  | _, _, i + 6, h => absurd h (by omega)
  | s + 6, h, _, _ => absurd h (by omega)
theorem nx5AB {s : Nat} {x : Wr} {ptx pp : Int} (h6 : s < 6) (h : I5 d51 w k n0 (H ++ [x]) b) (hl : d51.length ≤ 20) (hk : k ≠ 0) (hs : s = x.1) (L : Lst b g z tT tU (tQ) (n0 + H.length + 1) (b 0).d.length ptx pp x.1 x.2.1 x.2.2) (elq : (vb b g z).i (tQ) = ((n0 + H.length : Nat) : Int)) : I5 d51 w k n0 H (nb b (r5AB s)) := by
  obtain ⟨_, e0, e1, e2, e3, e4, e5, e6, e51⟩ := nb5AB g z b s h6
  refine h.next (s := s) hl hs hk L.okb L.oka ?_ ?_ e2 e3 e4 e5 e6 e51 (nw5AB b s h6) ?_
  · rw [e0, show (vb b g z).i (tE 100) = _ from L.c0, show (vb b g z).b (tE 108) = _ from L.c8, show (vb b g z).s (tE 109) = _ from L.c9, show (vb b g z).b (tE 110) = _ from L.c10, show (vb b g z).s (tE 111) = _ from L.c11]
  · rw [e1, elq]; rfl
  · intro i hi
    have q := nc5AB g z b s h6 i hi
    rw [show (vb b g z).b (tE 108) = _ from L.c8, show (vb b g z).s (tE 109) = _ from L.c9] at q
    unfold pc updC
    simp only [if_neg hk]
    exact q
theorem nb5C (g : Nm → Value) (z : Nat → Option Obj) (b : Nat → MV) : ∀ s, s < 6 → (r5C s).ok = true ∧ (nb b (r5C s) 0).d = (b 0).d ++ [enR (((b 0).d.length : Int) + 1) 2 1 (b 2).i (b 3).i ((vb b g z).i (tEc 100)) 0 s ((vb b g z).b (tEc 110)) ((vb b g z).s (tEc 111)) ((vb b g z).b (tEc 108)) ((vb b g z).s (tEc 109))] ∧ (nb b (r5C s) 1).d = (b 1).d.eraseIdx ((vb b g z).i (.num 0)).toNat
    ∧ (nb b (r5C s) 2).i = ((b 0).d.length : Int) + 1 ∧ (nb b (r5C s) 3).i = ((b 0).d.length : Int) + 1 ∧ (nb b (r5C s) 4).i = (b 4).i ∧ (nb b (r5C s) 5).i = (b 5).i ∧ (nb b (r5C s) 6).i = (b 6).i + 1 ∧ (nb b (r5C s) 51).d = (b 51).d
  | 0, _ => ⟨by decide, rfl, rfl, rfl, rfl, rfl, rfl, rfl, rfl⟩
  | 1, _ => ⟨by decide, rfl, rfl, rfl, rfl, rfl, rfl, rfl, rfl⟩
  | 2, _ => ⟨by decide, rfl, rfl, rfl, rfl, rfl, rfl, rfl, rfl⟩
  | 3, _ => ⟨by decide, rfl, rfl, rfl, rfl, rfl, rfl, rfl, rfl⟩
  | 4, _ => ⟨by decide, rfl, rfl, rfl, rfl, rfl, rfl, rfl, rfl⟩
  | 5, _ => ⟨by decide, rfl, rfl, rfl, rfl, rfl, rfl, rfl, rfl⟩
  | i + 6, h => absurd h (by omega)
theorem nw5C (b : Nat → MV) : ∀ s, s < 6 → ∀ i, i < 4 → ((nb b (r5C s) (60 + 2 * i)).b, (nb b (r5C s) (61 + 2 * i)).s) = ((b (60 + 2 * i)).b, (b (61 + 2 * i)).s)
  | 0, _, 0, _ => rfl
  | 0, _, 1, _ => rfl
  | 0, _, 2, _ => rfl
  | 0, _, 3, _ => rfl
  | 1, _, 0, _ => rfl
  | 1, _, 1, _ => rfl
  | 1, _, 2, _ => rfl
  | 1, _, 3, _ => rfl
  | 2, _, 0, _ => rfl
  | 2, _, 1, _ => rfl
  | 2, _, 2, _ => rfl
  | 2, _, 3, _ => rfl
  | 3, _, 0, _ => rfl
  | 3, _, 1, _ => rfl
  | 3, _, 2, _ => rfl
  | 3, _, 3, _ => rfl
  | 4, _, 0, _ => rfl
  | 4, _, 1, _ => rfl
  | 4, _, 2, _ => rfl
  | 4, _, 3, _ => rfl
  | 5, _, 0, _ => rfl
  | 5, _, 1, _ => rfl
  | 5, _, 2, _ => rfl
  | 5, _, 3, _ => rfl
  | _, _, i + 4, h => absurd h (by omega)
  | s + 6, h, _, _ => absurd h (by omega)
theorem nc5C (g : Nm → Value) (z : Nat → Option Obj) (b : Nat → MV) : ∀ s, s < 6 → ∀ i, i < 6 → ((nb b (r5C s) (20 + 2 * i)).b, (nb b (r5C s) (21 + 2 * i)).s) = if i = s then ((vb b g z).b (tEc 108), (vb b g z).s (tEc 109)) else ((b (20 + 2 * i)).b, (b (21 + 2 * i)).s)
  | 0, _, 0, _ => rfl
  | 0, _, 1, _ => rfl
  | 0, _, 2, _ => rfl
  | 0, _, 3, _ => rfl
  | 0, _, 4, _ => rfl
  | 0, _, 5, _ => rfl
  | 1, _, 0, _ => rfl
  | 1, _, 1, _ => rfl
  | 1, _, 2, _ => rfl
  | 1, _, 3, _ => rfl
  | 1, _, 4, _ => rfl
  | 1, _, 5, _ => rfl
  | 2, _, 0, _ => rfl
  | 2, _, 1, _ => rfl
  | 2, _, 2, _ => rfl
  | 2, _, 3, _ => rfl
  | 2, _, 4, _ => rfl
  | 2, _, 5, _ => rfl
  | 3, _, 0, _ => rfl
  | 3, _, 1, _ => rfl
  | 3, _, 2, _ => rfl
  | 3, _, 3, _ => rfl
  | 3, _, 4, _ => rfl
  | 3, _, 5, _ => rfl
  | 4, _, 0, _ => rfl
  | 4, _, 1, _ => rfl
  | 4, _, 2, _ => rfl
  | 4, _, 3, _ => rfl
  | 4, _, 4, _ => rfl
  | 4, _, 5, _ => rfl
  | 5, _, 0, _ => rfl
  | 5, _, 1, _ => rfl
  | 5, _, 2, _ => rfl
  | 5, _, 3, _ => rfl
  | 5, _, 4, _ => rfl
  | 5, _, 5, _ => rfl
  | _, _, i + 6, h => absurd h (by omega)
  | s + 6, h, _, _ => absurd h (by omega)
theorem nx5C {s : Nat} {x : Wr} {ptx pp : Int} (h6 : s < 6) (h : I5 d51 w k n0 (H ++ [x]) b) (hl : d51.length ≤ 20) (hk : k ≠ 0) (hs : s = x.1) (L : Lst b g z tTc tUc (.num 0) (n0 + H.length + 1) (b 0).d.length ptx pp x.1 x.2.1 x.2.2) (elq : (vb b g z).i (.num 0) = ((n0 + H.length : Nat) : Int)) : I5 d51 w k n0 H (nb b (r5C s)) := by
  obtain ⟨_, e0, e1, e2, e3, e4, e5, e6, e51⟩ := nb5C g z b s h6
  refine h.next (s := s) hl hs hk L.okb L.oka ?_ ?_ e2 e3 e4 e5 e6 e51 (nw5C b s h6) ?_
  · rw [e0, show (vb b g z).i (tEc 100) = _ from L.c0, show (vb b g z).b (tEc 108) = _ from L.c8, show (vb b g z).s (tEc 109) = _ from L.c9, show (vb b g z).b (tEc 110) = _ from L.c10, show (vb b g z).s (tEc 111) = _ from L.c11]
  · rw [e1, elq]; rfl
  · intro i hi
    have q := nc5C g z b s h6 i hi
    rw [show (vb b g z).b (tEc 108) = _ from L.c8, show (vb b g z).s (tEc 109) = _ from L.c9] at q
    unfold pc updC
    simp only [if_neg hk]
    exact q
theorem rd5A0 {s : Nat} {x : Wr} (h6 : s < 6) (h : I5 d51 w k n0 (H ++ [x]) b) (hl : d51.length ≤ 20) (hk : k ≠ 0) (hs : s = x.1) (hc : n0 = 0 ∧ 1 ≤ H.length) : Tri Tryz.prog N lwB5 (At w0 N (vb b g z) (st5b k)) fun e a w' => e = .normal ∧ ∃ b', I5 d51 w k n0 H b' ∧ At w0 N (vb b' g z) (st5b k) a w' := by
  obtain ⟨hc1, hc2⟩ := hc
  have hlen : (H ++ [x]).length = H.length + 1 := by simp
  have h5 := h.sv
  have hla := h.kb.la
  have hp := h.kb.pn
  have hn := h.kb.n
  rw [hlen] at hp
  have q0 : ((2 : Int) ≤ ((n0 + H.length + 1 : Nat) : Int) ∧ ((n0 + H.length + 1 : Nat) : Int) ≤ 900) := by omega
  have q1 : (1 : Int) ≤ ((n0 + H.length + 1 : Nat) : Int) ∧ ((n0 + H.length + 1 : Nat) : Int) ≤ 900 := by omega
  have q2 : (1 : Int) ≤ ((n0 + H.length + 1 : Nat) : Int) - (b 5).i ∧ ((n0 + H.length + 1 : Nat) : Int) - (b 5).i ≤ 900 := by omega
  have q3 : (-900 : Int) ≤ ((n0 + H.length + 1 : Nat) : Int) - (((b 0).d.length : Nat) : Int) ∧ ((n0 + H.length + 1 : Nat) : Int) - (((b 0).d.length : Nat) : Int) ≤ 0 := by omega
  have q4 : (-900 : Int) ≤ ((n0 + H.length + 1 : Nat) : Int) - (b 2).i ∧ ((n0 + H.length + 1 : Nat) : Int) - (b 2).i ≤ 0 := by omega
  have q5 : (1 : Int) ≤ ((n0 + H.length : Nat) : Int) ∧ ((n0 + H.length : Nat) : Int) ≤ 900 := by omega
  have q6 : (1 : Int) ≤ ((n0 + H.length : Nat) : Int) - (b 5).i ∧ ((n0 + H.length : Nat) : Int) - (b 5).i ≤ 900 := by omega
  have hq : (b 1).d = iot (n0 + H.length + 1) := by rw [h.kb.q, hlen]; rfl
  have eq := lq0 (g := g) (z := z) hq
  have et : (vb b g z).i tT = ((n0 + H.length + 1 : Nat) : Int) := pq_i hq (by omega)
  have elq : (vb b g z).i (tQ) = ((n0 + H.length : Nat) : Int) := by
    refine (lq_i hq (-1)).trans ?_
    clear et eq
    omega
  obtain ⟨ptx, pp, L0⟩ := lst_of h.toI3 et elq
  have L : Lst b g z tT tU (tQ) (n0 + H.length + 1) (b 0).d.length ptx pp s x.2.1 x.2.2 := by rw [hs]; exact L0
  obtain ⟨c, c1, c2⟩ := h.ch
  obtain ⟨c0, k1, k2, k3⟩ := c1.last
  have hcs : ((b (20 + 2 * s)).b, (b (21 + 2 * s)).s) = x.2.2 := by
    have e := c2 s h6
    rw [k3] at e
    unfold updC pc at e
    rw [if_neg hk, if_pos hs] at e
    exact e
  have e2 : (vb b g z).i (.f2 (100 + 0) (.f2 1404 (.v 1) tQ) (.f2 1000 (.f1 5 (.v 1)) (.num (-2)))) = ((n0 + H.length : Nat) : Int) := by
    obtain ⟨m, hm⟩ : ∃ m, n0 + H.length = m + 1 := ⟨n0 + H.length - 1, by clear et eq elq; omega⟩
    have hd : ((vb b g z).d (.f2 1404 (.v 1) tQ))[m]? = some [DV.i ((m + 1 : Nat) : Int)] := by
      rw [(vb_std b g z).del, elq]
      show ((b 1).d.eraseIdx (n0 + H.length))[m]? = _
      rw [hq, iot_del, iot_get (by clear et eq elq; omega)]
    have h2 : (vb b g z).i (.f2 1000 (.f1 5 (.v 1)) (.num (-2))) = m := (lq_i hq (-2)).trans (by clear et eq elq; omega)
    rw [ci_row hd h2 0 (by decide) rfl, hm]
  have fg : ∀ f ∈ fg5A s, f.holds QR (vb b g z) := facts_app (pre5_ok L (rg eq q0) q1 q2 q3 q4) (facts_cons (rg e2 q5) (facts_cons (df e2 q6) facts_nil))
  have ht := RU5 k h.k64 s h6 (by rw [hs]; exact (h.sl x (by simp)).2)
  have hr := (Bool.and_eq_true_iff.1 (Bool.and_eq_true_iff.1 ht).1).1
  unfold run5A0 at hr
  exact ((Tri.run (codeM _ _) (envR_ok (facts_app fg (facts_app (fN6_ok h hl) (facts_app (fb6_ok h.kb) (fS0_ok h.toI3 hc1))))) hr (ren_nb (nb5AB g z b s h6).1)).pre fun a w' hat => At.map hat (subC_ok (sub5_ok L hcs))).post fun e a w' hq' => ⟨hq'.1, nb b (r5AB s), nx5AB h6 h hl hk hs L0 elq, hq'.2⟩
theorem rd5A1 {s : Nat} {x : Wr} (h6 : s < 6) (h : I5 d51 w k n0 (H ++ [x]) b) (hl : d51.length ≤ 20) (hk : k ≠ 0) (hs : s = x.1) (hc : 1 ≤ n0 ∧ 1 ≤ H.length) : Tri Tryz.prog N lwB5 (At w0 N (vb b g z) (st5b k)) fun e a w' => e = .normal ∧ ∃ b', I5 d51 w k n0 H b' ∧ At w0 N (vb b' g z) (st5b k) a w' := by
  obtain ⟨hc1, hc2⟩ := hc
  have hlen : (H ++ [x]).length = H.length + 1 := by simp
  have h5 := h.sv
  have hla := h.kb.la
  have hp := h.kb.pn
  have hn := h.kb.n
  rw [hlen] at hp
  have q0 : ((2 : Int) ≤ ((n0 + H.length + 1 : Nat) : Int) ∧ ((n0 + H.length + 1 : Nat) : Int) ≤ 900) := by omega
  have q1 : (1 : Int) ≤ ((n0 + H.length + 1 : Nat) : Int) ∧ ((n0 + H.length + 1 : Nat) : Int) ≤ 900 := by omega
  have q2 : (1 : Int) ≤ ((n0 + H.length + 1 : Nat) : Int) - (b 5).i ∧ ((n0 + H.length + 1 : Nat) : Int) - (b 5).i ≤ 900 := by omega
  have q3 : (-900 : Int) ≤ ((n0 + H.length + 1 : Nat) : Int) - (((b 0).d.length : Nat) : Int) ∧ ((n0 + H.length + 1 : Nat) : Int) - (((b 0).d.length : Nat) : Int) ≤ 0 := by omega
  have q4 : (-900 : Int) ≤ ((n0 + H.length + 1 : Nat) : Int) - (b 2).i ∧ ((n0 + H.length + 1 : Nat) : Int) - (b 2).i ≤ 0 := by omega
  have q5 : (1 : Int) ≤ ((n0 + H.length : Nat) : Int) ∧ ((n0 + H.length : Nat) : Int) ≤ 900 := by omega
  have q6 : (1 : Int) ≤ ((n0 + H.length : Nat) : Int) - (b 5).i ∧ ((n0 + H.length : Nat) : Int) - (b 5).i ≤ 900 := by omega
  have hq : (b 1).d = iot (n0 + H.length + 1) := by rw [h.kb.q, hlen]; rfl
  have eq := lq0 (g := g) (z := z) hq
  have et : (vb b g z).i tT = ((n0 + H.length + 1 : Nat) : Int) := pq_i hq (by omega)
  have elq : (vb b g z).i (tQ) = ((n0 + H.length : Nat) : Int) := by
    refine (lq_i hq (-1)).trans ?_
    clear et eq
    omega
  obtain ⟨ptx, pp, L0⟩ := lst_of h.toI3 et elq
  have L : Lst b g z tT tU (tQ) (n0 + H.length + 1) (b 0).d.length ptx pp s x.2.1 x.2.2 := by rw [hs]; exact L0
  obtain ⟨c, c1, c2⟩ := h.ch
  obtain ⟨c0, k1, k2, k3⟩ := c1.last
  have hcs : ((b (20 + 2 * s)).b, (b (21 + 2 * s)).s) = x.2.2 := by
    have e := c2 s h6
    rw [k3] at e
    unfold updC pc at e
    rw [if_neg hk, if_pos hs] at e
    exact e
  have e2 : (vb b g z).i (.f2 (100 + 0) (.f2 1404 (.v 1) tQ) (.f2 1000 (.f1 5 (.v 1)) (.num (-2)))) = ((n0 + H.length : Nat) : Int) := by
    obtain ⟨m, hm⟩ : ∃ m, n0 + H.length = m + 1 := ⟨n0 + H.length - 1, by clear et eq elq; omega⟩
    have hd : ((vb b g z).d (.f2 1404 (.v 1) tQ))[m]? = some [DV.i ((m + 1 : Nat) : Int)] := by
      rw [(vb_std b g z).del, elq]
      show ((b 1).d.eraseIdx (n0 + H.length))[m]? = _
      rw [hq, iot_del, iot_get (by clear et eq elq; omega)]
    have h2 : (vb b g z).i (.f2 1000 (.f1 5 (.v 1)) (.num (-2))) = m := (lq_i hq (-2)).trans (by clear et eq elq; omega)
    rw [ci_row hd h2 0 (by decide) rfl, hm]
  have fg : ∀ f ∈ fg5A s, f.holds QR (vb b g z) := facts_app (pre5_ok L (rg eq q0) q1 q2 q3 q4) (facts_cons (rg e2 q5) (facts_cons (df e2 q6) facts_nil))
  have ht := RU5 k h.k64 s h6 (by rw [hs]; exact (h.sl x (by simp)).2)
  have hr := (Bool.and_eq_true_iff.1 (Bool.and_eq_true_iff.1 ht).1).2
  unfold run5A1 at hr
  exact ((Tri.run (codeM _ _) (envR_ok (facts_app fg (facts_app (fN6_ok h hl) (facts_app (fb6_ok h.kb) (fS1_ok h.toI3 hc1))))) hr (ren_nb (nb5AB g z b s h6).1)).pre fun a w' hat => At.map hat (subC_ok (sub5_ok L hcs))).post fun e a w' hq' => ⟨hq'.1, nb b (r5AB s), nx5AB h6 h hl hk hs L0 elq, hq'.2⟩
theorem rd5B {s : Nat} {x : Wr} (h6 : s < 6) (h : I5 d51 w k n0 (H ++ [x]) b) (hl : d51.length ≤ 20) (hk : k ≠ 0) (hs : s = x.1) (hc : 1 ≤ n0 ∧ H.length = 0) : Tri Tryz.prog N lwB5 (At w0 N (vb b g z) (st5b k)) fun e a w' => e = .normal ∧ ∃ b', I5 d51 w k n0 H b' ∧ At w0 N (vb b' g z) (st5a k) a w' := by
  obtain ⟨hc1, hc2⟩ := hc
  have hlen : (H ++ [x]).length = H.length + 1 := by simp
  have h5 := h.sv
  have hla := h.kb.la
  have hp := h.kb.pn
  have hn := h.kb.n
  rw [hlen] at hp
  have q0 : ((2 : Int) ≤ ((n0 + H.length + 1 : Nat) : Int) ∧ ((n0 + H.length + 1 : Nat) : Int) ≤ 900) := by omega
  have q1 : (1 : Int) ≤ ((n0 + H.length + 1 : Nat) : Int) ∧ ((n0 + H.length + 1 : Nat) : Int) ≤ 900 := by omega
  have q2 : (1 : Int) ≤ ((n0 + H.length + 1 : Nat) : Int) - (b 5).i ∧ ((n0 + H.length + 1 : Nat) : Int) - (b 5).i ≤ 900 := by omega
  have q3 : (-900 : Int) ≤ ((n0 + H.length + 1 : Nat) : Int) - (((b 0).d.length : Nat) : Int) ∧ ((n0 + H.length + 1 : Nat) : Int) - (((b 0).d.length : Nat) : Int) ≤ 0 := by omega
  have q4 : (-900 : Int) ≤ ((n0 + H.length + 1 : Nat) : Int) - (b 2).i ∧ ((n0 + H.length + 1 : Nat) : Int) - (b 2).i ≤ 0 := by omega
  have q5 : (1 : Int) ≤ ((n0 + H.length : Nat) : Int) ∧ ((n0 + H.length : Nat) : Int) ≤ 900 := by omega
  have q6 : (-900 : Int) ≤ ((n0 + H.length : Nat) : Int) - (b 5).i ∧ ((n0 + H.length : Nat) : Int) - (b 5).i ≤ 0 := by omega
  have hq : (b 1).d = iot (n0 + H.length + 1) := by rw [h.kb.q, hlen]; rfl
  have eq := lq0 (g := g) (z := z) hq
  have et : (vb b g z).i tT = ((n0 + H.length + 1 : Nat) : Int) := pq_i hq (by omega)
  have elq : (vb b g z).i (tQ) = ((n0 + H.length : Nat) : Int) := by
    refine (lq_i hq (-1)).trans ?_
    clear et eq
    omega
  obtain ⟨ptx, pp, L0⟩ := lst_of h.toI3 et elq
  have L : Lst b g z tT tU (tQ) (n0 + H.length + 1) (b 0).d.length ptx pp s x.2.1 x.2.2 := by rw [hs]; exact L0
  obtain ⟨c, c1, c2⟩ := h.ch
  obtain ⟨c0, k1, k2, k3⟩ := c1.last
  have hcs : ((b (20 + 2 * s)).b, (b (21 + 2 * s)).s) = x.2.2 := by
    have e := c2 s h6
    rw [k3] at e
    unfold updC pc at e
    rw [if_neg hk, if_pos hs] at e
    exact e
  have e2 : (vb b g z).i (.f2 (100 + 0) (.f2 1404 (.v 1) tQ) (.f2 1000 (.f1 5 (.v 1)) (.num (-2)))) = ((n0 + H.length : Nat) : Int) := by
    obtain ⟨m, hm⟩ : ∃ m, n0 + H.length = m + 1 := ⟨n0 + H.length - 1, by clear et eq elq; omega⟩
    have hd : ((vb b g z).d (.f2 1404 (.v 1) tQ))[m]? = some [DV.i ((m + 1 : Nat) : Int)] := by
      rw [(vb_std b g z).del, elq]
      show ((b 1).d.eraseIdx (n0 + H.length))[m]? = _
      rw [hq, iot_del, iot_get (by clear et eq elq; omega)]
    have h2 : (vb b g z).i (.f2 1000 (.f1 5 (.v 1)) (.num (-2))) = m := (lq_i hq (-2)).trans (by clear et eq elq; omega)
    rw [ci_row hd h2 0 (by decide) rfl, hm]
  have fg : ∀ f ∈ fg5B s, f.holds QR (vb b g z) := facts_app (pre5_ok L (rg eq q0) q1 q2 q3 q4) (facts_cons (rg e2 q5) (facts_cons (df e2 q6) facts_nil))
  have ht := RU5 k h.k64 s h6 (by rw [hs]; exact (h.sl x (by simp)).2)
  have hr := (Bool.and_eq_true_iff.1 (Bool.and_eq_true_iff.1 ht).2).1
  unfold run5B at hr
  exact ((Tri.run (codeM _ _) (envR_ok (facts_app fg (facts_app (fN6_ok h hl) (facts_app (fb6_ok h.kb) (fS1_ok h.toI3 hc1))))) hr (ren_nb (nb5AB g z b s h6).1)).pre fun a w' hat => At.map hat (subC_ok (sub5_ok L hcs))).post fun e a w' hq' => ⟨hq'.1, nb b (r5AB s), nx5AB h6 h hl hk hs L0 elq, hq'.2⟩
theorem rd5C {s : Nat} {x : Wr} (h6 : s < 6) (h : I5 d51 w k n0 (H ++ [x]) b) (hl : d51.length ≤ 20) (hk : k ≠ 0) (hs : s = x.1) (hc : n0 = 0 ∧ H.length = 0) : Tri Tryz.prog N lwB5 (At w0 N (vb b g z) (st5b k)) fun e a w' => e = .normal ∧ ∃ b', I5 d51 w k n0 H b' ∧ At w0 N (vb b' g z) (st5a k) a w' := by
  obtain ⟨hc1, hc2⟩ := hc
  have hlen : (H ++ [x]).length = H.length + 1 := by simp
  have h5 := h.sv
  have hla := h.kb.la
  have hp := h.kb.pn
  have hn := h.kb.n
  rw [hlen] at hp
  have q0 : ((1 : Int) ≤ ((n0 + H.length + 1 : Nat) : Int) ∧ ((n0 + H.length + 1 : Nat) : Int) ≤ 1) := by omega
  have q1 : (1 : Int) ≤ ((n0 + H.length + 1 : Nat) : Int) ∧ ((n0 + H.length + 1 : Nat) : Int) ≤ 900 := by omega
  have q2 : (1 : Int) ≤ ((n0 + H.length + 1 : Nat) : Int) - (b 5).i ∧ ((n0 + H.length + 1 : Nat) : Int) - (b 5).i ≤ 900 := by omega
  have q3 : (-900 : Int) ≤ ((n0 + H.length + 1 : Nat) : Int) - (((b 0).d.length : Nat) : Int) ∧ ((n0 + H.length + 1 : Nat) : Int) - (((b 0).d.length : Nat) : Int) ≤ 0 := by omega
  have q4 : (-900 : Int) ≤ ((n0 + H.length + 1 : Nat) : Int) - (b 2).i ∧ ((n0 + H.length + 1 : Nat) : Int) - (b 2).i ≤ 0 := by omega
  have hq : (b 1).d = iot (n0 + H.length + 1) := by rw [h.kb.q, hlen]; rfl
  have eq := lq0 (g := g) (z := z) hq
  have et : (vb b g z).i tTc = ((n0 + H.length + 1 : Nat) : Int) := by
    have := iot_i (g := g) (z := z) (i := 0) (t := .num 0) hq (by omega) ((vb_std b g z).num 0)
    refine this.trans ?_
    clear this eq
    omega
  have elq : (vb b g z).i (.num 0) = ((n0 + H.length : Nat) : Int) := by rw [(vb_std b g z).num]; clear et eq; omega
  obtain ⟨ptx, pp, L0⟩ := lst_of h.toI3 et elq
  have L : Lst b g z tTc tUc (.num 0) (n0 + H.length + 1) (b 0).d.length ptx pp s x.2.1 x.2.2 := by rw [hs]; exact L0
  obtain ⟨c, c1, c2⟩ := h.ch
  obtain ⟨c0, k1, k2, k3⟩ := c1.last
  have hcs : ((b (20 + 2 * s)).b, (b (21 + 2 * s)).s) = x.2.2 := by
    have e := c2 s h6
    rw [k3] at e
    unfold updC pc at e
    rw [if_neg hk, if_pos hs] at e
    exact e
  have fg : ∀ f ∈ fg5C s, f.holds QR (vb b g z) := pre5_ok L (rg eq q0) q1 q2 q3 q4
  have ht := RU5 k h.k64 s h6 (by rw [hs]; exact (h.sl x (by simp)).2)
  have hr := (Bool.and_eq_true_iff.1 (Bool.and_eq_true_iff.1 ht).2).2
  unfold run5C at hr
  exact ((Tri.run (codeM _ _) (envR_ok (facts_app fg (facts_app (fN6_ok h hl) (facts_app (fb6_ok h.kb) (fS0_ok h.toI3 hc1))))) hr (ren_nb (nb5C g z b s h6).1)).pre fun a w' hat => At.map hat (subC_ok (sub5_ok L hcs))).post fun e a w' hq' => ⟨hq'.1, nb b (r5C s), nx5C h6 h hl hk hs L0 elq, hq'.2⟩
theorem round5 {x : Wr} (h : I5 d51 w k n0 (H ++ [x]) b) (hl : d51.length ≤ 20) : Tri Tryz.prog N lwB5 (At w0 N (vb b g z) (st5b k)) fun e a w' => e = .normal ∧ ∃ b', I5 d51 w k n0 H b' ∧ At w0 N (vb b' g z) (st5 k H) a w' := by
  have hp := h.kb.pn
  have hlen : (H ++ [x]).length = H.length + 1 := by simp
  rw [hlen] at hp
  have hk : k ≠ 0 := fun e => by have := h.kb.k0.1 e; omega
  have hs := (h.sl x (by simp)).1
  cases H with
  | nil =>
    by_cases hn : n0 = 0
    · exact rd5C hs h hl hk rfl ⟨hn, rfl⟩
    · exact rd5B hs h hl hk rfl ⟨by omega, rfl⟩
  | cons y H =>
    by_cases hn : n0 = 0
    · exact rd5A0 hs h hl hk rfl ⟨hn, by simp⟩
    · exact rd5A1 hs h hl hk rfl ⟨by omega, by simp⟩
theorem loop5 (hl : d51.length ≤ 20) : Tri Tryz.prog N (.block 2 (.loop lwB5)) (fun a w' => ∃ j : List Wr × (Nat → MV), I5 d51 w k n0 j.1 j.2 ∧ At w0 N (vb j.2 g z) (st5 k j.1) a w') fun e a w' => e = .normal ∧ ∃ b, I5 d51 w k n0 [] b ∧ At w0 N (vb b g z) (st5a k) a w' := by
  refine Tri.block ?_
  refine (Tri.loop (Post := fun e a w' => e = .exit 2 ∧ ∃ b, I5 d51 w k n0 [] b ∧ At w0 N (vb b g z) (st5a k) a w') (fun j : List Wr × (Nat → MV) => j.1.length) (fun j a w' => I5 d51 w k n0 j.1 j.2 ∧ At w0 N (vb j.2 g z) (st5 k j.1) a w') fun j => Tri.imp fun hj => ?_).post fun e a w' h => .inl ⟨.inr h.1, rfl, h.2⟩
  obtain ⟨H, b⟩ := j
  have hj : I5 d51 w k n0 H b := hj
  rcases List.eq_nil_or_concat H with rfl | ⟨H0, x, rfl⟩
  · have hr := (Bool.and_eq_true_iff.1 (RU3x k hj.k64)).2
    unfold run5x at hr
    have hid : (rx5 k).idEx [] = true := (rx5_id k).1
    have hok : (rx5 k).ok = true := (rx5_id k).2
    refine (Tri.run (codeM _ _) (envR_ok (fN6_ok hj hl)) hr (ren_nb hok)).post fun e a w' hq => .inr ⟨by rw [hq.1]; exact fun h => (nomatch h), hq.1, b, hj, ?_⟩
    have := hq.2
    rw [nb_all hid] at this
    exact this
  · rw [List.concat_eq_append] at hj
    have e5 : st5 k (H0.concat x) = st5b k := by
      rw [List.concat_eq_append]
      cases H0 <;> rfl
    refine ((round5 hj hl).pre fun a w' hat => by rw [← e5]; exact hat).post fun e a w' hq => .inl ⟨hq.1, ?_⟩
    obtain ⟨_, b', h1, h2⟩ := hq
    exact ⟨(H0, b'), by simp, h1, h2⟩
theorem fg6n_ok (h : I5 d51 w k n0 [] b) (hl : d51.length ≤ 20) : ∀ f ∈ fg6n, f.holds QR (vb b g z) := by
  have h6 := h.n6
  have h0 := h.n60
  have e : ([] : List Wr).length = 0 := rfl
  have hf : (((b 51).d.length : Nat) : Int) = d51.length := by rw [h.s]
  exact facts_cons ⟨(by show (0 : Int) ≤ (b 6).i; omega), (by show (b 6).i ≤ 20; omega)⟩ (facts_cons ⟨(by show (0 : Int) ≤ (((b 51).d.length : Nat) : Int); omega), (by show (((b 51).d.length : Nat) : Int) ≤ 20; omega)⟩ (facts_cons ⟨(by show (0 : Int) ≤ (b 6).i - (((b 51).d.length : Nat) : Int); omega), (by show (b 6).i - (((b 51).d.length : Nat) : Int) ≤ 0; omega)⟩ facts_nil))
theorem part6 (h : I5 d51 w k n0 [] b) (hl : d51.length ≤ 20) : Tri Tryz.prog N lw6 (At w0 N (vb b g z) (st5a k)) fun e a w' => e = .ret ∧ ∃ ρ' s', saysTrue lwRes s' = true ∧ At w0 N ρ' s' a w' := by
  obtain ⟨c, c1, c2⟩ := h.ch
  have hcw : ∀ i, i < 6 → pc k b i = w i := fun i hi => by
    rw [c2 i hi]
    generalize hH : ([] : List Wr) = H' at c1
    cases c1 with
    | nil => rfl
    | snoc h s x => simp at hH
  have w4 := h.w4
  have w5 := h.w5
  have ws := h.ws
  by_cases hk : k = 0
  · subst hk
    have hr := ru6_0
    unfold run6z at hr
    have hz : ∀ i, i < 4 → ((b (60 + 2 * i)).b, (b (61 + 2 * i)).s) = ((false, ⟨#[]⟩) : Cel) := fun i hi => by
      rw [ws i hi, ← hcw i (by omega)]; rfl
    have z0 := hz 0 (by decide)
    have z1 := hz 1 (by decide)
    have z2 := hz 2 (by decide)
    have z3 := hz 3 (by decide)
    have hsub : ∀ y ∈ sub6z, ∀ φ v, VC (vb b g z) φ y.1 v → VC (vb b g z) φ y.2 v := by
      intro y hy φ v hv
      simp only [sub6z, List.mem_cons, List.not_mem_nil, or_false] at hy
      rcases hy with rfl | rfl | rfl | rfl | rfl | rfl | rfl | rfl
      · have hv' : v = .bool (b 60).b := hv
        rw [hv', show (b 60).b = false from congrArg Prod.fst z0]; rfl
      · have hv' : v = .bool (b 62).b := hv
        rw [hv', show (b 62).b = false from congrArg Prod.fst z1]; rfl
      · have hv' : v = .bool (b 64).b := hv
        rw [hv', show (b 64).b = false from congrArg Prod.fst z2]; rfl
      · have hv' : v = .bool (b 66).b := hv
        rw [hv', show (b 66).b = false from congrArg Prod.fst z3]; rfl
      · have hv' : v = .string (b 61).s := hv
        exact ⟨_, hv'.trans (congrArg Value.string (congrArg Prod.snd z0)), rfl⟩
      · have hv' : v = .string (b 63).s := hv
        exact ⟨_, hv'.trans (congrArg Value.string (congrArg Prod.snd z1)), rfl⟩
      · have hv' : v = .string (b 65).s := hv
        exact ⟨_, hv'.trans (congrArg Value.string (congrArg Prod.snd z2)), rfl⟩
      · have hv' : v = .string (b 67).s := hv
        exact ⟨_, hv'.trans (congrArg Value.string (congrArg Prod.snd z3)), rfl⟩
    exact ((Tri.run (codeM _ _) (envR_ok (facts_app (fg6n_ok h hl) (facts_app (fST_ok h.toI3) (fb6_ok h.kb)))) hr (ren_nb (r := {}) (by decide))).pre fun a w' hat => At.map hat (subC_ok hsub)).post fun e a w' hq => ⟨hq.1, _, _, saysT, hq.2⟩
  · have hr := RU6 k h.k64 hk
    unfold run6 at hr
    have hz : ∀ i, i < 6 → ((b (20 + 2 * i)).b, (b (21 + 2 * i)).s) = w i := fun i hi => by
      have := hcw i hi
      unfold pc at this
      rw [if_neg hk] at this
      exact this
    have z0 := (hz 0 (by decide)).trans (ws 0 (by decide)).symm
    have z1 := (hz 1 (by decide)).trans (ws 1 (by decide)).symm
    have z2 := (hz 2 (by decide)).trans (ws 2 (by decide)).symm
    have z3 := (hz 3 (by decide)).trans (ws 3 (by decide)).symm
    have z4 := (hz 4 (by decide)).trans w4
    have z5 := (hz 5 (by decide)).trans w5
    have fw : ∀ f ∈ fg6w, f.holds QR (vb b g z) := by
      have v : ∀ i, i < 4 → VCell (b (60 + 2 * i)).b (b (61 + 2 * i)).s := fun i hi => by
        have e := ws i hi
        have := h.wv i hi
        rw [← e] at this
        exact this
      exact facts_cons (v 0 (by decide)) (facts_cons (v 1 (by decide)) (facts_cons (v 2 (by decide)) (facts_cons (v 3 (by decide)) facts_nil)))
    have hsub : ∀ y ∈ sub6p, ∀ φ v, VC (vb b g z) φ y.1 v → VC (vb b g z) φ y.2 v := by
      intro y hy φ v hv
      simp only [sub6p, List.mem_cons, List.not_mem_nil, or_false] at hy
      rcases hy with rfl | rfl | rfl | rfl | rfl | rfl | rfl | rfl | rfl | rfl | rfl | rfl
      · have hv' : v = .bool (b 20).b := hv
        rw [hv', show (b 20).b = (b 60).b from congrArg Prod.fst z0]; rfl
      · have hv' : v = .bool (b 22).b := hv
        rw [hv', show (b 22).b = (b 62).b from congrArg Prod.fst z1]; rfl
      · have hv' : v = .bool (b 24).b := hv
        rw [hv', show (b 24).b = (b 64).b from congrArg Prod.fst z2]; rfl
      · have hv' : v = .bool (b 26).b := hv
        rw [hv', show (b 26).b = (b 66).b from congrArg Prod.fst z3]; rfl
      · have hv' : v = .string (b 21).s := hv
        rw [hv', show (b 21).s = (b 61).s from congrArg Prod.snd z0]; rfl
      · have hv' : v = .string (b 23).s := hv
        rw [hv', show (b 23).s = (b 63).s from congrArg Prod.snd z1]; rfl
      · have hv' : v = .string (b 25).s := hv
        rw [hv', show (b 25).s = (b 65).s from congrArg Prod.snd z2]; rfl
      · have hv' : v = .string (b 27).s := hv
        rw [hv', show (b 27).s = (b 67).s from congrArg Prod.snd z3]; rfl
      · have hv' : v = .bool (b 28).b := hv
        rw [hv', show (b 28).b = false from congrArg Prod.fst z4]; rfl
      · have hv' : v = .bool (b 30).b := hv
        rw [hv', show (b 30).b = false from congrArg Prod.fst z5]; rfl
      · have hv' : v = .string (b 29).s := hv
        exact ⟨_, hv'.trans (congrArg Value.string (congrArg Prod.snd z4)), rfl⟩
      · have hv' : v = .string (b 31).s := hv
        exact ⟨_, hv'.trans (congrArg Value.string (congrArg Prod.snd z5)), rfl⟩
    exact ((Tri.run (codeM _ _) (envR_ok (facts_app (fg6n_ok h hl) (facts_app (fST_ok h.toI3) (facts_app fw (fb6_ok h.kb))))) hr (ren_nb (r := {}) (by decide))).pre fun a w' hat => At.map hat (subC_ok hsub)).post fun e a w' hq => ⟨hq.1, _, _, saysT, hq.2⟩
theorem rest_tri (h : I1 d50 d51 k b) (h7 : (b 7).i = d50.length) (hb : Byt d51) (hl : d50.length ≤ 20) (hl2 : d51.length ≤ 20) : Tri Tryz.prog N lw2 (At w0 N (vb b g z) (stA k)) fun e a w' => e = .ret ∧ ∃ ρ' s', saysTrue lwRes s' = true ∧ At w0 N ρ' s' a w' := by
  have hr := RU2 k h.k16
  unfold run2 at hr
  have hcut : cutA 3 lw2 = some (cutL 3 lw2, .seq (.seq lwRi (.block (nat_lit 0) (.loop lwB3))) lw4) := by rw [← lw3_eq]; exact cutL2
  have hok : (r2 k).ok = true := by cases k <;> first | decide | exact (by decide : r2_1.ok = true)
  obtain ⟨w, n0, h3⟩ := start3 h h7 hl hl2
  refine Tri.pre_loop (codeM _ _) (envR_ok (facts_app (fL2_ok h.s hl2) (fb4_ok h.kb))) hcut hr (ren_nb hok) (Mid := fun a w' => ∃ k H b, (I3L d51 w k n0 H b ∧ H.length = d51.length) ∧ At w0 N (vb b g z) (st4 k) a w') ?_ ?_
  · exact ((loop3 hb hl2).pre fun a w' hat => ⟨(k, [], nb b (r2 k)), h3, hat⟩).post fun e a w' h => .inl h
  · refine Tri.ex fun k' => Tri.ex fun H => Tri.ex fun b' => Tri.imp fun hj => ?_
    refine part4 hj.1 hj.2 fun b2 h5 => ?_
    rw [lw5_eq]
    refine Tri.seq (Mid := fun a w' => ∃ b, I5 d51 w k' n0 [] b ∧ At w0 N (vb b g z) (st5a k') a w') (((loop5 hl2).pre fun a w' hat => ⟨(H, b2), h5, hat⟩).post fun e a w' h => .inl h) ?_
    exact Tri.ex fun b3 => Tri.imp fun h6 => part6 h6 hl2
theorem law_all (hb : Byt d50) (hb2 : Byt d51) (h50 : (b 50).d = d50) (h51 : (b 51).d = d51) (hm : d50.length ≤ 9223372036854775807) (hm2 : d51.length ≤ 9223372036854775807) : Tri Tryz.prog N lwBody (At w0 N (vb b g z) s0L) fun e a w' => e = .ret ∧ ∃ ρ' s', saysTrue lwRes s' = true ∧ At w0 N ρ' s' a w' := by
  have hf : (((b 50).d.length : Nat) : Int) = d50.length := by rw [h50]
  have hs : (((b 51).d.length : Nat) : Int) = d51.length := by rw [h51]
  by_cases hl : d50.length ≤ 20
  · by_cases hl2 : d51.length ≤ 20
    · refine Tri.pre_run (codeM _ _) (envR_ok (F := fC) (facts_cons ⟨(by show (0 : Int) ≤ (((b 50).d.length : Nat) : Int); omega), (by show (((b 50).d.length : Nat) : Int) ≤ 20; omega)⟩ (facts_cons ⟨(by show (0 : Int) ≤ (((b 51).d.length : Nat) : Int); omega), (by show (((b 51).d.length : Nat) : Int) ≤ 20; omega)⟩ facts_nil))) cutL1 runP (ren_nb (by decide)) ?_
      rw [lw1_eq]
      refine Tri.seq (Mid := fun a w => ∃ z' k b', (I1 d50 d51 k b' ∧ (b' 7).i = d50.length) ∧ At w0 N (vb b' g z') (stA k) a w) ((call_tri (b := nb b rP) hb hl h50 h51).post fun e a w h => .inl h) ?_
      exact Tri.ex fun z' => Tri.ex fun k' => Tri.ex fun b' => Tri.imp fun h => rest_tri h.1 h.2 hb2 hl hl2
    · exact (Tri.run (codeM _ _) (envR_ok (F := fB) (facts_cons ⟨(by show (0 : Int) ≤ (((b 50).d.length : Nat) : Int); omega), (by show (((b 50).d.length : Nat) : Int) ≤ 20; omega)⟩ (facts_cons ⟨(by show (21 : Int) ≤ (((b 51).d.length : Nat) : Int); omega), (by show (((b 51).d.length : Nat) : Int) ≤ 9223372036854775807; omega)⟩ facts_nil))) runTB (ren_nb (r := {}) (by decide))).post fun e a w' hq => ⟨hq.1, _, _, saysT, hq.2⟩
  · exact (Tri.run (codeM _ _) (envR_ok (F := fA) (facts_cons ⟨(by show (21 : Int) ≤ (((b 50).d.length : Nat) : Int); omega), (by show (((b 50).d.length : Nat) : Int) ≤ 9223372036854775807; omega)⟩ facts_nil)) runTA (ren_nb (r := {}) (by decide))).post fun e a w' hq => ⟨hq.1, _, _, saysT, hq.2⟩
end
end Go.Proofs.YtnofmmceafkkoaaGreat
