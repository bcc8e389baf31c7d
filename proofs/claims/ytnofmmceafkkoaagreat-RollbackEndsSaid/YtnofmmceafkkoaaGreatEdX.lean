/-
  RollbackEnds: the second half of the walk: the steps, the whole law (printed by a program).
-/
import Derived.Test.YtnofmmceafkkoaaGreatEdW
set_option linter.unusedVariables false
set_option linter.unusedSimpArgs false
set_option maxRecDepth 100000
namespace Go.Proofs.YtnofmmceafkkoaaGreat
open Go.RowKit
section
variable {w0 : World} {N : Nat} {g : Nm → Value} {z : Nat → Option Obj} {b : Nat → MV} {k p n n0 m : Nat} {d50 d51 : List (List DV)} {w : Nat → Cel} {H R : List Wr}
theorem ion_i {m p i : Nat} (hq : (b 1).d = ion m p) (hi : i < p) {t : Nm} (ht : (vb b g z).i t = i) : (vb b g z).i (.f2 (100 + 0) (.v 1) t) = ((m + i + 1 : Nat) : Int) := by
  have h1 : ((vb b g z).d (.v 1))[i]? = some [DV.i ((m + i + 1 : Nat) : Int)] := (congrArg (fun x : List (List DV) => x[i]?) hq).trans (ion_get hi)
  exact ci_row h1 ht 0 (by decide) rfl
theorem lq_i {m p : Nat} (hq : (b 1).d = ion m p) (c : Int) : (vb b g z).i (.f2 1000 (.f1 5 (.v 1)) (.num c)) = p + c := by
  show (((b 1).d.length : Nat) : Int) + c = _
  rw [hq, ion_len]
theorem lq0 {m p : Nat} (hq : (b 1).d = ion m p) : (vb b g z).i (.f1 5 (.v 1)) = p := by
  show (((b 1).d.length : Nat) : Int) = _
  rw [hq, ion_len]
theorem rg {x q lo hi : Int} (h : x = q) (k : lo ≤ q ∧ q ≤ hi) : lo ≤ x ∧ x ≤ hi := by rw [h]; exact k
theorem df {x y q lo hi : Int} (h : x = q) (k : lo ≤ q - y ∧ q - y ≤ hi) : lo ≤ x - y ∧ x - y ≤ hi := by rw [h]; exact k
theorem d0 {x y q : Int} (h : x = q) (k : y = q) : (0 : Int) ≤ x - y ∧ x - y ≤ 0 := by omega
structure Lst (b : Nat → MV) (g : Nm → Value) (z : Nat → Option Obj) (n0 m s : Nat) (bf af : Cel) : Prop where
  t : (vb b g z).i tT = ((n0 + m + 1 : Nat) : Int)
  q : (vb b g z).i tQ = (m : Int)
  c0 : (vb b g z).i (tE 100) = ((n0 + m + 1 : Nat) : Int)
  c6 : (vb b g z).i (tE 106) = 0
  c7 : (vb b g z).i (tE 107) = s
  c8 : (vb b g z).b (tE 108) = bf.1
  c9 : (vb b g z).s (tE 109) = bf.2
  c10 : (vb b g z).b (tE 110) = af.1
  c11 : (vb b g z).s (tE 111) = af.2
  okb : VCell bf.1 bf.2
  oka : VCell af.1 af.2
  at_ : IsAt (b 1).d ((n0 + m + 1 : Nat) : Int) (m : Int)
theorem lst_of {x : Wr} (h : JB d51 w n0 n k (H ++ [x]) R b) : Lst b g z n0 H.length x.1 x.2.1 x.2.2 := by
  have hx : ((H ++ [x]) ++ R)[H.length]? = some x := by rw [List.append_assoc, List.getElem?_append_right (Nat.le_refl _), Nat.sub_self]; rfl
  obtain ⟨ptx, pp, hrow⟩ := h.rw H.length x hx
  have hq : (b 1).d = ion n0 (H.length + 1) := by rw [h.q, List.length_append, List.length_singleton]
  have e1 : (vb b g z).i tQ = (H.length : Int) := by
    refine (lq_i (g := g) (z := z) hq (-1)).trans ?_
    omega
  have e2 : (vb b g z).i tT = ((n0 + H.length + 1 : Nat) : Int) := ion_i hq (by omega) e1
  have hi : (vb b g z).i tU = ((n0 + H.length : Nat) : Int) := by
    show (vb b g z).i (.f2 1000 tT (.num (-1))) = _
    rw [(vb_std b g z).ex, e2, (vb_std b g z).num]; omega
  have hy : ((vb b g z).d (.v 0))[n0 + H.length]? = some _ := hrow
  obtain ⟨kind, tx, ptx', pp', ref, pg, sl, bs, bd, az, ad, er, _, _, _, _, _, _, _, _, hk⟩ := h.y.2 _ _ hrow
  have hv : VCell x.2.1.1 x.2.1.2 ∧ VCell x.2.2.1 x.2.2.2 := by
    simp only [enR, List.cons.injEq, DV.i.injEq, DV.b.injEq, DV.s.injEq, true_and, and_true] at er
    obtain ⟨rfl, rfl, rfl, rfl, rfl, rfl, rfl, e1, e2, e3, e4⟩ := er
    rw [e1, e2, e3, e4]
    rcases hk with ⟨_, _, c⟩ | ⟨_, _, _, c⟩ | ⟨q, _⟩
    · exact ⟨c.2.2.2.2.1, c.2.2.2.2.2⟩
    · exact ⟨c.2.2.2.2.1, c.2.2.2.2.2⟩
    · rcases q with q | q | q <;> cases q
  refine ⟨e2, e1, ci_row hy hi 0 (by decide) rfl, ci_row hy hi 6 (by decide) rfl, ci_row hy hi 7 (by decide) rfl, cb_row hy hi 8 (by decide) rfl, cs_row hy hi 9 (by decide) rfl, cb_row hy hi 10 (by decide) rfl, cs_row hy hi 11 (by decide) rfl, hv.1, hv.2, ?_⟩
  have hn := h.hn
  have n30 := h.n30
  have h21 := h.n21
  rw [List.length_append, List.length_singleton] at hn
  refine ⟨by omega, ?_, ((n0 + H.length + 1 : Nat) : Int), ?_⟩
  · rw [hq, Int.toNat_natCast, ion_get (by omega)]
  · rw [hq]
    exact ion_asc (Int.le_refl _) (by omega)
theorem fI_ok (h : JB d51 w n0 n k H R b) : ∀ f ∈ fI, f.holds QR (vb b g z) := by
  have h7 := h.i7
  have n1 := h.n1
  have n30 := h.n30
  have hn := h.hn
  have sl := h.sl
  have hf : (((b 51).d.length : Nat) : Int) = d51.length := by rw [h.s]
  exact facts_cons ⟨(by show (0 : Int) ≤ (b 12).i; omega), (by show (b 12).i ≤ 31; omega)⟩ (facts_cons ⟨(by show (1 : Int) ≤ (((b 51).d.length : Nat) : Int); omega), (by show (((b 51).d.length : Nat) : Int) ≤ 30; omega)⟩ (facts_cons ⟨(by show (-31 : Int) ≤ (b 12).i - (((b 51).d.length : Nat) : Int); omega), (by show (b 12).i - (((b 51).d.length : Nat) : Int) ≤ 0; omega)⟩ facts_nil))
theorem fU_ok (h : JB d51 w n0 n k H R b) : ∀ f ∈ fU, f.holds QR (vb b g z) := by
  have n1 := h.n1
  have n30 := h.n30
  have h21 := h.n21
  have hn := h.hn
  have hl := h.len
  have hla := h.la
  have p0 := h.pl0
  have p1 := h.pl1
  have hd := h.du
  have hc := h.cv
  have hq : (((b 1).d.length : Nat) : Int) = H.length := by rw [h.q, ion_len]
  have asc : Asc (b 1).d (b 2).i := by
    rw [h.q, hla]
    exact ion_asc (by omega) (by omega)
  exact facts_cons ⟨(by show (1 : Int) ≤ (((b 0).d.length : Nat) : Int); omega), (by show (((b 0).d.length : Nat) : Int) ≤ 900; omega)⟩ (facts_cons ⟨(by show (1 : Int) ≤ (b 2).i; omega), (by show (b 2).i ≤ 900; omega)⟩ (facts_cons ⟨(by show (1 : Int) ≤ (b 3).i; omega), (by show (b 3).i ≤ 900; omega)⟩ (facts_cons ⟨(by show (0 : Int) ≤ (b 4).i; omega), (by show (b 4).i ≤ 900; omega)⟩
    (facts_cons ⟨(by show (0 : Int) ≤ (b 2).i - (((b 0).d.length : Nat) : Int); omega), (by show (b 2).i - (((b 0).d.length : Nat) : Int) ≤ 0; omega)⟩ (facts_cons ⟨(by show (-900 : Int) ≤ (b 3).i - (((b 0).d.length : Nat) : Int); omega), (by show (b 3).i - (((b 0).d.length : Nat) : Int) ≤ 0; omega)⟩
    (facts_cons ⟨(by show (-900 : Int) ≤ (b 4).i - (((b 0).d.length : Nat) : Int); omega), (by show (b 4).i - (((b 0).d.length : Nat) : Int) ≤ -1; omega)⟩ (facts_cons ⟨(by show (-900 : Int) ≤ (((b 1).d.length : Nat) : Int) - (((b 0).d.length : Nat) : Int); omega), (by show (((b 1).d.length : Nat) : Int) - (((b 0).d.length : Nat) : Int) ≤ 0; omega)⟩
    (facts_cons (show JV (b 0).d from h.y) (facts_cons (show Asc (b 1).d (b 2).i from asc) (facts_cons (hc 0 (by decide)) (facts_cons (hc 1 (by decide)) (facts_cons (hc 2 (by decide)) (facts_cons (hc 3 (by decide)) (facts_cons (hc 4 (by decide)) facts_nil))))))))))))))
theorem fg_ok {x : Wr} {k2 : Nat} (h : JB d51 w n0 n k (H ++ [x]) R b) (L : Lst b g z n0 H.length x.1 x.2.1 x.2.2) (hk : KSet k2 H) : ∀ f ∈ fg x.1 k2, f.holds QR (vb b g z) := by
  have n30 := h.n30
  have h21 := h.n21
  have hn := h.hn
  have hl := h.len
  have hla := h.la
  rw [List.length_append, List.length_singleton] at hn
  have hq : (b 1).d = ion n0 (H.length + 1) := by rw [h.q, List.length_append, List.length_singleton]
  have h0 : (1 : Int) ≤ ((H.length + 1 : Nat) : Int) ∧ ((H.length + 1 : Nat) : Int) ≤ 900 := by omega
  have h1 : (1 : Int) ≤ ((n0 + H.length + 1 : Nat) : Int) ∧ ((n0 + H.length + 1 : Nat) : Int) ≤ 900 := by omega
  have h3 : (-900 : Int) ≤ ((n0 + H.length + 1 : Nat) : Int) - (((b 0).d.length : Nat) : Int) ∧ ((n0 + H.length + 1 : Nat) : Int) - (((b 0).d.length : Nat) : Int) ≤ 0 := by omega
  have h4 : (-900 : Int) ≤ ((n0 + H.length + 1 : Nat) : Int) - (b 2).i ∧ ((n0 + H.length + 1 : Nat) : Int) - (b 2).i ≤ 0 := by omega
  have hset : PSet (b 0).d ((vb b g z).d tD) k2 := by
    have e : (vb b g z).d tD = ion n0 H.length := by
      show (vb b g z).d (.f2 1404 (.v 1) tQ) = _
      rw [(vb_std b g z).del, L.q]
      show (b 1).d.eraseIdx ((H.length : Int)).toNat = _
      rw [hq, Int.toNat_natCast, ion_del]
    rw [e]
    refine pset h.y (R := [x] ++ R) ?_ (by omega) hk
    rw [← List.append_assoc]; exact h.rw
  exact facts_cons (rg (lq0 hq) h0) (facts_cons (rg L.t h1) (facts_cons (df L.t h3) (facts_cons (df L.t h4) (facts_cons (rg L.c0 h1) (facts_cons (d0 L.c0 L.t) (facts_cons (df L.c0 h4) (facts_cons (df L.c0 h3) (facts_cons (rg L.c6 ⟨Int.le_refl 0, Int.le_refl 0⟩) (facts_cons (rg L.c7 ⟨Int.le_refl _, Int.le_refl _⟩)
    (facts_cons (show VCell ((vb b g z).b (tE 108)) ((vb b g z).s (tE 109)) from by rw [L.c8, L.c9]; exact L.okb) (facts_cons (show VCell ((vb b g z).b (tE 110)) ((vb b g z).s (tE 111)) from by rw [L.c10, L.c11]; exact L.oka)
    (facts_cons (show IsAt (b 1).d ((vb b g z).i (tE 100)) ((vb b g z).i tQ) from by rw [L.c0, L.q]; exact L.at_) (facts_cons (show PSet (b 0).d ((vb b g z).d tD) ((k2 : Int)).toNat from hset) facts_nil)))))))))))))
theorem sub5_ok {m s : Nat} {bf af : Cel} (h : Lst b g z n0 m s bf af) (hcs : pcl b s = af) : ∀ y ∈ sub5 s, ∀ φ v, VC (vb b g z) φ y.1 v → VC (vb b g z) φ y.2 v := by
  intro y hy φ v hv
  have hy' : y = ((.sb (.v (20 + 2 * s)) : AC), (.sb (tE 110) : AC)) ∨ y = (.ss (.v (21 + 2 * s)), .ss (tE 111)) := by simpa [sub5] using hy
  rcases hy' with rfl | rfl
  · show v = .bool ((vb b g z).b (tE 110))
    rw [h.c10, ← hcs]; exact hv
  · show v = .string ((vb b g z).s (tE 111))
    rw [h.c11, ← hcs]; exact hv
theorem nb5 (g : Nm → Value) (z : Nat → Option Obj) (b : Nat → MV) : ∀ s, s < 5 → (r5 s).ok = true ∧ (nb b (r5 s) 0).d = (b 0).d ++ [enR (((b 0).d.length : Int) + 1) 2 2 (b 2).i (b 3).i ((vb b g z).i (tE 100)) 0 s ((vb b g z).b (tE 110)) ((vb b g z).s (tE 111)) ((vb b g z).b (tE 108)) ((vb b g z).s (tE 109))] ∧ (nb b (r5 s) 1).d = (b 1).d.eraseIdx ((vb b g z).i tQ).toNat
    ∧ (nb b (r5 s) 2).i = ((b 0).d.length : Int) + 1 ∧ (nb b (r5 s) 3).i = ((b 0).d.length : Int) + 1 ∧ (nb b (r5 s) 4).i = (b 4).i ∧ (nb b (r5 s) 51).d = (b 51).d ∧ (nb b (r5 s) 12).i = (b 12).i + 1 ∧ ∀ i, i < 4 → wcl (nb b (r5 s)) i = wcl b i
  | 0, _ => ⟨by decide, rfl, rfl, rfl, rfl, rfl, rfl, rfl, fun i hi => match i, hi with
    | 0, _ => rfl
    | 1, _ => rfl
    | 2, _ => rfl
    | 3, _ => rfl
    | i + 4, h => absurd h (by omega)⟩
  | 1, _ => ⟨by decide, rfl, rfl, rfl, rfl, rfl, rfl, rfl, fun i hi => match i, hi with
    | 0, _ => rfl
    | 1, _ => rfl
    | 2, _ => rfl
    | 3, _ => rfl
    | i + 4, h => absurd h (by omega)⟩
  | 2, _ => ⟨by decide, rfl, rfl, rfl, rfl, rfl, rfl, rfl, fun i hi => match i, hi with
    | 0, _ => rfl
    | 1, _ => rfl
    | 2, _ => rfl
    | 3, _ => rfl
    | i + 4, h => absurd h (by omega)⟩
  | 3, _ => ⟨by decide, rfl, rfl, rfl, rfl, rfl, rfl, rfl, fun i hi => match i, hi with
    | 0, _ => rfl
    | 1, _ => rfl
    | 2, _ => rfl
    | 3, _ => rfl
    | i + 4, h => absurd h (by omega)⟩
  | 4, _ => ⟨by decide, rfl, rfl, rfl, rfl, rfl, rfl, rfl, fun i hi => match i, hi with
    | 0, _ => rfl
    | 1, _ => rfl
    | 2, _ => rfl
    | 3, _ => rfl
    | i + 4, h => absurd h (by omega)⟩
  | i + 5, h => absurd h (by omega)
theorem nc5 (g : Nm → Value) (z : Nat → Option Obj) (b : Nat → MV) : ∀ s, s < 5 → ∀ i, i < 5 → pcl (nb b (r5 s)) i = if i = s then ((vb b g z).b (tE 108), (vb b g z).s (tE 109)) else pcl b i
  | 0, _, 0, _ => rfl
  | 0, _, 1, _ => rfl
  | 0, _, 2, _ => rfl
  | 0, _, 3, _ => rfl
  | 0, _, 4, _ => rfl
  | 1, _, 0, _ => rfl
  | 1, _, 1, _ => rfl
  | 1, _, 2, _ => rfl
  | 1, _, 3, _ => rfl
  | 1, _, 4, _ => rfl
  | 2, _, 0, _ => rfl
  | 2, _, 1, _ => rfl
  | 2, _, 2, _ => rfl
  | 2, _, 3, _ => rfl
  | 2, _, 4, _ => rfl
  | 3, _, 0, _ => rfl
  | 3, _, 1, _ => rfl
  | 3, _, 2, _ => rfl
  | 3, _, 3, _ => rfl
  | 3, _, 4, _ => rfl
  | 4, _, 0, _ => rfl
  | 4, _, 1, _ => rfl
  | 4, _, 2, _ => rfl
  | 4, _, 3, _ => rfl
  | 4, _, 4, _ => rfl
  | _, _, i + 5, h => absurd h (by omega)
  | s + 5, h, _, _ => absurd h (by omega)
theorem nx5 {x : Wr} {k2 : Nat} (h : JB d51 w n0 n k (H ++ [x]) R b) (L : Lst b g z n0 H.length x.1 x.2.1 x.2.2) (h4 : x.1 < 5) (hk : KSet k2 H) : JB d51 w n0 n k2 H (x :: R) (nb b (r5 x.1)) := by
  obtain ⟨_, e0, e1, e2, e3, e4, e5, e6, e7⟩ := nb5 g z b x.1 h4
  refine h.next (s := x.1) rfl L.okb L.oka ?_ ?_ e2 e3 e4 e5 e6 e7 ?_ hk
  · rw [e0, L.c0, L.c8, L.c9, L.c10, L.c11]
  · rw [e1, L.q]; rfl
  · intro i hi
    have q := nc5 g z b x.1 h4 i hi
    rw [L.c8, L.c9] at q
    exact q
theorem step {x : Wr} {v : Nat} (hv : v < 2) (h : JB d51 w n0 n k (H ++ [x]) R b) : Tri Tryz.prog N lwB5 (At w0 N (vb b g z) (stU v k)) fun e a w' => e = .normal ∧ ∃ v' k' b', (JB d51 w n0 n k' H (x :: R) b' ∧ v' < 2 ∧ (k' = 0 → v' = 1)) ∧ At w0 N (vb b' g z) (stU v' k') a w' := by
  have L := lst_of (g := g) (z := z) h
  obtain ⟨h4, hb⟩ := h.ks.sl x (by simp)
  have hr := RU5 k h.ks.lt x.1 h4 hb
  unfold run5 at hr
  rw [Bool.and_eq_true, Bool.and_eq_true, Bool.and_eq_true] at hr
  obtain ⟨⟨r0, r1⟩, r2, r3⟩ := hr
  unfold run50m at r0
  unfold run50d at r1
  unfold run51m at r2
  unfold run51d at r3
  obtain ⟨c, c1, c2⟩ := h.ch
  obtain ⟨c0, q1, q2, q3⟩ := c1.last
  have hcs : pcl b x.1 = x.2.2 := by
    rw [c2 x.1 h4, q3]
    unfold updC
    rw [if_pos rfl]
  have hk0 := h.ks.ne
  have hok := (nb5 g z b x.1 h4).1
  have hv2 : v = 0 ∨ v = 1 := by omega
  by_cases hm : ∃ y ∈ H, y.1 = x.1
  · obtain ⟨y, hy, e⟩ := hm
    have hks := h.ks.more hy e
    have hf := facts_app (fg_ok h L hks) (facts_app (fI_ok h) (fU_ok h))
    rcases hv2 with rfl | rfl
    · exact ((Tri.run (codeM _ _) (envR_ok hf) r0 (ren_nb hok)).pre fun a w' hat => At.map hat (subC_ok (sub5_ok L hcs))).post fun e a w' hq => ⟨hq.1, 0, k, _, ⟨nx5 h L h4 hks, by decide, fun e => absurd e hk0⟩, hq.2⟩
    · exact ((Tri.run (codeM _ _) (envR_ok hf) r2 (ren_nb hok)).pre fun a w' hat => At.map hat (subC_ok (sub5_ok L hcs))).post fun e a w' hq => ⟨hq.1, 1, k, _, ⟨nx5 h L h4 hks, by decide, fun _ => rfl⟩, hq.2⟩
  · have hks := h.ks.drop fun y hy e => hm ⟨y, hy, e⟩
    have hf := facts_app (fg_ok h L hks) (facts_app (fI_ok h) (fU_ok h))
    rcases hv2 with rfl | rfl
    · exact ((Tri.run (codeM _ _) (envR_ok hf) r1 (ren_nb hok)).pre fun a w' hat => At.map hat (subC_ok (sub5_ok L hcs))).post fun e a w' hq => ⟨hq.1, 1, _, _, ⟨nx5 h L h4 hks, by decide, fun _ => rfl⟩, hq.2⟩
    · exact ((Tri.run (codeM _ _) (envR_ok hf) r3 (ren_nb hok)).pre fun a w' hat => At.map hat (subC_ok (sub5_ok L hcs))).post fun e a w' hq => ⟨hq.1, 1, _, _, ⟨nx5 h L h4 hks, by decide, fun _ => rfl⟩, hq.2⟩
abbrev UJ := Nat × Nat × List Wr × List Wr × (Nat → MV)
def UAt (d51 : List (List DV)) (w : Nat → Cel) (n0 n : Nat) (w0 : World) (N : Nat) (g : Nm → Value) (z : Nat → Option Obj) (j : UJ ⊕ (Nat → MV)) (a : Act) (w' : World) : Prop := match j with
  | .inl (v, k, H, R, b) => (JB d51 w n0 n k H R b ∧ v < 2 ∧ (k = 0 → v = 1)) ∧ At w0 N (vb b g z) (stU v k) a w'
  | .inr b => JE d51 w n0 n b ∧ At w0 N (vb b g z) sE a w'
def UM (j : UJ ⊕ (Nat → MV)) : Nat := match j with
  | .inl (_, _, H, _, _) => H.length + 1
  | .inr _ => 0
theorem nF (b : Nat → MV) : (nb b rF 0).d = (b 0).d ++ [enR (((b 0).d.length : Int) + 1) 5 2 (b 2).i 0 0 0 0 false ⟨#[]⟩ false ⟨#[]⟩] ∧ (nb b rF 3).i = (b 3).i ∧ (nb b rF 4).i = (b 4).i ∧ (nb b rF 51).d = (b 51).d ∧ (nb b rF 12).i = (b 12).i + 1 := ⟨rfl, rfl, rfl, rfl, rfl⟩
theorem nFw (b : Nat → MV) : ∀ i, i < 4 → wcl (nb b rF) i = wcl b i
  | 0, _ => rfl
  | 1, _ => rfl
  | 2, _ => rfl
  | 3, _ => rfl
  | i + 4, h => absurd h (by omega)
theorem nFc (b : Nat → MV) : ∀ i, i < 5 → pcl (nb b rF) i = pcl b i
  | 0, _ => rfl
  | 1, _ => rfl
  | 2, _ => rfl
  | 3, _ => rfl
  | 4, _ => rfl
  | i + 5, h => absurd h (by omega)
theorem loopU : Tri Tryz.prog N (.block 2 (.loop lwB5)) (fun a w' => ∃ j, UAt d51 w n0 n w0 N g z j a w') fun e a w' => e = .normal ∧ ∃ b, JE d51 w n0 n b ∧ At w0 N (vb b g z) sE a w' := by
  refine Tri.block ?_
  refine (Tri.loop (Post := fun e a w' => e = .exit 2 ∧ ∃ b, JE d51 w n0 n b ∧ At w0 N (vb b g z) sE a w') UM (UAt d51 w n0 n w0 N g z) fun j => ?_).post fun e a w' h => .inl ⟨.inr h.1, rfl, h.2⟩
  rcases j with ⟨v, k, H, R, b⟩ | b
  · refine Tri.imp fun hj => ?_
    obtain ⟨hj, hv, hk⟩ := hj
    rcases List.eq_nil_or_concat H with rfl | ⟨H0, x, rfl⟩
    · have k0 := hj.ks.nil
      subst k0
      have v1 := hk rfl
      subst v1
      have hq : (((b 1).d.length : Nat) : Int) = 0 := by rw [hj.q, ion_len]; rfl
      have fq : ∀ f ∈ fQ0, f.holds QR (vb b g z) := facts_cons ⟨(by show (0 : Int) ≤ (((b 1).d.length : Nat) : Int); omega), (by show (((b 1).d.length : Nat) : Int) ≤ 0; omega)⟩ facts_nil
      obtain ⟨e0, e3, e4, e5, e6⟩ := nF b
      exact (Tri.run (codeM _ _) (envR_ok (facts_app fq (facts_app (fI_ok hj) (fU_ok hj)))) runF (ren_nb (by decide))).post fun e a w' hq => .inl ⟨hq.1, .inr (nb b rF), (by show 0 < 0 + 1; decide), hj.fin e0 e3 e4 e5 e6 (nFw b) (nFc b), hq.2⟩
    · rw [List.concat_eq_append] at hj
      refine (step hv hj).post fun e a w' hq => .inl ⟨hq.1, ?_⟩
      obtain ⟨_, v', k', b', h1, h2⟩ := hq
      exact ⟨.inl (v', k', H0, x :: R, b'), (by show H0.length + 1 < (H0.concat x).length + 1; simp), h1, h2⟩
  · refine Tri.imp fun hj => ?_
    have hid : rX.idEx [] = true := by decide
    refine (Tri.run (codeM _ _) (envR_ok facts_nil) runX (ren_nb (by decide))).post fun e a w' hq => .inr ⟨by rw [hq.1]; exact fun h => (nomatch h), hq.1, b, hj, ?_⟩
    have := hq.2
    rw [nb_all hid] at this
    exact this
theorem fE_ok (h : JE d51 w n0 n b) : ∀ f ∈ fE, f.holds QR (vb b g z) := by
  have n1 := h.n1
  have n30 := h.n30
  have h21 := h.n21
  have hl := h.len
  have p0 := h.pl0
  have p1 := h.pl1
  have hd := h.du
  have h7 := h.i7
  have sl := h.sl
  have hf : (((b 51).d.length : Nat) : Int) = d51.length := by rw [h.s]
  have hv : ∀ i, i < 4 → VCell (wcl b i).1 (wcl b i).2 := fun i hi => by rw [h.ws i hi]; exact h.wv i hi
  exact facts_cons ⟨(by show (2 : Int) ≤ (((b 0).d.length : Nat) : Int); omega), (by show (((b 0).d.length : Nat) : Int) ≤ 900; omega)⟩ (facts_cons ⟨(by show (1 : Int) ≤ (b 3).i; omega), (by show (b 3).i ≤ 900; omega)⟩ (facts_cons ⟨(by show (0 : Int) ≤ (b 4).i; omega), (by show (b 4).i ≤ 900; omega)⟩
    (facts_cons ⟨(by show (-900 : Int) ≤ (b 3).i - (((b 0).d.length : Nat) : Int); omega), (by show (b 3).i - (((b 0).d.length : Nat) : Int) ≤ 0; omega)⟩ (facts_cons ⟨(by show (-900 : Int) ≤ (b 4).i - (((b 0).d.length : Nat) : Int); omega), (by show (b 4).i - (((b 0).d.length : Nat) : Int) ≤ -1; omega)⟩
    (facts_cons (show JV (b 0).d from h.y) (facts_cons (hv 0 (by decide)) (facts_cons (hv 1 (by decide)) (facts_cons (hv 2 (by decide)) (facts_cons (hv 3 (by decide))
    (facts_cons ⟨(by show (2 : Int) ≤ (b 12).i; omega), (by show (b 12).i ≤ 31; omega)⟩ (facts_cons ⟨(by show (1 : Int) ≤ (((b 51).d.length : Nat) : Int); omega), (by show (((b 51).d.length : Nat) : Int) ≤ 30; omega)⟩ (facts_cons ⟨(by show (1 : Int) ≤ (b 12).i - (((b 51).d.length : Nat) : Int); omega), (by show (b 12).i - (((b 51).d.length : Nat) : Int) ≤ 1; omega)⟩ facts_nil))))))))))))
theorem cl_b {x y : MV} {x' y' : MV} (h : (x.b, x'.s) = ((y.b, y'.s) : Cel)) : x.b = y.b ∧ x'.s = y'.s := ⟨congrArg Prod.fst h, congrArg Prod.snd h⟩
theorem subW_ok (h : ∀ i, i < 4 → pcl b i = wcl b i) : ∀ y ∈ subW, ∀ φ v, VC (vb b g z) φ y.1 v → VC (vb b g z) φ y.2 v := by
  have z0 := h 0 (by decide)
  have z1 := h 1 (by decide)
  have z2 := h 2 (by decide)
  have z3 := h 3 (by decide)
  intro y hy φ v hv
  simp only [subW, List.mem_cons, List.not_mem_nil, or_false] at hy
  rcases hy with rfl | rfl | rfl | rfl | rfl | rfl | rfl | rfl
  · have hv' : v = .bool (b 20).b := hv
    rw [hv', show (b 20).b = (b 60).b from congrArg Prod.fst z0]; rfl
  · have hv' : v = .bool (b 22).b := hv
    rw [hv', show (b 22).b = (b 62).b from congrArg Prod.fst z1]; rfl
  · have hv' : v = .bool (b 24).b := hv
    rw [hv', show (b 24).b = (b 64).b from congrArg Prod.fst z2]; rfl
  · have hv' : v = .bool (b 26).b := hv
    rw [hv', show (b 26).b = (b 66).b from congrArg Prod.fst z3]; rfl
  · have hv' : v = .string (b 21).s := hv
    rw [hv', show (b 21).s = (b 61).s from congrArg Prod.snd z0]; rfl
  · have hv' : v = .string (b 23).s := hv
    rw [hv', show (b 23).s = (b 63).s from congrArg Prod.snd z1]; rfl
  · have hv' : v = .string (b 25).s := hv
    rw [hv', show (b 25).s = (b 65).s from congrArg Prod.snd z2]; rfl
  · have hv' : v = .string (b 27).s := hv
    rw [hv', show (b 27).s = (b 67).s from congrArg Prod.snd z3]; rfl
theorem subE_ok (h : ∀ i, i < 4 → pcl b i = wcl b i) (z4 : pcl b 4 = (false, ⟨#[]⟩)) : ∀ y ∈ subE, ∀ φ v, VC (vb b g z) φ y.1 v → VC (vb b g z) φ y.2 v := by
  intro y hy φ v hv
  rcases List.mem_append.1 (show y ∈ subW ++ _ from hy) with hy | hy
  · exact subW_ok h y hy φ v hv
  · simp only [List.mem_cons, List.not_mem_nil, or_false] at hy
    rcases hy with rfl | rfl
    · have hv' : v = .bool (b 28).b := hv
      rw [hv', show (b 28).b = false from congrArg Prod.fst z4]; rfl
    · have hv' : v = .string (b 29).s := hv
      exact ⟨_, hv'.trans (congrArg Value.string (congrArg Prod.snd z4)), rfl⟩
theorem subZ0_ok (h : ∀ i, i < 4 → wcl b i = (false, ⟨#[]⟩)) : ∀ y ∈ subZ0, ∀ φ v, VC (vb b g z) φ y.1 v → VC (vb b g z) φ y.2 v := by
  have z0 := h 0 (by decide)
  have z1 := h 1 (by decide)
  have z2 := h 2 (by decide)
  have z3 := h 3 (by decide)
  intro y hy φ v hv
  simp only [subZ0, List.mem_cons, List.not_mem_nil, or_false] at hy
  rcases hy with rfl | rfl | rfl | rfl | rfl | rfl | rfl | rfl
  · have hv' : v = .bool (b 60).b := hv
    rw [hv', show (b 60).b = false from congrArg Prod.fst z0]; rfl
  · have hv' : v = .bool (b 62).b := hv
    rw [hv', show (b 62).b = false from congrArg Prod.fst z1]; rfl
  · have hv' : v = .bool (b 64).b := hv
    rw [hv', show (b 64).b = false from congrArg Prod.fst z2]; rfl
  · have hv' : v = .bool (b 66).b := hv
    rw [hv', show (b 66).b = false from congrArg Prod.fst z3]; rfl
  · have hv' : v = .string (b 61).s := hv
    exact ⟨_, hv'.trans (congrArg Value.string (congrArg Prod.snd z0)), rfl⟩
  · have hv' : v = .string (b 63).s := hv
    exact ⟨_, hv'.trans (congrArg Value.string (congrArg Prod.snd z1)), rfl⟩
  · have hv' : v = .string (b 65).s := hv
    exact ⟨_, hv'.trans (congrArg Value.string (congrArg Prod.snd z2)), rfl⟩
  · have hv' : v = .string (b 67).s := hv
    exact ⟨_, hv'.trans (congrArg Value.string (congrArg Prod.snd z3)), rfl⟩
theorem end_tri (h : JE d51 w n0 n b) : Tri Tryz.prog N lw6 (At w0 N (vb b g z) sE) fun e a w' => e = .ret ∧ ∃ ρ' s', saysTrue lwRes s' = true ∧ At w0 N ρ' s' a w' :=
  ((Tri.run (codeM _ _) (envR_ok (fE_ok h)) runE (ren_nb (r := {}) (by decide))).pre fun a w' hat => At.map hat (subC_ok (subE_ok (fun i hi => (h.cw i (by omega)).trans (h.ws i hi).symm) ((h.cw 4 (by decide)).trans h.w4)))).post fun e a w' hq => ⟨hq.1, _, _, saysT, hq.2⟩
theorem nabe (b : Nat → MV) : (nb b rab 0).d = (b 0).d ++ [enR (((b 0).d.length : Int) + 1) 4 2 (b 2).i 0 0 0 0 false ⟨#[]⟩ false ⟨#[]⟩] ∧ (nb b rab 1).d = (b 1).d ∧ (nb b rab 2).i = ((b 0).d.length : Int) + 1 ∧ (nb b rab 3).i = (b 3).i ∧ (nb b rab 4).i = (b 4).i ∧ (nb b rab 51).d = (b 51).d ∧ (nb b rab 12).i = 0 := ⟨rfl, rfl, rfl, rfl, rfl, rfl, rfl⟩
theorem nabw (b : Nat → MV) : ∀ i, i < 4 → wcl (nb b rab) i = wcl b i
  | 0, _ => rfl
  | 1, _ => rfl
  | 2, _ => rfl
  | 3, _ => rfl
  | i + 4, h => absurd h (by omega)
theorem nabc (b : Nat → MV) : ∀ i, i < 5 → pcl (nb b rab) i = pcl b i
  | 0, _ => rfl
  | 1, _ => rfl
  | 2, _ => rfl
  | 3, _ => rfl
  | 4, _ => rfl
  | i + 5, h => absurd h (by omega)
theorem rest4 (hl : d51.length ≤ 30) : ∀ j, Tri Tryz.prog N lw4 (WEnd d51 w m n0 w0 N g z j) fun e a w' => e = .ret ∧ ∃ ρ' s', saysTrue lwRes s' = true ∧ At w0 N ρ' s' a w'
  | .inl b => Tri.imp fun hj => by
    obtain ⟨h, hz⟩ := hj
    have hr := RU7 m h.z5
    unfold run7q at hr
    have hr := (Bool.and_eq_true_iff.1 (Bool.and_eq_true_iff.1 (Bool.and_eq_true_iff.1 hr).2).2).2
    unfold run7z at hr
    have hf : (((b 51).d.length : Nat) : Int) = d51.length := by rw [h.s]
    have fz : ∀ f ∈ fZ, f.holds QR (vb b g z) := facts_cons ⟨(by show (0 : Int) ≤ (((b 51).d.length : Nat) : Int); omega), (by show (((b 51).d.length : Nat) : Int) ≤ 0; omega)⟩ facts_nil
    cases m with
    | zero =>
      have hw : ∀ i, i < 4 → wcl b i = (false, ⟨#[]⟩) := fun i hi => (h.ws i hi).trans (h.wz rfl i)
      exact ((Tri.run (codeM _ _) (envR_ok (facts_app fz (facts_app (fB_ok h) (facts_nil : ∀ f ∈ fW 0, _)))) hr (ren_nb (r := {}) (by decide))).pre fun a w' hat => At.map hat (subC_ok (subZ0_ok hw))).post fun e a w' hq => ⟨hq.1, _, _, saysT, hq.2⟩
    | succ m =>
      have hc := h.cv (by omega)
      have hcw : ∀ i, i < 4 → pcl b i = wcl b i := fun i hi => (h.ce (by omega) i hi).trans (h.ws i hi).symm
      have hv : ∀ i, i < 4 → VCell (wcl b i).1 (wcl b i).2 := fun i hi => by rw [← hcw i hi]; exact hc i hi
      have fw : ∀ f ∈ fWw, f.holds QR (vb b g z) := facts_cons (hv 0 (by decide)) (facts_cons (hv 1 (by decide)) (facts_cons (hv 2 (by decide)) (facts_cons (hv 3 (by decide)) facts_nil)))
      exact ((Tri.run (codeM _ _) (envR_ok (facts_app fz (facts_app (fB_ok h) (fw : ∀ f ∈ fW (m + 1), _)))) hr (ren_nb (r := {}) (by decide))).pre fun a w' hat => At.map hat (subC_ok (subW_ok hcw))).post fun e a w' hq => ⟨hq.1, _, _, saysT, hq.2⟩
  | .inr (k, H, b) => Tri.imp fun hj => by
    obtain ⟨h, hz⟩ := hj
    have hr := (Bool.and_eq_true_iff.1 (RU3q k h.ks.lt (ks_ne h.ks h.h1))).2
    unfold runAb at hr
    have hcut : cutA 3 lw4 = some (cutL 3 lw4, .seq (.block (nat_lit 2) (.loop lwB5)) lw6) := by rw [← lw5_eq]; exact cutL4
    obtain ⟨e0, e1, e2, e3, e4, e5, e6⟩ := nabe b
    have hB := h.abort hz hl e0 e1 e2 e3 e4 e5 e6 (nabw b) (nabc b)
    have hset : PSet (nb b rab 0).d (b 1).d k := by
      have hn := hB.hn
      have := pset (k := k) hB.y hB.rw (by rw [hB.len]; omega) hB.ks
      rw [← hB.q, e1] at this
      exact this
    have fa : ∀ f ∈ fAB k, f.holds QR (vb b g z) := facts_cons (show PSet (nb b rab 0).d (b 1).d ((k : Int)).toNat from hset) facts_nil
    refine Tri.pre_run (codeM _ _) (envR_ok (facts_app fa (fK_ok h hl))) hcut hr (ren_nb (by decide)) ?_
    refine Tri.seq (Mid := fun a w' => ∃ b, JE d51 w n0 d51.length b ∧ At w0 N (vb b g z) sE a w') (((loopU (n := d51.length)).pre fun a w' hat => ⟨.inl (0, k, H, [], nb b rab), ⟨hB, by decide, fun e => absurd e (ks_ne h.ks h.h1)⟩, hat⟩).post fun e a w' h => .inl h) ?_
    exact Tri.ex fun b3 => Tri.imp fun h6 => end_tri h6
theorem rest_tri (h : I1 d50 d51 k b) (h7 : (b 7).i = d50.length) (hb : Byt d51) (hl : d50.length ≤ 20) (hl2 : d51.length ≤ 30) : Tri Tryz.prog N lw2 (At w0 N (vb b g z) (stA k)) fun e a w' => e = .ret ∧ ∃ ρ' s', saysTrue lwRes s' = true ∧ At w0 N ρ' s' a w' := by
  have hr := RU2 k h.k16
  unfold run2 at hr
  have hcut : cutA 4 lw2 = some (cutL 4 lw2, .seq (.seq lwRi (.block (nat_lit 0) (.loop lwB3))) lw4) := by rw [← lw3_eq]; exact cutL2
  obtain ⟨fc, hok, w, n0, h3⟩ := start (g := g) (z := z) h h7 hl
  refine Tri.pre_loop (codeM _ _) (envR_ok (facts_app (fL2_ok h.s hl2) (facts_app fc (fb4_ok h.kb)))) hcut hr (ren_nb hok) (Mid := fun a w' => ∃ j, WEnd d51 w (cnt k) n0 w0 N g z j a w') ?_ (Tri.ex (rest4 hl2))
  exact ((loop3 hb hl2).pre fun a w' hat => ⟨.inl (nb b (r2 k)), h3, hat⟩).post fun e a w' h => .inl h
theorem law_all (hb : Byt d50) (hb2 : Byt d51) (h50 : (b 50).d = d50) (h51 : (b 51).d = d51) (hm : d50.length ≤ 9223372036854775807) (hm2 : d51.length ≤ 9223372036854775807) : Tri Tryz.prog N lwBody (At w0 N (vb b g z) s0L) fun e a w' => e = .ret ∧ ∃ ρ' s', saysTrue lwRes s' = true ∧ At w0 N ρ' s' a w' := by
  have hf : (((b 50).d.length : Nat) : Int) = d50.length := by rw [h50]
  have hs : (((b 51).d.length : Nat) : Int) = d51.length := by rw [h51]
  by_cases hl : d50.length ≤ 20
  · by_cases hl2 : d51.length ≤ 30
    · refine Tri.pre_run (codeM _ _) (envR_ok (F := fC) (facts_cons ⟨(by show (0 : Int) ≤ (((b 50).d.length : Nat) : Int); omega), (by show (((b 50).d.length : Nat) : Int) ≤ 20; omega)⟩ (facts_cons ⟨(by show (0 : Int) ≤ (((b 51).d.length : Nat) : Int); omega), (by show (((b 51).d.length : Nat) : Int) ≤ 30; omega)⟩ facts_nil))) cutL1 runP (ren_nb (by decide)) ?_
      rw [lw1_eq]
      refine Tri.seq (Mid := fun a w => ∃ z' k b', (I1 d50 d51 k b' ∧ (b' 7).i = d50.length) ∧ At w0 N (vb b' g z') (stA k) a w) ((call_tri (b := nb b rP) hb hl h50 h51).post fun e a w h => .inl h) ?_
      exact Tri.ex fun z' => Tri.ex fun k' => Tri.ex fun b' => Tri.imp fun h => rest_tri h.1 h.2 hb2 hl hl2
    · exact (Tri.run (codeM _ _) (envR_ok (F := fBb) (facts_cons ⟨(by show (0 : Int) ≤ (((b 50).d.length : Nat) : Int); omega), (by show (((b 50).d.length : Nat) : Int) ≤ 20; omega)⟩ (facts_cons ⟨(by show (31 : Int) ≤ (((b 51).d.length : Nat) : Int); omega), (by show (((b 51).d.length : Nat) : Int) ≤ 9223372036854775807; omega)⟩ facts_nil))) runTB (ren_nb (r := {}) (by decide))).post fun e a w' hq => ⟨hq.1, _, _, saysT, hq.2⟩
  · exact (Tri.run (codeM _ _) (envR_ok (F := fA) (facts_cons ⟨(by show (21 : Int) ≤ (((b 50).d.length : Nat) : Int); omega), (by show (((b 50).d.length : Nat) : Int) ≤ 9223372036854775807; omega)⟩ facts_nil)) runTA (ren_nb (r := {}) (by decide))).post fun e a w' hq => ⟨hq.1, _, _, saysT, hq.2⟩
end
end Go.Proofs.YtnofmmceafkkoaaGreat
