/-
  RollbackOrder: the second half of the walk: the steps, the comparison, the whole law (printed by a program).
-/
import Derived.Test.YtnofmmceafkkoaaGreatOrW
set_option linter.unusedVariables false
set_option linter.unusedSimpArgs false
set_option maxRecDepth 100000
namespace Go.Proofs.YtnofmmceafkkoaaGreat
open Go.RowKit
section
variable {w0 : World} {N : Nat} {g : Nm → Value} {z : Nat → Option Obj} {b : Nat → MV} {k n : Nat} {d50 : List (List DV)} {H R : List Wr}
theorem JB.congr {b' : Nat → MV} (h : JB n k H R b) (e : ∀ j, j ≠ 11 → j ≠ 12 → b' j = b j) : JB n k H R b' := by
  have e0 := e 0 (by decide) (by decide)
  have e1 := e 1 (by decide) (by decide)
  have e2 := e 2 (by decide) (by decide)
  have e3 := e 3 (by decide) (by decide)
  have e4 := e 4 (by decide) (by decide)
  have ec : ∀ i, b' (20 + 2 * i) = b (20 + 2 * i) := fun i => e _ (by omega) (by omega)
  have ed : ∀ i, b' (21 + 2 * i) = b (21 + 2 * i) := fun i => e _ (by omega) (by omega)
  refine ⟨h.n1, h.n30, h.hn, by rw [e0]; exact h.y, by rw [e0]; exact h.len, by rw [e2, e0]; exact h.la, by rw [e3]; exact h.pl0, by rw [e3, e0]; exact h.pl1, by rw [e4]; exact h.du, by rw [e1]; exact h.q, by rw [e0]; exact h.rw, by rw [e0]; exact h.ab, by rw [e0]; exact h.un, h.ks, h.sa, ?_, fun i hi => by rw [ec, ed]; exact h.cv i hi⟩
  obtain ⟨c, c1, c2⟩ := h.ch
  exact ⟨c, c1, fun i hi => by rw [ec, ed]; exact c2 i hi⟩
theorem iot_i {p i : Nat} (hq : (b 1).d = iot p) (hi : i < p) {t : Nm} (ht : (vb b g z).i t = i) : (vb b g z).i (.f2 (100 + 0) (.v 1) t) = ((i + 1 : Nat) : Int) := by
  have h1 : ((vb b g z).d (.v 1))[i]? = some [DV.i ((i + 1 : Nat) : Int)] := (congrArg (fun x : List (List DV) => x[i]?) hq).trans (iot_get hi)
  exact ci_row h1 ht 0 (by decide) rfl
theorem lq_i {p : Nat} (hq : (b 1).d = iot p) (c : Int) : (vb b g z).i (.f2 1000 (.f1 5 (.v 1)) (.num c)) = p + c := by
  show (((b 1).d.length : Nat) : Int) + c = _
  rw [hq, iot_len]
theorem lq0 {p : Nat} (hq : (b 1).d = iot p) : (vb b g z).i (.f1 5 (.v 1)) = p := by
  show (((b 1).d.length : Nat) : Int) = _
  rw [hq, iot_len]
theorem wr64 {x : Int} (h : -1000 ≤ x ∧ x ≤ 1000) : IntKind.i64.wrap x = x := by rw [IntKind.wrap_i64]; omega
theorem rg {x q lo hi : Int} (h : x = q) (k : lo ≤ q ∧ q ≤ hi) : lo ≤ x ∧ x ≤ hi := by rw [h]; exact k
theorem df {x y q lo hi : Int} (h : x = q) (k : lo ≤ q - y ∧ q - y ≤ hi) : lo ≤ x - y ∧ x - y ≤ hi := by rw [h]; exact k
theorem d0 {x y q : Int} (h : x = q) (k : y = q) : (0 : Int) ≤ x - y ∧ x - y ≤ 0 := by omega
structure Lst (b : Nat → MV) (g : Nm → Value) (z : Nat → Option Obj) (m s : Nat) (bf af : Cel) : Prop where
  t : (vb b g z).i tT = ((m + 1 : Nat) : Int)
  q : (vb b g z).i tQ = (m : Int)
  c0 : (vb b g z).i (tE 100) = ((m + 1 : Nat) : Int)
  c6 : (vb b g z).i (tE 106) = 0
  c7 : (vb b g z).i (tE 107) = s
  c8 : (vb b g z).b (tE 108) = bf.1
  c9 : (vb b g z).s (tE 109) = bf.2
  c10 : (vb b g z).b (tE 110) = af.1
  c11 : (vb b g z).s (tE 111) = af.2
  okb : VCell bf.1 bf.2
  oka : VCell af.1 af.2
  at_ : IsAt (b 1).d ((m + 1 : Nat) : Int) (m : Int)
theorem lst_of {x : Wr} (h : JB n k (H ++ [x]) R b) : Lst b g z H.length x.1 x.2.1 x.2.2 := by
  have hx : ((H ++ [x]) ++ R)[H.length]? = some x := by rw [List.append_assoc, List.getElem?_append_right (Nat.le_refl _), Nat.sub_self]; rfl
  obtain ⟨ptx, pp, hrow⟩ := h.rw H.length x hx
  rw [Nat.zero_add] at hrow
  have hq : (b 1).d = iot (H.length + 1) := by rw [h.q, List.length_append, List.length_singleton]
  have e1 : (vb b g z).i tQ = (H.length : Int) := by
    refine (lq_i (g := g) (z := z) hq (-1)).trans ?_
    omega
  have e2 : (vb b g z).i tT = ((H.length + 1 : Nat) : Int) := iot_i hq (by omega) e1
  have hi : (vb b g z).i tU = (H.length : Int) := by
    show (vb b g z).i (.f2 1000 tT (.num (-1))) = _
    rw [(vb_std b g z).ex, e2, (vb_std b g z).num]; omega
  have hy : ((vb b g z).d (.v 0))[H.length]? = some _ := hrow
  obtain ⟨kind, tx, ptx', pp', ref, pg, sl, bs, bd, az, ad, er, _, _, _, _, _, _, _, _, hk⟩ := h.y.2 _ _ hrow
  have hv : VCell x.2.1.1 x.2.1.2 ∧ VCell x.2.2.1 x.2.2.2 := by
    simp only [enR, List.cons.injEq, DV.i.injEq, DV.b.injEq, DV.s.injEq, true_and, and_true] at er
    obtain ⟨rfl, rfl, rfl, rfl, rfl, rfl, rfl, e1, e2, e3, e4⟩ := er
    rw [e1, e2, e3, e4]
    rcases hk with ⟨_, _, c⟩ | ⟨_, _, _, c⟩ | ⟨q, _⟩
    · exact ⟨c.2.2.2.2.1, c.2.2.2.2.2⟩
    · exact ⟨c.2.2.2.2.1, c.2.2.2.2.2⟩
    · rcases q with q | q | q <;> cases q
  refine ⟨e2, e1, ci_row hy hi 0 (by decide) rfl, ci_row hy hi 6 (by decide) rfl, ci_row hy hi 7 (by decide) rfl, cb_row hy hi 8 (by decide) rfl, cs_row hy hi 9 (by decide) rfl, cb_row hy hi 10 (by decide) rfl, cs_row hy hi 11 (by decide) rfl, hv.1, hv.2, ?_⟩
  have hn := h.hn
  have n30 := h.n30
  rw [List.length_append, List.length_singleton] at hn
  refine ⟨by omega, ?_, ((H.length + 1 : Nat) : Int), ?_⟩
  · rw [hq, Int.toNat_natCast, iot_get (by omega)]
  · rw [hq]
    exact iot_asc (Int.le_refl _) (by omega)
theorem fI_ok (h : JU n k H R b) : ∀ f ∈ fI, f.holds QR (vb b g z) := by
  have h6 := h.n6
  have h7 := h.i7
  have n1 := h.n1
  have n30 := h.n30
  have hn := h.hn
  exact facts_cons ⟨(by show (1 : Int) ≤ (b 11).i; omega), (by show (b 11).i ≤ 30; omega)⟩ (facts_cons ⟨(by show (0 : Int) ≤ (b 12).i; omega), (by show (b 12).i ≤ 31; omega)⟩ (facts_cons ⟨(by show (-30 : Int) ≤ (b 12).i - (b 11).i; omega), (by show (b 12).i - (b 11).i ≤ 0; omega)⟩ facts_nil))
theorem fU_ok (h : JB n k H R b) : ∀ f ∈ fU, f.holds QR (vb b g z) := by
  have n1 := h.n1
  have n30 := h.n30
  have hn := h.hn
  have hl := h.len
  have hla := h.la
  have p0 := h.pl0
  have p1 := h.pl1
  have hd := h.du
  have hq : (((b 1).d.length : Nat) : Int) = H.length := by rw [h.q, iot_len]
  have asc : Asc (b 1).d (b 2).i := by
    rw [h.q, hla]
    exact iot_asc (by omega) (by omega)
  exact facts_cons ⟨(by show (1 : Int) ≤ (((b 0).d.length : Nat) : Int); omega), (by show (((b 0).d.length : Nat) : Int) ≤ 900; omega)⟩ (facts_cons ⟨(by show (1 : Int) ≤ (b 2).i; omega), (by show (b 2).i ≤ 900; omega)⟩ (facts_cons ⟨(by show (1 : Int) ≤ (b 3).i; omega), (by show (b 3).i ≤ 900; omega)⟩ (facts_cons ⟨(by show (0 : Int) ≤ (b 4).i; omega), (by show (b 4).i ≤ 0; omega)⟩
    (facts_cons ⟨(by show (0 : Int) ≤ (b 2).i - (((b 0).d.length : Nat) : Int); omega), (by show (b 2).i - (((b 0).d.length : Nat) : Int) ≤ 0; omega)⟩ (facts_cons ⟨(by show (-900 : Int) ≤ (b 3).i - (((b 0).d.length : Nat) : Int); omega), (by show (b 3).i - (((b 0).d.length : Nat) : Int) ≤ 0; omega)⟩
    (facts_cons ⟨(by show (-900 : Int) ≤ (b 4).i - (((b 0).d.length : Nat) : Int); omega), (by show (b 4).i - (((b 0).d.length : Nat) : Int) ≤ -1; omega)⟩ (facts_cons ⟨(by show (-900 : Int) ≤ (((b 1).d.length : Nat) : Int) - (((b 0).d.length : Nat) : Int); omega), (by show (((b 1).d.length : Nat) : Int) - (((b 0).d.length : Nat) : Int) ≤ 0; omega)⟩
    (facts_cons (show JV (b 0).d from h.y) (facts_cons (show Asc (b 1).d (b 2).i from asc) (facts_cons (h.cv 0 (by decide)) (facts_cons (h.cv 1 (by decide)) (facts_cons (h.cv 2 (by decide)) (facts_cons (h.cv 3 (by decide)) facts_nil)))))))))))))
theorem fg_ok {x : Wr} {k2 : Nat} (h : JB n k (H ++ [x]) R b) (L : Lst b g z H.length x.1 x.2.1 x.2.2) (hk : KSet k2 H) : ∀ f ∈ fg x.1 k2, f.holds QR (vb b g z) := by
  have n30 := h.n30
  have hn := h.hn
  have hl := h.len
  have hla := h.la
  rw [List.length_append, List.length_singleton] at hn
  have hq : (b 1).d = iot (H.length + 1) := by rw [h.q, List.length_append, List.length_singleton]
  have h1 : (1 : Int) ≤ ((H.length + 1 : Nat) : Int) ∧ ((H.length + 1 : Nat) : Int) ≤ 900 := by omega
  have h3 : (-900 : Int) ≤ ((H.length + 1 : Nat) : Int) - (((b 0).d.length : Nat) : Int) ∧ ((H.length + 1 : Nat) : Int) - (((b 0).d.length : Nat) : Int) ≤ 0 := by omega
  have h4 : (-900 : Int) ≤ ((H.length + 1 : Nat) : Int) - (b 2).i ∧ ((H.length + 1 : Nat) : Int) - (b 2).i ≤ 0 := by omega
  have hset : PSet (b 0).d ((vb b g z).d tD) k2 := by
    have e : (vb b g z).d tD = iot H.length := by
      show (vb b g z).d (.f2 1404 (.v 1) tQ) = _
      rw [(vb_std b g z).del, L.q]
      show (b 1).d.eraseIdx ((H.length : Int)).toNat = _
      rw [hq, Int.toNat_natCast, iot_del]
    rw [e]
    refine pset h.y (R := [x] ++ R) ?_ (by omega) hk
    rw [← List.append_assoc]; exact h.rw
  exact facts_cons (rg (lq0 hq) h1) (facts_cons (rg L.t h1) (facts_cons (df L.t h3) (facts_cons (df L.t h4) (facts_cons (rg L.c0 h1) (facts_cons (d0 L.c0 L.t) (facts_cons (df L.c0 h4) (facts_cons (df L.c0 h3) (facts_cons (rg L.c6 ⟨Int.le_refl 0, Int.le_refl 0⟩) (facts_cons (rg L.c7 ⟨Int.le_refl _, Int.le_refl _⟩)
    (facts_cons (show VCell ((vb b g z).b (tE 108)) ((vb b g z).s (tE 109)) from by rw [L.c8, L.c9]; exact L.okb) (facts_cons (show VCell ((vb b g z).b (tE 110)) ((vb b g z).s (tE 111)) from by rw [L.c10, L.c11]; exact L.oka)
    (facts_cons (show IsAt (b 1).d ((vb b g z).i (tE 100)) ((vb b g z).i tQ) from by rw [L.c0, L.q]; exact L.at_) (facts_cons (show PSet (b 0).d ((vb b g z).d tD) ((k2 : Int)).toNat from hset) facts_nil)))))))))))))
theorem sub5_ok {m s : Nat} {bf af : Cel} (h : Lst b g z m s bf af) (hcs : ((b (20 + 2 * s)).b, (b (21 + 2 * s)).s) = af) : ∀ y ∈ sub5 s, ∀ φ v, VC (vb b g z) φ y.1 v → VC (vb b g z) φ y.2 v := by
  intro y hy φ v hv
  have hy' : y = ((.sb (.v (20 + 2 * s)) : AC), (.sb (tE 110) : AC)) ∨ y = (.ss (.v (21 + 2 * s)), .ss (tE 111)) := by simpa [sub5] using hy
  rcases hy' with rfl | rfl
  · show v = .bool ((vb b g z).b (tE 110))
    rw [h.c10, ← hcs]; exact hv
  · show v = .string ((vb b g z).s (tE 111))
    rw [h.c11, ← hcs]; exact hv
theorem nb5 (g : Nm → Value) (z : Nat → Option Obj) (b : Nat → MV) : ∀ s, s < 4 → (r5 s).ok = true ∧ (nb b (r5 s) 0).d = (b 0).d ++ [enR (((b 0).d.length : Int) + 1) 2 1 (b 2).i (b 3).i ((vb b g z).i (tE 100)) 0 s ((vb b g z).b (tE 110)) ((vb b g z).s (tE 111)) ((vb b g z).b (tE 108)) ((vb b g z).s (tE 109))] ∧ (nb b (r5 s) 1).d = (b 1).d.eraseIdx ((vb b g z).i tQ).toNat
    ∧ (nb b (r5 s) 2).i = ((b 0).d.length : Int) + 1 ∧ (nb b (r5 s) 3).i = ((b 0).d.length : Int) + 1 ∧ (nb b (r5 s) 4).i = (b 4).i ∧ (nb b (r5 s) 11).i = (b 11).i ∧ (nb b (r5 s) 12).i = (b 12).i + 1
  | 0, _ => ⟨by decide, rfl, rfl, rfl, rfl, rfl, rfl, rfl⟩
  | 1, _ => ⟨by decide, rfl, rfl, rfl, rfl, rfl, rfl, rfl⟩
  | 2, _ => ⟨by decide, rfl, rfl, rfl, rfl, rfl, rfl, rfl⟩
  | 3, _ => ⟨by decide, rfl, rfl, rfl, rfl, rfl, rfl, rfl⟩
  | i + 4, h => absurd h (by omega)
theorem nc5 (g : Nm → Value) (z : Nat → Option Obj) (b : Nat → MV) : ∀ s, s < 4 → ∀ i, i < 4 → ((nb b (r5 s) (20 + 2 * i)).b, (nb b (r5 s) (21 + 2 * i)).s) = if i = s then ((vb b g z).b (tE 108), (vb b g z).s (tE 109)) else ((b (20 + 2 * i)).b, (b (21 + 2 * i)).s)
  | 0, _, 0, _ => rfl
  | 0, _, 1, _ => rfl
  | 0, _, 2, _ => rfl
  | 0, _, 3, _ => rfl
  | 1, _, 0, _ => rfl
  | 1, _, 1, _ => rfl
  | 1, _, 2, _ => rfl
  | 1, _, 3, _ => rfl
  | 2, _, 0, _ => rfl
  | 2, _, 1, _ => rfl
  | 2, _, 2, _ => rfl
  | 2, _, 3, _ => rfl
  | 3, _, 0, _ => rfl
  | 3, _, 1, _ => rfl
  | 3, _, 2, _ => rfl
  | 3, _, 3, _ => rfl
  | _, _, i + 4, h => absurd h (by omega)
  | s + 4, h, _, _ => absurd h (by omega)
theorem nx5 {x : Wr} {k2 : Nat} (h : JU n k (H ++ [x]) R b) (L : Lst b g z H.length x.1 x.2.1 x.2.2) (h4 : x.1 < 4) (hk : KSet k2 H) : JU n k2 H (x :: R) (nb b (r5 x.1)) := by
  obtain ⟨_, e0, e1, e2, e3, e4, e5, e6⟩ := nb5 g z b x.1 h4
  refine h.next (s := x.1) rfl L.okb L.oka ?_ ?_ e2 e3 e4 e5 e6 ?_ hk
  · rw [e0, L.c0, L.c8, L.c9, L.c10, L.c11]
  · rw [e1, L.q]; rfl
  · intro i hi
    have q := nc5 g z b x.1 h4 i hi
    rw [L.c8, L.c9] at q
    exact q
theorem step {x : Wr} {v : Nat} (hv : v < 2) (h : JU n k (H ++ [x]) R b) : Tri Tryz.prog N lwB (At w0 N (vb b g z) (stU v k)) fun e a w' => e = .normal ∧ ∃ v' k' b', (JU n k' H (x :: R) b' ∧ v' < 2 ∧ (k' = 0 → v' = 1)) ∧ At w0 N (vb b' g z) (stU v' k') a w' := by
  have L := lst_of (g := g) (z := z) h.toJB
  obtain ⟨h4, hb⟩ := h.ks.sl x (by simp)
  have hr := RU5 k h.ks.lt x.1 h4 hb
  unfold run5 at hr
  rw [Bool.and_eq_true, Bool.and_eq_true, Bool.and_eq_true] at hr
  obtain ⟨⟨r0, r1⟩, r2, r3⟩ := hr
  unfold run50m at r0
  unfold run50d at r1
  unfold run51m at r2
  unfold run51d at r3
  obtain ⟨c, c1, c2⟩ := h.ch
  obtain ⟨c0, q1, q2, q3⟩ := c1.last
  have hcs : ((b (20 + 2 * x.1)).b, (b (21 + 2 * x.1)).s) = x.2.2 := by
    rw [c2 x.1 h4, q3]
    unfold updC
    rw [if_pos rfl]
  have hk0 := h.ks.ne
  have hok := (nb5 g z b x.1 h4).1
  have hv2 : v = 0 ∨ v = 1 := by omega
  by_cases hm : ∃ y ∈ H, y.1 = x.1
  · obtain ⟨y, hy, e⟩ := hm
    have hks := h.ks.more hy e
    have hf := facts_app (fg_ok h.toJB L hks) (facts_app (fI_ok h) (fU_ok h.toJB))
    rcases hv2 with rfl | rfl
    · exact ((Tri.run (codeM _ _) (envR_ok hf) r0 (ren_nb hok)).pre fun a w' hat => At.map hat (subC_ok (sub5_ok L hcs))).post fun e a w' hq => ⟨hq.1, 0, k, _, ⟨nx5 h L h4 hks, by decide, fun e => absurd e hk0⟩, hq.2⟩
    · exact ((Tri.run (codeM _ _) (envR_ok hf) r2 (ren_nb hok)).pre fun a w' hat => At.map hat (subC_ok (sub5_ok L hcs))).post fun e a w' hq => ⟨hq.1, 1, k, _, ⟨nx5 h L h4 hks, by decide, fun _ => rfl⟩, hq.2⟩
  · have hks := h.ks.drop fun y hy e => hm ⟨y, hy, e⟩
    have hf := facts_app (fg_ok h.toJB L hks) (facts_app (fI_ok h) (fU_ok h.toJB))
    rcases hv2 with rfl | rfl
    · exact ((Tri.run (codeM _ _) (envR_ok hf) r1 (ren_nb hok)).pre fun a w' hat => At.map hat (subC_ok (sub5_ok L hcs))).post fun e a w' hq => ⟨hq.1, 1, _, _, ⟨nx5 h L h4 hks, by decide, fun _ => rfl⟩, hq.2⟩
    · exact ((Tri.run (codeM _ _) (envR_ok hf) r3 (ren_nb hok)).pre fun a w' hat => At.map hat (subC_ok (sub5_ok L hcs))).post fun e a w' hq => ⟨hq.1, 1, _, _, ⟨nx5 h L h4 hks, by decide, fun _ => rfl⟩, hq.2⟩
abbrev UJ := Nat × Nat × List Wr × List Wr × (Nat → MV)
def UAt (n : Nat) (w0 : World) (N : Nat) (g : Nm → Value) (z : Nat → Option Obj) (j : UJ ⊕ (List Wr × (Nat → MV))) (a : Act) (w : World) : Prop := match j with
  | .inl (v, k, H, R, b) => (JU n k H R b ∧ v < 2 ∧ (k = 0 → v = 1)) ∧ At w0 N (vb b g z) (stU v k) a w
  | .inr (W, b) => JE n W b ∧ At w0 N (vb b g z) sE7 a w
def UM (j : UJ ⊕ (List Wr × (Nat → MV))) : Nat := match j with
  | .inl (_, _, H, _, _) => H.length + 1
  | .inr _ => 0
theorem nF (b : Nat → MV) : (nb b rF 0).d = (b 0).d ++ [enR (((b 0).d.length : Int) + 1) 5 1 (b 2).i 0 0 0 0 false ⟨#[]⟩ false ⟨#[]⟩] ∧ (nb b rF 3).i = (b 3).i ∧ (nb b rF 4).i = (b 4).i ∧ (nb b rF 11).i = (b 11).i := ⟨rfl, rfl, rfl, rfl⟩
theorem nFc (b : Nat → MV) : ∀ i, i < 4 → (nb b rF (20 + 2 * i)).b = (b (20 + 2 * i)).b ∧ (nb b rF (21 + 2 * i)).s = (b (21 + 2 * i)).s
  | 0, _ => ⟨rfl, rfl⟩
  | 1, _ => ⟨rfl, rfl⟩
  | 2, _ => ⟨rfl, rfl⟩
  | 3, _ => ⟨rfl, rfl⟩
  | i + 4, h => absurd h (by omega)
theorem loopU : Tri Tryz.prog N (.block 0 (.loop lwB)) (fun a w' => ∃ j, UAt n w0 N g z j a w') fun e a w' => e = .normal ∧ ∃ W b, JE n W b ∧ At w0 N (vb b g z) sE0 a w' := by
  refine Tri.block ?_
  refine (Tri.loop (Post := fun e a w' => e = .exit 0 ∧ ∃ W b, JE n W b ∧ At w0 N (vb b g z) sE0 a w') UM (UAt n w0 N g z) fun j => ?_).post fun e a w' h => .inl ⟨.inr h.1, rfl, h.2⟩
  rcases j with ⟨v, k, H, R, b⟩ | ⟨W, b⟩
  · refine Tri.imp fun hj => ?_
    obtain ⟨hj, hv, hk⟩ := hj
    rcases List.eq_nil_or_concat H with rfl | ⟨H0, x, rfl⟩
    · have k0 := hj.ks.nil
      subst k0
      have v1 := hk rfl
      subst v1
      have hq : (((b 1).d.length : Nat) : Int) = 0 := by rw [hj.q, iot_len]; rfl
      have fq : ∀ f ∈ fQ0, f.holds QR (vb b g z) := facts_cons ⟨(by show (0 : Int) ≤ (((b 1).d.length : Nat) : Int); omega), (by show (((b 1).d.length : Nat) : Int) ≤ 0; omega)⟩ facts_nil
      obtain ⟨e0, e3, e4, e11⟩ := nF b
      exact (Tri.run (codeM _ _) (envR_ok (facts_app fq (facts_app (fI_ok hj) (fU_ok hj.toJB)))) runF (ren_nb (by decide))).post fun e a w' hq => .inl ⟨hq.1, .inr (R, nb b rF), (by show 0 < 0 + 1; decide), hj.fin e0 e3 e4 e11 (nFc b), hq.2⟩
    · rw [List.concat_eq_append] at hj
      refine (step hv hj).post fun e a w' hq => .inl ⟨hq.1, ?_⟩
      obtain ⟨_, v', k', b', h1, h2⟩ := hq
      exact ⟨.inl (v', k', H0, x :: R, b'), (by show H0.length + 1 < (H0.concat x).length + 1; simp), h1, h2⟩
  · refine Tri.imp fun hj => ?_
    have hid : rX.idEx [] = true := by decide
    refine (Tri.run (codeM _ _) (envR_ok facts_nil) runX (ren_nb (by decide))).post fun e a w' hq => .inr ⟨by rw [hq.1]; exact fun h => (nomatch h), hq.1, W, b, hj, ?_⟩
    have := hq.2
    rw [nb_all hid] at this
    exact this
theorem fE_ok {W : List Wr} (h : JE n W b) : ∀ f ∈ fE, f.holds QR (vb b g z) := by
  have n1 := h.n1
  have n30 := h.n30
  have hl := h.len
  have p0 := h.pl0
  have p1 := h.pl1
  have hd := h.du
  have h6 := h.n6
  have eD : (vb b g z).i (.f2 0 (.f2 2 (.num 2) (.v 11)) (.num 2)) = 2 * (b 11).i + 2 := by
    rw [(vb_std b g z).add, (vb_std b g z).mul, (vb_std b g z).num]
    show IntKind.i64.wrap (IntKind.i64.wrap (2 * (b 11).i) + 2) = _
    rw [wr64 (x := 2 * (b 11).i) (by omega), wr64 (by omega)]
  exact facts_cons ⟨(by show (4 : Int) ≤ (((b 0).d.length : Nat) : Int); omega), (by show (((b 0).d.length : Nat) : Int) ≤ 900; omega)⟩ (facts_cons ⟨(by show (1 : Int) ≤ (b 11).i; omega), (by show (b 11).i ≤ 30; omega)⟩ (facts_cons ⟨(by show (0 : Int) ≤ (b 4).i; omega), (by show (b 4).i ≤ 0; omega)⟩ (facts_cons ⟨(by show (1 : Int) ≤ (b 3).i; omega), (by show (b 3).i ≤ 900; omega)⟩
    (facts_cons ⟨(by show (-900 : Int) ≤ (b 3).i - (((b 0).d.length : Nat) : Int); omega), (by show (b 3).i - (((b 0).d.length : Nat) : Int) ≤ 0; omega)⟩ (facts_cons ⟨(by show (-900 : Int) ≤ (b 4).i - (((b 0).d.length : Nat) : Int); omega), (by show (b 4).i - (((b 0).d.length : Nat) : Int) ≤ -1; omega)⟩
    (facts_cons (show JV (b 0).d from h.y) (facts_cons (h.cv 0 (by decide)) (facts_cons (h.cv 1 (by decide)) (facts_cons (h.cv 2 (by decide)) (facts_cons (h.cv 3 (by decide))
    (facts_cons (by show (0 : Int) ≤ (((b 0).d.length : Nat) : Int) - (vb b g z).i (.f2 0 (.f2 2 (.num 2) (.v 11)) (.num 2)) ∧ (((b 0).d.length : Nat) : Int) - (vb b g z).i (.f2 0 (.f2 2 (.num 2) (.v 11)) (.num 2)) ≤ 0; rw [eD]; omega) (facts_cons (by show (4 : Int) ≤ (vb b g z).i (.f2 0 (.f2 2 (.num 2) (.v 11)) (.num 2)) ∧ (vb b g z).i (.f2 0 (.f2 2 (.num 2) (.v 11)) (.num 2)) ≤ 900; rw [eD]; omega) facts_nil))))))))))))
theorem JE.congr {W : List Wr} {b' : Nat → MV} (h : JE n W b) (e : ∀ j, j ≠ 13 → b' j = b j) : JE n W b' := by
  have e0 := e 0 (by decide)
  have e3 := e 3 (by decide)
  have e4 := e 4 (by decide)
  have e11 := e 11 (by decide)
  have ec : ∀ i, b' (20 + 2 * i) = b (20 + 2 * i) := fun i => e _ (by omega)
  have ed : ∀ i, b' (21 + 2 * i) = b (21 + 2 * i) := fun i => e _ (by omega)
  exact ⟨h.n1, h.n30, h.hn, by rw [e0]; exact h.y, by rw [e0]; exact h.len, by rw [e3]; exact h.pl0, by rw [e3, e0]; exact h.pl1, by rw [e4]; exact h.du, by rw [e0]; exact h.rw, by rw [e0]; exact h.ab, by rw [e0]; exact h.un, by rw [e0]; exact h.en, h.sa, fun i hi => by rw [ec, ed]; exact h.cv i hi, by rw [e11]; exact h.n6⟩
theorem seq_ok {s t : ByteArray} (h : s = t) : ((s.toList == t.toList) = true) := by rw [h]; exact beq_self_eq_true _
theorem roundT {W : List Wr} (h : JE n W b) (i0 : 0 ≤ (b 13).i) (hlt : (b 13).i < n) : Tri Tryz.prog N lwT (At w0 N (vb b g z) sT2) fun e a w' => e = .normal ∧ ∃ b', (JE n W b' ∧ (b' 13).i = (b 13).i + 1) ∧ At w0 N (vb b' g z) sT2 a w' := by
  have n1 := h.n1
  have n30 := h.n30
  have hn := h.hn
  have hl := h.len
  have hd := h.du
  have h6 := h.n6
  obtain ⟨i, hi⟩ := Int.eq_ofNat_of_zero_le i0
  have hin : i < n := by omega
  obtain ⟨x, hx⟩ := list_cases (d := W) (i := n - 1 - i) (by omega)
  obtain ⟨ptx, pp, ra⟩ := h.rw (n - 1 - i) x hx
  rw [Nat.zero_add] at ra
  obtain ⟨ptx', pp', rb⟩ := h.un i x (by rw [List.getElem?_reverse (by omega), show W.length - 1 - i = n - 1 - i by omega]; exact hx)
  have hs := h.sa x (List.mem_of_getElem? hx)
  have eA : (vb b g z).i tA = ((n - 1 - i : Nat) : Int) := by
    show (vb b g z).i (.f2 1000 (.f2 1 (.v 11) (.v 13)) (.num (-1))) = _
    rw [(vb_std b g z).ex, (vb_std b g z).sub, (vb_std b g z).num]
    show IntKind.i64.wrap ((b 11).i - (b 13).i) + -1 = _
    rw [wr64 (by omega)]
    omega
  have eB : (vb b g z).i tB = ((n + 1 + i : Nat) : Int) := by
    show (vb b g z).i (.f2 1000 (.f2 0 (.f2 1000 (.v 11) (.num 2)) (.v 13)) (.num (-1))) = _
    rw [(vb_std b g z).ex, (vb_std b g z).add, (vb_std b g z).ex, (vb_std b g z).num, (vb_std b g z).num]
    show IntKind.i64.wrap ((b 11).i + 2 + (b 13).i) + -1 = _
    rw [wr64 (by omega)]
    omega
  have eA' : (vb b g z).i (.f2 1 (.v 11) (.v 13)) = (n : Int) - i := by
    rw [(vb_std b g z).sub]
    show IntKind.i64.wrap ((b 11).i - (b 13).i) = _
    rw [wr64 (by omega)]
    omega
  have eB' : (vb b g z).i (.f2 0 (.f2 1000 (.v 11) (.num 2)) (.v 13)) = (n : Int) + 2 + i := by
    rw [(vb_std b g z).add, (vb_std b g z).ex, (vb_std b g z).num]
    show IntKind.i64.wrap ((b 11).i + 2 + (b 13).i) = _
    rw [wr64 (by omega)]
    omega
  have ya : ((vb b g z).d (.v 0))[n - 1 - i]? = some _ := ra
  have yb : ((vb b g z).d (.v 0))[n + 1 + i]? = some _ := rb
  have a0 : (vb b g z).i (.f2 100 (.v 0) tA) = ((n - 1 - i : Nat) : Int) + 1 := ci_row ya eA 0 (by decide) rfl
  have a6 : (vb b g z).i (.f2 106 (.v 0) tA) = 0 := ci_row ya eA 6 (by decide) rfl
  have a7 : (vb b g z).i (.f2 107 (.v 0) tA) = x.1 := ci_row ya eA 7 (by decide) rfl
  have a8 : (vb b g z).b (.f2 108 (.v 0) tA) = x.2.1.1 := cb_row ya eA 8 (by decide) rfl
  have a9 : (vb b g z).s (.f2 109 (.v 0) tA) = x.2.1.2 := cs_row ya eA 9 (by decide) rfl
  have a10 : (vb b g z).b (.f2 110 (.v 0) tA) = x.2.2.1 := cb_row ya eA 10 (by decide) rfl
  have a11 : (vb b g z).s (.f2 111 (.v 0) tA) = x.2.2.2 := cs_row ya eA 11 (by decide) rfl
  have b1 : (vb b g z).i (.f2 101 (.v 0) tB) = 2 := ci_row yb eB 1 (by decide) rfl
  have b2 : (vb b g z).i (.f2 102 (.v 0) tB) = 1 := ci_row yb eB 2 (by decide) rfl
  have b5 : (vb b g z).i (.f2 105 (.v 0) tB) = ((n - i : Nat) : Int) := ci_row yb eB 5 (by decide) rfl
  have b6 : (vb b g z).i (.f2 106 (.v 0) tB) = 0 := ci_row yb eB 6 (by decide) rfl
  have b7 : (vb b g z).i (.f2 107 (.v 0) tB) = x.1 := ci_row yb eB 7 (by decide) rfl
  have b8 : (vb b g z).b (.f2 108 (.v 0) tB) = x.2.2.1 := cb_row yb eB 8 (by decide) rfl
  have b9 : (vb b g z).s (.f2 109 (.v 0) tB) = x.2.2.2 := cs_row yb eB 9 (by decide) rfl
  have b10 : (vb b g z).b (.f2 110 (.v 0) tB) = x.2.1.1 := cb_row yb eB 10 (by decide) rfl
  have b11 : (vb b g z).s (.f2 111 (.v 0) tB) = x.2.1.2 := cs_row yb eB 11 (by decide) rfl
  have fT : ∀ f ∈ fT, f.holds QR (vb b g z) := facts_cons ⟨i0, (by show (b 13).i ≤ 30; omega)⟩ (facts_cons ⟨(by show (1 : Int) ≤ (b 11).i; omega), (by show (b 11).i ≤ 30; omega)⟩ (facts_cons ⟨(by show (-30 : Int) ≤ (b 13).i - (b 11).i; omega), (by show (b 13).i - (b 11).i ≤ -1; omega)⟩
    (facts_cons ⟨(by show (4 : Int) ≤ (((b 0).d.length : Nat) : Int); omega), (by show (((b 0).d.length : Nat) : Int) ≤ 900; omega)⟩ (facts_cons ⟨(by show (0 : Int) ≤ (b 4).i; omega), (by show (b 4).i ≤ 0; omega)⟩ (facts_cons ⟨(by show (-900 : Int) ≤ (b 4).i - (((b 0).d.length : Nat) : Int); omega), (by show (b 4).i - (((b 0).d.length : Nat) : Int) ≤ -1; omega)⟩ (facts_cons (show JV (b 0).d from h.y)
    (facts_cons (rg eA' (show (1 : Int) ≤ (n : Int) - i ∧ (n : Int) - i ≤ 30 by omega)) (facts_cons (df eA' (by show (-900 : Int) ≤ (n : Int) - i - (((b 0).d.length : Nat) : Int) ∧ (n : Int) - i - (((b 0).d.length : Nat) : Int) ≤ -1; omega)) (facts_cons (rg eB' (show (3 : Int) ≤ (n : Int) + 2 + i ∧ (n : Int) + 2 + i ≤ 900 by omega)) (facts_cons (df eB' (by show (-900 : Int) ≤ (n : Int) + 2 + i - (((b 0).d.length : Nat) : Int) ∧ (n : Int) + 2 + i - (((b 0).d.length : Nat) : Int) ≤ -1; omega))
    (facts_cons (rg b1 ⟨Int.le_refl 2, Int.le_refl 2⟩) (facts_cons (d0 b5 (a0.trans (by omega))) (facts_cons (rg b2 ⟨Int.le_refl 1, Int.le_refl 1⟩) (facts_cons (rg a0 (show (1 : Int) ≤ ((n - 1 - i : Nat) : Int) + 1 ∧ ((n - 1 - i : Nat) : Int) + 1 ≤ 900 by omega)) (facts_cons (rg b5 (show (1 : Int) ≤ ((n - i : Nat) : Int) ∧ ((n - i : Nat) : Int) ≤ 900 by omega)) (facts_cons (d0 b6 a6) (facts_cons (d0 b7 a7) (facts_cons (rg a6 ⟨Int.le_refl 0, Int.le_refl 0⟩) (facts_cons (rg b6 ⟨Int.le_refl 0, Int.le_refl 0⟩) (facts_cons (rg a7 (show (0 : Int) ≤ (x.1 : Int) ∧ (x.1 : Int) ≤ 3 by omega)) (facts_cons (rg b7 (show (0 : Int) ≤ (x.1 : Int) ∧ (x.1 : Int) ≤ 3 by omega))
    (facts_cons (seq_ok (b9.trans a11.symm)) (facts_cons (seq_ok (b11.trans a9.symm)) facts_nil)))))))))))))))))))))))
  have fb : ∀ f ∈ fTb x.2.1.1 x.2.2.1, f.holds QR (vb b g z) := facts_cons a8 (facts_cons a10 (facts_cons b8 (facts_cons b10 facts_nil)))
  have nxt : JE n W (nb b rR) ∧ (nb b rR 13).i = (b 13).i + 1 := ⟨h.congr fun j hj => nb_id (S := [13]) (by decide) (by simp [hj]), rfl⟩
  cases hp : x.2.1.1 <;> cases hq : x.2.2.1 <;> rw [hp, hq] at fb
  · exact (Tri.run (codeM _ _) (envR_ok (facts_app fT fb)) runR00 (ren_nb (by decide))).post fun e a w' hq => ⟨hq.1, nb b rR, nxt, hq.2⟩
  · exact (Tri.run (codeM _ _) (envR_ok (facts_app fT fb)) runR01 (ren_nb (by decide))).post fun e a w' hq => ⟨hq.1, nb b rR, nxt, hq.2⟩
  · exact (Tri.run (codeM _ _) (envR_ok (facts_app fT fb)) runR10 (ren_nb (by decide))).post fun e a w' hq => ⟨hq.1, nb b rR, nxt, hq.2⟩
  · exact (Tri.run (codeM _ _) (envR_ok (facts_app fT fb)) runR11 (ren_nb (by decide))).post fun e a w' hq => ⟨hq.1, nb b rR, nxt, hq.2⟩
theorem loopT {W : List Wr} : Tri Tryz.prog N (.block 2 (.loop lwT)) (fun a w' => ∃ b, (JE n W b ∧ 0 ≤ (b 13).i ∧ (b 13).i ≤ n) ∧ At w0 N (vb b g z) sT2 a w') fun e a w' => e = .normal ∧ ∃ b, JE n W b ∧ At w0 N (vb b g z) sE0 a w' := by
  refine Tri.block ?_
  refine (Tri.loop (Post := fun e a w' => e = .exit 2 ∧ ∃ b, JE n W b ∧ At w0 N (vb b g z) sE0 a w') (fun b : Nat → MV => n - (b 13).i.toNat) (fun b a w' => (JE n W b ∧ 0 ≤ (b 13).i ∧ (b 13).i ≤ n) ∧ At w0 N (vb b g z) sT2 a w') fun b => Tri.imp fun hj => ?_).post fun e a w' h => .inl ⟨.inr h.1, rfl, h.2⟩
  obtain ⟨hj, h0, h1⟩ := hj
  by_cases hlt : (b 13).i < n
  · refine (roundT hj h0 hlt).post fun e a w' hq => .inl ⟨hq.1, ?_⟩
    obtain ⟨_, b', ⟨h2, h3⟩, h4⟩ := hq
    exact ⟨b', (by show n - (b' 13).i.toNat < n - (b 13).i.toNat; rw [h3]; omega), ⟨h2, by omega, by omega⟩, h4⟩
  · have h6 := hj.n6
    have n1 := hj.n1
    have n30 := hj.n30
    have fx : ∀ f ∈ fTx, f.holds QR (vb b g z) := facts_cons ⟨h0, (by show (b 13).i ≤ 30; omega)⟩ (facts_cons ⟨(by show (1 : Int) ≤ (b 11).i; omega), (by show (b 11).i ≤ 30; omega)⟩ (facts_cons ⟨(by show (0 : Int) ≤ (b 13).i - (b 11).i; omega), (by show (b 13).i - (b 11).i ≤ 0; omega)⟩ facts_nil))
    exact (Tri.run (codeM _ _) (envR_ok fx) runY (ren_nb (by decide))).post fun e a w' hq => .inr ⟨by rw [hq.1]; exact fun h => (nomatch h), hq.1, nb b rY, hj.congr fun j hj => nb_id (S := [13]) (by decide) (by simp [hj]), hq.2⟩
theorem end_tri {W : List Wr} (h : JE n W b) : Tri Tryz.prog N lwE (At w0 N (vb b g z) sE0) fun e a w' => e = .ret ∧ ∃ ρ' s', saysTrue lwRes s' = true ∧ At w0 N ρ' s' a w' := by
  have n1 := h.n1
  have n30 := h.n30
  have hl := h.len
  have h6 := h.n6
  obtain ⟨pa, ra⟩ := h.ab
  obtain ⟨pe, re⟩ := h.en
  have eD : (vb b g z).i (.f2 0 (.f2 2 (.num 2) (.v 11)) (.num 1)) = ((2 * n + 1 : Nat) : Int) := by
    rw [(vb_std b g z).add, (vb_std b g z).mul, (vb_std b g z).num, (vb_std b g z).num]
    show IntKind.i64.wrap (IntKind.i64.wrap (2 * (b 11).i) + 1) = _
    rw [wr64 (x := 2 * (b 11).i) (by omega), wr64 (by omega)]
    omega
  have ya : ((vb b g z).d (.v 0))[n]? = some _ := ra
  have ye : ((vb b g z).d (.v 0))[2 * n + 1]? = some _ := re
  have ka : (vb b g z).i (.f2 101 (.v 0) (.v 11)) = 4 := ci_row ya (show (vb b g z).i (.v 11) = n from h6) 1 (by decide) rfl
  have ke : (vb b g z).i (.f2 101 (.v 0) (.f2 0 (.f2 2 (.num 2) (.v 11)) (.num 1))) = 5 := ci_row ye eD 1 (by decide) rfl
  have fl : ∀ f ∈ fL, f.holds QR (vb b g z) := facts_cons ⟨(by show (1 : Int) ≤ (b 11).i; omega), (by show (b 11).i ≤ 30; omega)⟩ (facts_cons ⟨(by show (4 : Int) ≤ (((b 0).d.length : Nat) : Int); omega), (by show (((b 0).d.length : Nat) : Int) ≤ 900; omega)⟩ (facts_cons ⟨(by show (-900 : Int) ≤ (b 11).i - (((b 0).d.length : Nat) : Int); omega), (by show (b 11).i - (((b 0).d.length : Nat) : Int) ≤ -1; omega)⟩
    (facts_cons (rg eD (show (3 : Int) ≤ ((2 * n + 1 : Nat) : Int) ∧ ((2 * n + 1 : Nat) : Int) ≤ 900 by omega)) (facts_cons (df eD (by show (-900 : Int) ≤ ((2 * n + 1 : Nat) : Int) - (((b 0).d.length : Nat) : Int) ∧ ((2 * n + 1 : Nat) : Int) - (((b 0).d.length : Nat) : Int) ≤ -1; omega)) (facts_cons (rg ka ⟨Int.le_refl 4, Int.le_refl 4⟩) (facts_cons (rg ke ⟨Int.le_refl 5, Int.le_refl 5⟩) facts_nil))))))
  exact (Tri.run (codeM _ _) (envR_ok fl) runL_ (ren_nb (r := {}) (by decide))).post fun e a w' hq => ⟨hq.1, _, _, saysT, hq.2⟩
theorem rest_tri (h : JB n k H [] b) (hk : k ≠ 0) (h50 : (b 50).d = d50) (hn : n = d50.length) : Tri Tryz.prog N lw2 (At w0 N (vb b g z) (stA k)) fun e a w' => e = .ret ∧ ∃ ρ' s', saysTrue lwRes s' = true ∧ At w0 N ρ' s' a w' := by
  have n1 := h.n1
  have n30 := h.n30
  have hr := (Bool.and_eq_true_iff.1 (Bool.and_eq_true_iff.1 (RUq k h.ks.lt hk)).2).2
  unfold run2 at hr
  have hcut : cutA 1 lw2 = some (cutL 1 lw2, .seq (.seq lwRi (.block (nat_lit 0) (.loop lwB))) lw3) := by rw [← lwX_eq]; exact cutL2
  have hcut3 : cutA 1 lw3 = some (cutL 1 lw3, .seq (.seq lwRj (.block (nat_lit 2) (.loop lwT))) lwE) := by rw [← lwY_eq]; exact cutL3
  refine Tri.pre_loop (codeM _ _) (envR_ok (fC_ok h50 (by omega) (by omega))) hcut hr (ren_nb (by decide)) (Mid := fun a w' => ∃ W b, JE n W b ∧ At w0 N (vb b g z) sE0 a w') ?_ ?_
  · refine ((loopU (n := n)).pre fun a w' hat => ⟨.inl (0, k, H, [], nb b ru), ⟨⟨h.congr fun j h1 h2 => nb_id (S := [11, 12]) (by decide) (by simp [h1, h2]), (by show (((b 50).d.length : Nat) : Int) = _; rw [h50, hn]), rfl⟩, by decide, fun e => absurd e hk⟩, hat⟩).post fun e a w' h => .inl h
  · refine Tri.ex fun W => Tri.ex fun b' => Tri.imp fun hj => ?_
    have hid : rK.idEx [] = true := by decide
    refine Tri.pre_run (codeM _ _) (envR_ok (fE_ok hj)) hcut3 runK (ren_nb (by decide)) ?_
    rw [nb_all hid]
    refine Tri.seq (Mid := fun a w' => ∃ b, JE n W b ∧ At w0 N (vb b g z) sE0 a w') ?_ (Tri.ex fun b2 => Tri.imp fun h2 => end_tri h2)
    refine Tri.seq (Mid := fun a w' => ∃ b, (JE n W b ∧ 0 ≤ (b 13).i ∧ (b 13).i ≤ n) ∧ At w0 N (vb b g z) sT2 a w') ?_ (loopT.post fun e a w' h => .inl h)
    exact (Tri.run (codeM _ _) (envR_ok facts_nil) runJ (ren_nb (by decide))).post fun e a w' hq => .inl ⟨hq.1, nb b' rT, ⟨hj.congr fun j hj => nb_id (S := [13]) (by decide) (by simp [hj]), (by show (0 : Int) ≤ 0; decide), (by show (0 : Int) ≤ n; omega)⟩, hq.2⟩
theorem law_all (hb : Byt d50) (h50 : (b 50).d = d50) (hm : d50.length ≤ 9223372036854775807) : Tri Tryz.prog N lwBody (At w0 N (vb b g z) s0L) fun e a w' => e = .ret ∧ ∃ ρ' s', saysTrue lwRes s' = true ∧ At w0 N ρ' s' a w' := by
  have hf : (((b 50).d.length : Nat) : Int) = d50.length := by rw [h50]
  by_cases hl : d50.length ≤ 30
  · by_cases hl0 : 1 ≤ d50.length
    · refine Tri.pre_run (codeM _ _) (envR_ok (fC_ok h50 hl0 hl)) cutL1 runP (ren_nb (by decide)) ?_
      rw [lw1_eq]
      refine Tri.seq (Mid := fun a w => ∃ z' k H b', (k ≠ 0 ∧ JB d50.length k H [] b' ∧ (b' 50).d = d50) ∧ At w0 N (vb b' g z') (stA k) a w) ((call_tri (b := nb b rP) hb hl0 hl h50).post fun e a w h => .inl h) ?_
      exact Tri.ex fun z' => Tri.ex fun k' => Tri.ex fun H => Tri.ex fun b' => Tri.imp fun h => rest_tri h.2.1 h.1 h.2.2 rfl
    · exact (Tri.run (codeM _ _) (envR_ok (F := fB) (facts_cons ⟨(by show (0 : Int) ≤ (((b 50).d.length : Nat) : Int); omega), (by show (((b 50).d.length : Nat) : Int) ≤ 0; omega)⟩ facts_nil)) runTB (ren_nb (r := {}) (by decide))).post fun e a w' hq => ⟨hq.1, _, _, saysT, hq.2⟩
  · exact (Tri.run (codeM _ _) (envR_ok (F := fA) (facts_cons ⟨(by show (31 : Int) ≤ (((b 50).d.length : Nat) : Int); omega), (by show (((b 50).d.length : Nat) : Int) ≤ 9223372036854775807; omega)⟩ facts_nil)) runTA (ren_nb (r := {}) (by decide))).post fun e a w' hq => ⟨hq.1, _, _, saysT, hq.2⟩
end
end Go.Proofs.YtnofmmceafkkoaaGreat
