/-
  A function whose first argument is a slice of unknown capacity: run twice, once for 'full', once for 'room for one more'. No function of the program is named here.
-/
import Derived.Test.YtjnfgapfhpihmaaGreatEvG
set_option linter.unusedVariables false
set_option linter.unusedSimpArgs false
namespace Go.Proofs.YtjnfgapfhpihmaaGreat
open Go.RowKit
def binGe : BinOp → AC → AC → Option AC
  | .gtr, .i .i64 n, .ge lo => bif decide (n ≤ (lo : Int)) then some (.b false) else none
  | _, _, _ => none
def envI : Env := ⟨fun _ => True, fun _ _ _ => none, fun _ => none, fun _ _ _ => none, binGe, fun _ _ _ => none, fun _ => none, fun _ _ => none, fun _ _ _ _ => none, fun _ _ _ => none, fun _ _ _ => none, fun _ _ => none, fun _ _ => false, fun _ => none⟩
theorem envI_ok (ρ : Vn) : EnvOk envI ρ := by
  refine ⟨trivial, fun _ _ _ _ h => (nomatch h), ?_, fun _ _ h => (nomatch h), fun _ _ _ _ h => (nomatch h), fun _ _ _ _ h => (nomatch h), fun _ _ h => (nomatch h), fun _ _ _ h => (nomatch h), fun _ _ _ _ _ h => (nomatch h), fun _ _ _ _ h => (nomatch h), fun _ _ _ _ h => (nomatch h), fun _ _ _ h => (nomatch h), fun _ _ h => (nomatch h), fun _ _ h => (nomatch h)⟩
  intro op u v r e φ x y hx hy P t p q w
  have e' : binGe op u v = some r := e
  unfold binGe at e'
  split at e'
  · rename_i n lo
    obtain ⟨m, rfl, hm⟩ := hy
    rw [show x = .int .i64 n from hx]
    cases hd : decide (n ≤ (lo : Int)) with
    | false => rw [hd] at e'; cases e'
    | true =>
      rw [hd] at e'
      cases e'
      have hn := of_decide_eq_true hd
      have hlt : ¬ (m : Int) < n := by omega
      obtain ⟨z, hz1, hz2⟩ := slow_run (ρ := ρ) (φ := φ) (P := P) (w := w) (show slow .gtr .i64 n (m : Int) = some (.b false) from by show some (AC.b (decide ((m : Int) < n))) = _; rw [decide_eq_false hlt]) t p q
      exact ⟨z, hz2, hz1⟩
  · cases e'
def noFn : AC → Bool
  | .fn .. => false
  | .ds .. => false
  | .pd .. => false
  | .dc .. => false
  | .sr .. => false
  | _ => true
theorem VC.back {ρ : Vn} {φ φ1 : Emb} (hl : φ.le φ1) {x : AC} {v0 v : Value} (hf : noFn x = true) (h0 : VC ρ φ x v0) (h1 : VC ρ φ1 x v) : VC ρ φ x v := by
  cases x with
  | p id off => obtain ⟨b, base, tot, a1, _⟩ := h0; obtain ⟨b', base', tot', a2, a3⟩ := h1; rw [hl _ _ a1] at a2; cases a2; exact ⟨b, base, tot, a1, a3⟩
  | sl id off len cap => obtain ⟨b, base, tot, a1, _⟩ := h0; obtain ⟨b', base', tot', a2, a3⟩ := h1; rw [hl _ _ a1] at a2; cases a2; exact ⟨b, base, tot, a1, a3⟩
  | su id off len lb es => obtain ⟨b, base, tot, cap0, a1, _⟩ := h0; obtain ⟨b', base', tot', cap, a2, a3⟩ := h1; rw [hl _ _ a1] at a2; cases a2; exact ⟨b, base, tot, cap, a1, a3⟩
  | se id es => obtain ⟨b, base, tot, o0, cap0, a1, _⟩ := h0; obtain ⟨b', base', tot', o, cap, a2, a3⟩ := h1; rw [hl _ _ a1] at a2; cases a2; exact ⟨b, base, tot, o, cap, a1, a3⟩
  | mp id => obtain ⟨b, base, tot, a1, _⟩ := h0; obtain ⟨b', base', tot', a2, a3⟩ := h1; rw [hl _ _ a1] at a2; cases a2; exact ⟨b, base, tot, a1, a3⟩
  | fn f first caps => cases hf
  | ds e y => cases hf
  | pd e y t o => cases hf
  | dc e y => cases hf
  | sr id e y => cases hf
  | _ => exact h1
section
variable {ρ : Vn} {φ φ1 : Emb} {h k h1 : Hp} {w w1 : World}
theorem Rel.part (r : Rel ρ φ h w) (hn : k.next = h.next) (hk : ∀ j B, k.get j = some B → h.get j = some B) : Rel ρ φ k w := by
  have live : ∀ j, (k.get j).isSome → (h.get j).isSome := fun j hj => by
    cases hb : k.get j with
    | none => rw [hb] at hj; cases hj
    | some B => rw [hk j B hb]; rfl
  exact ⟨⟨fun j c e => r.cells j c (hk j _ e), fun j l e => r.maps j l (hk j _ e), fun j d y e => r.rows j d y (hk j _ e), fun i j x y hi hj => r.inj i j x y (live i hi) (live j hj), fun j hj => by rw [hn]; exact r.low j (live j hj), fun j hj => r.free j (by rw [hn] at hj; exact hj)⟩,
    ⟨r.frz.zin, fun b x hb => ⟨(r.frz.at_ b x hb).1, fun j y hj => (r.frz.at_ b x hb).2 j y (live j hj)⟩⟩⟩
def subH (h : Hp) (i : Bid) (c : List AC) (j : Bid) (d : List AC) : Hp := ⟨h.next, put3 (put3 (N16.rep (N16.rep (N16.rep none))) i (some (.cells c))) j (some (.cells d))⟩
theorem subH_get {i j m : Bid} {c d : List AC} {B : AB} (e : (subH h i c j d).get m = some B) : (m = j ∧ B = .cells d) ∨ (m = i ∧ B = .cells c) := by
  simp only [Hp.get, subH] at e
  by_cases hj : m = j
  · subst hj; rw [get3_put3] at e; cases e; exact .inl ⟨rfl, rfl⟩
  · rw [get3_put3_ne hj] at e
    by_cases hi : m = i
    · subst hi; rw [get3_put3] at e; cases e; exact .inr ⟨rfl, rfl⟩
    · rw [get3_put3_ne hi, get3_rep] at e; cases e
theorem sub_rel (r : Rel ρ φ h w) {i j : Bid} {c d : List AC} (hi : h.get i = some (.cells c)) (hj : h.get j = some (.cells d)) : Rel ρ φ (subH h i c j d) w :=
  r.part rfl fun m B e => by
    rcases subH_get e with ⟨rfl, rfl⟩ | ⟨rfl, rfl⟩
    · exact hj
    · exact hi
noncomputable def rowsB (k es : Nat) : RO → Option (List AC)
  | .ok (.c (.su m off len _ es')) h => bo (decide (len = k) && decide (es' = es)) (h.lds m off (k * es))
  | _ => none
def mem (rows c d : List AC) : Bool := rows.all fun x => noFn x && (decide (x ∈ c) || decide (x ∈ d))
theorem back_ok (r : Rel ρ φ h w) {i j n : Bid} {c d rows : List AC} (hi : h.get i = some (.cells c)) (hj : h.get j = some (.cells d)) (S : Stp ρ φ (subH h i c j d) w φ1 h1 w1) {v : AV} {u : Value} (hv : VV ρ φ1 v u) {k es : Nat} (hr : rowsB k es (.ok v h1) = some rows)
    (hm : mem rows c d = true) (hn : h.next.inc = some n) : ∃ φ', VV ρ φ' (.c (.su h.next 0 k k es)) u ∧ Stp ρ φ h w φ' (((h.drop i).drop j).more n (.cells rows)) w1 := by
  unfold rowsB at hr
  split at hr
  · rename_i m off len lb es' hh heq
    cases heq
    obtain ⟨hb1, hr2⟩ := bo_some hr
    obtain ⟨q1, q2⟩ := Bool.and_eq_true_iff.1 hb1
    have q1 := of_decide_eq_true q1
    have q2 := of_decide_eq_true q2
    subst q1 q2
    obtain ⟨b1, base1, tot1, cap1, p1, p2, p3, p4, p5⟩ := hv
    obtain ⟨c1, hc1, hl⟩ := ob_some hr2
    obtain ⟨bk, hb, hk⟩ := ob_some hc1
    cases bk with
    | map l => cases hk
    | row d y => cases hk
    | cells c' =>
      cases hk
      obtain ⟨b', base', arr, T, k1, k2, k3, k4⟩ := S.rel.cells m c1 hb
      obtain ⟨hrows, hlen, hfit⟩ := lsub_some hl
      rw [p1] at k1
      cases k1
      have hmlive : (h1.get m).isSome := by rw [hb]; rfl
      have hle := Emb.le_add (r.free h.next (Nat.le_refl _)) (b1, base1 + off, arr.size)
      have hnn := Bid.inc_num hn
      have hnot : h.get h.next = none := by
        cases hx : h.get h.next with
        | none => rfl
        | some y => have := r.low h.next (by rw [hx]; rfl); omega
      have get' : ∀ g, g ≠ h.next → (((h.drop i).drop j).more n (.cells rows)).get g = ((h.drop i).drop j).get g := fun g hg => Hp.get_more_ne (h := (h.drop i).drop j) hg n _
      have same : (((h.drop i).drop j).more n (.cells rows)).get h.next = some (.cells rows) := Hp.get_more_same ((h.drop i).drop j) n _
      have old : ∀ g B, g ≠ h.next → (((h.drop i).drop j).more n (.cells rows)).get g = some B → g ≠ i ∧ g ≠ j ∧ h.get g = some B := by
        intro g B hg e
        rw [get' g hg] at e
        have gj : g ≠ j := by rintro rfl; rw [show ((h.drop i).drop g).get g = none from Hp.get_putB _ _ _] at e; cases e
        rw [show ((h.drop i).drop j).get g = (h.drop i).get g from Hp.get_putB_ne gj _ _] at e
        have gi : g ≠ i := by rintro rfl; rw [show (h.drop g).get g = none from Hp.get_putB _ _ _] at e; cases e
        rw [show (h.drop i).get g = h.get g from Hp.get_putB_ne gi _ _] at e
        exact ⟨gi, gj, e⟩
      have oldl : ∀ g, g ≠ h.next → ((((h.drop i).drop j).more n (.cells rows)).get g).isSome → g ≠ i ∧ g ≠ j ∧ (h.get g).isSome := by
        intro g hg e
        cases hB : (((h.drop i).drop j).more n (.cells rows)).get g with
        | none => rw [hB] at e; cases e
        | some B => obtain ⟨a1, a2, a3⟩ := old g B hg hB; exact ⟨a1, a2, by rw [a3]; rfl⟩
      have sublive : ∀ g, ((subH h i c j d).get g).isSome → (g = i ∨ g = j) ∧ (h.get g).isSome := by
        intro g e
        cases hB : (subH h i c j d).get g with
        | none => rw [hB] at e; cases e
        | some B =>
          rcases subH_get hB with ⟨rfl, rfl⟩ | ⟨rfl, rfl⟩
          · exact ⟨.inr rfl, by rw [hj]; rfl⟩
          · exact ⟨.inl rfl, by rw [hi]; rfl⟩
      have keep : ∀ g x, g ≠ i → g ≠ j → (h.get g).isSome → φ g = some x → w1.heap[x.1]? = w.heap[x.1]? := by
        intro g x gi gj hg hx
        refine S.frame x.1 (r.block hg hx) fun g' x' hg' hx' he => ?_
        obtain ⟨a1, a2⟩ := sublive g' hg'
        have := r.inj g' g x' x a2 hg hx' hx he
        rcases a1 with rfl | rfl
        · exact gi this.symm
        · exact gj this.symm
      have apart : ∀ g x, g ≠ i → g ≠ j → (h.get g).isSome → φ g = some x → b1 ≠ x.1 := by
        intro g x gi gj hg hx he
        obtain ⟨g', x', a1, a2, a3⟩ := S.sub m _ hmlive p1 (by show b1 < _; rw [he]; exact r.block hg hx)
        obtain ⟨a4, a5⟩ := sublive g' a1
        have := r.inj g' g x' x a5 hg a2 hx (a3.trans he)
        rcases a4 with rfl | rfl
        · exact gi this.symm
        · exact gj this.symm
      have vals : ∀ (o : Nat) x, rows[o]? = some x → ∃ v, arr[base1 + off + o]? = some v ∧ VC ρ φ x v := by
        intro o x hx
        have hx' : c1[off + o]? = some x := by
          rw [hrows, List.getElem?_take] at hx
          split at hx
          · rwa [List.getElem?_drop] at hx
          · cases hx
        obtain ⟨v, a1, a2⟩ := k4 _ _ hx'
        refine ⟨v, by rw [Nat.add_assoc]; exact a1, ?_⟩
        have hmx := List.all_eq_true.1 hm x (List.mem_of_getElem? hx)
        obtain ⟨f1, f2⟩ := Bool.and_eq_true_iff.1 hmx
        have there : ∃ v0, VC ρ φ x v0 := by
          rcases Bool.or_eq_true_iff.1 f2 with f3 | f3
          · obtain ⟨o2, ho2⟩ := List.mem_iff_getElem?.1 (of_decide_eq_true f3)
            obtain ⟨_, _, _, _, _, _, _, z4⟩ := r.cells i c hi
            obtain ⟨v0, _, z5⟩ := z4 _ _ ho2
            exact ⟨v0, z5⟩
          · obtain ⟨o2, ho2⟩ := List.mem_iff_getElem?.1 (of_decide_eq_true f3)
            obtain ⟨_, _, _, _, _, _, _, z4⟩ := r.cells j d hj
            obtain ⟨v0, _, z5⟩ := z4 _ _ ho2
            exact ⟨v0, z5⟩
        obtain ⟨v0, hv0⟩ := there
        exact VC.back S.le f1 hv0 a2
      refine ⟨φ.add h.next (b1, base1 + off, arr.size), ⟨b1, base1 + off, arr.size, cap1, Emb.add_same _ _ _, by rw [p2]; rfl, Nat.le_refl _, Nat.le_trans p3 p4, by rw [Nat.add_zero]; exact p5⟩, ?_⟩
      refine Stp.mk' r.frz hle ⟨?_, ?_, ?_, ?_, ?_, ?_⟩ S.size ?_ ?_ ?_ ?_ S.os S.tape S.output
      · intro g cc hd
        by_cases hg : g = h.next
        · subst hg
          rw [same] at hd
          cases hd
          refine ⟨b1, base1 + off, arr, T, Emb.add_same _ _ _, k2, ?_, fun o x hx => ?_⟩
          · rw [hlen]; omega
          · obtain ⟨v, a1, a2⟩ := vals o x hx
            exact ⟨v, a1, a2.le hle⟩
        · obtain ⟨gi, gj, hd'⟩ := old g _ hg hd
          obtain ⟨b', base', arr', T', z1, z2, z3⟩ := r.cells g cc hd'
          exact ⟨b', base', arr', T', by rw [Emb.add_ne hg]; exact z1, by rw [keep g _ gi gj (by rw [hd']; rfl) z1]; exact z2, z3.le hle⟩
      · intro g l hd
        by_cases hg : g = h.next
        · subst hg; rw [same] at hd; cases hd
        · obtain ⟨gi, gj, hd'⟩ := old g _ hg hd
          obtain ⟨b', es, cl, z1, z2, z3⟩ := r.maps g l hd'
          exact ⟨b', es, cl, by rw [Emb.add_ne hg]; exact z1, by rw [keep g _ gi gj (by rw [hd']; rfl) z1]; exact z2, z3.mono fun _ _ h => ⟨h.1.le hle, h.2.le hle⟩⟩
      · intro g d y hd
        by_cases hg : g = h.next
        · subst hg; rw [same] at hd; cases hd
        · obtain ⟨gi, gj, hd'⟩ := old g _ hg hd
          obtain ⟨b', arr', T', z1, z2, z3⟩ := r.rows g d y hd'
          exact ⟨b', arr', T', by rw [Emb.add_ne hg]; exact z1, by rw [keep g _ gi gj (by rw [hd']; rfl) z1]; exact z2, z3.le hle.z⟩
      · intro g g' x y hg hg' hx hy he
        by_cases e1 : g = h.next
        · by_cases e2 : g' = h.next
          · rw [e1, e2]
          · subst e1
            rw [Emb.add_same] at hx
            cases hx
            obtain ⟨gi, gj, hl'⟩ := oldl g' e2 hg'
            rw [Emb.add_ne e2] at hy
            exact absurd he (apart g' y gi gj hl' hy)
        · by_cases e2 : g' = h.next
          · subst e2
            rw [Emb.add_same] at hy
            cases hy
            obtain ⟨gi, gj, hl'⟩ := oldl g e1 hg
            rw [Emb.add_ne e1] at hx
            exact absurd he.symm (apart g x gi gj hl' hx)
          · rw [Emb.add_ne e1] at hx
            rw [Emb.add_ne e2] at hy
            exact r.inj g g' x y (oldl g e1 hg).2.2 (oldl g' e2 hg').2.2 hx hy he
      · intro g hg
        show g.num < n.num
        by_cases e1 : g = h.next
        · rw [e1]; omega
        · have := r.low g (oldl g e1 hg).2.2
          omega
      · intro g hg
        have hg' : n.num ≤ g.num := hg
        have e1 : g ≠ h.next := by rintro rfl; omega
        rw [Emb.add_ne e1]
        exact r.free g (by omega)
      · intro b hb1 hb2
        refine S.frame b hb1 fun g x hg hx => hb2 g x (sublive g hg).2 hx
      · intro g x hg hx hlt
        by_cases e1 : g = h.next
        · subst e1
          rw [Emb.add_same] at hx
          cases hx
          obtain ⟨g', x', a1, a2, a3⟩ := S.sub m _ hmlive p1 hlt
          exact ⟨g', x', (sublive g' a1).2, a2, a3⟩
        · rw [Emb.add_ne e1] at hx
          exact ⟨g, x, (oldl g e1 hg).2.2, hx, rfl⟩
      · show h.next.num ≤ n.num
        omega
      · intro g hg
        by_cases e1 : g = h.next
        · subst e1; exact .inr (Nat.le_refl _)
        · rw [Emb.add_ne e1] at hg; exact .inl hg
  · cases hr
noncomputable def natSplit (call : CallF) (f : Bid) (vs : List AV) (h : Hp) : RO := orR (call f vs h) (match vs with
  | [.c (.su i off len lb es), x, .c (.sl j vo vl vc)] => ro (cellsOf (h.get i)) fun c => ro (cellsOf (h.get j)) fun d =>
    ro (rowsB (len + 1) es (call f [.c (.sl i off len len), x, .c (.sl j vo vl vc)] (subH h i c j d))) fun r1 =>
    ro (rowsB (len + 1) es (call f [.c (.su i off len (len + 1) es), x, .c (.sl j vo vl vc)] (subH h i c j d))) fun r2 =>
    br (decide (r1 = r2) && mem r1 c d) (new ((h.drop i).drop j) (.cells r1) fun n => .c (.su n 0 (len + 1) (len + 1) es))
  | _ => .no)
theorem cellsOf_some {o : Option AB} {c : List AC} (e : cellsOf o = some c) : o = some (.cells c) := by
  obtain ⟨b, rfl, e2⟩ := ob_some e
  cases b with
  | cells c' => cases e2; rfl
  | map l => cases e2
  | row d y => cases e2
theorem rowsB_some {k es : Nat} {r : RO} {rows : List AC} (e : rowsB k es r = some rows) : ∃ v h, r = .ok v h := by
  cases r with
  | no => cases e
  | ok v h => exact ⟨v, h, rfl⟩
theorem natSplit_ok {P : Program} {E : Env} {call : CallF} (hC : CallOk P envI call) {f : Bid} (ent : ∀ args w, (callFunc f.num args).run P w = .ok (.enter f.num args) w) : EntOk P E f (.natm (natSplit call f)) := by
  refine ⟨ent, ?_⟩
  intro vs v h h' hg ρ φ w us he hr hu
  rcases orR_ok hg with e | e
  · exact (hC f vs h v h' e).2 ρ φ w us (envI_ok ρ) hr hu
  · split at e
    · rename_i i off len lb es x j vo vl vc
      obtain ⟨c, h1, e1⟩ := ro_ok e
      obtain ⟨d, h2, e2⟩ := ro_ok e1
      obtain ⟨r1, h3, e3⟩ := ro_ok e2
      obtain ⟨r2, h4, e4⟩ := ro_ok e3
      obtain ⟨h5, e5⟩ := br_ok e4
      obtain ⟨h6, h7⟩ := Bool.and_eq_true_iff.1 h5
      have h6 := of_decide_eq_true h6
      subst h6
      obtain ⟨n, h8, rfl, rfl⟩ := new_ok e5
      have g1 := cellsOf_some h1
      have g2 := cellsOf_some h2
      have rs := sub_rel hr g1 g2
      cases hu with
      | cons a1 t1 =>
        obtain ⟨b, base, tot, cap, p1, p2, p3, p4, p5⟩ := a1
        by_cases hc : cap = len
        · subst hc
          obtain ⟨v1, k1, q1⟩ := rowsB_some h3
          rw [q1] at h3
          refine ((hC _ _ _ _ _ q1).2 ρ φ w _ (envI_ok ρ) rs (.cons (show VV ρ φ (.c (.sl i off cap cap)) _ from ⟨b, base, tot, p1, p2⟩) t1)).mono ?_
          rintro en w' ⟨u, φ1, rfl, hv, S⟩
          obtain ⟨φ', a1, a2⟩ := back_ok hr g1 g2 S hv h3 h7 h8
          exact ⟨u, φ', rfl, a1, a2⟩
        · obtain ⟨v1, k1, q1⟩ := rowsB_some h4
          rw [q1] at h4
          refine ((hC _ _ _ _ _ q1).2 ρ φ w _ (envI_ok ρ) rs (.cons (show VV ρ φ (.c (.su i off len (len + 1) es)) _ from ⟨b, base, tot, cap, p1, p2, by omega, by omega, p5⟩) t1)).mono ?_
          rintro en w' ⟨u, φ1, rfl, hv, S⟩
          obtain ⟨φ', a1, a2⟩ := back_ok hr g1 g2 S hv h4 h7 h8
          exact ⟨u, φ', rfl, a1, a2⟩
    · cases e
end
end Go.Proofs.YtjnfgapfhpihmaaGreat
