/-
  Contracts: rollback.of (the last pending change of a cell), slices.DeleteFunc at the closure of rollback.undo.
-/
import Derived.Test.YtnofmmceafkkoaaGreatRcF
set_option linter.unusedVariables false
set_option linter.unusedSimpArgs false
set_option maxRecDepth 100000
namespace Go.Proofs.YtnofmmceafkkoaaGreat
open Go.RowKit Go.Sort
theorem lastIx_none {y : List (List DV)} {s : Int} : ∀ {l : List Int}, lastIx y s l = none → ∀ n ∈ l, slotD y n ≠ s
  | [], _, n, h => nomatch h
  | m :: l, e, n, h => by
    unfold lastIx at e
    split at e
    · cases e
    · rename_i hne
      rcases List.mem_cons.1 h with rfl | h
      · exact hne
      · exact lastIx_none e n h
theorem lastIx_some {y : List (List DV)} {s : Int} : ∀ {l : List Int} {x : Int}, lastIx y s l = some x → ∃ n ∈ l, slotD y n = s ∧ x = n - 1
  | [], x, e => nomatch e
  | m :: l, x, e => by
    unfold lastIx at e
    split at e
    · rename_i he; cases e; exact ⟨m, List.mem_cons_self, he, rfl⟩
    · obtain ⟨n, h1, h2⟩ := lastIx_some e
      exact ⟨n, List.mem_cons_of_mem _ h1, h2⟩
def fdSet (F : List Fc) (y q : Nm) : Option Int := match F with
  | [] => none
  | .pr k [y', q', .num n] :: l => bif Nat.beq k 5 && (decide (y' = y) && decide (q' = q)) then some n else fdSet l y q
  | _ :: l => fdSet l y q
theorem fdSet_ok {ρ : Vn} (hs : StdF ρ) : ∀ {F : List Fc} {y q : Nm} {n : Int}, (∀ f ∈ F, f.holds QR ρ) → fdSet F y q = some n → PSet (ρ.d y) (ρ.d q) n.toNat
  | [], y, q, n, h, e => by cases e
  | f :: l, y, q, n, h, e => by
    have ih := fun e' => fdSet_ok hs (F := l) (y := y) (q := q) (n := n) (fun f hf => h f (List.mem_cons_of_mem _ hf)) e'
    unfold fdSet at e
    split at e
    · rename_i heq; cases heq
    · rename_i k y' q' n' l' heq
      cases heq
      cases hd : (Nat.beq k 5 && (decide (y' = y) && decide (q' = q))) with
      | true =>
        rw [hd] at e
        cases e
        rw [Bool.and_eq_true, Bool.and_eq_true, decide_eq_true_eq, decide_eq_true_eq] at hd
        obtain ⟨h1, rfl, rfl⟩ := hd
        cases Nat.eq_of_beq_eq_true h1
        have h2 : QR 5 [mv ρ y', mv ρ q', mv ρ (.num n)] := h _ List.mem_cons_self
        have h3 : PSet (ρ.d y') (ρ.d q') (ρ.i (.num n)).toNat := h2
        rw [hs.num] at h3
        exact h3
      | false => rw [hd] at e; exact ih e
    · rename_i heq
      cases heq
      exact ih e
theorem durB_ok {F : List Fc} {ρ : Vn} (hs : StdF ρ) (hF : ∀ f ∈ F, f.holds QR ρ) {φ : Emb} {y : Nm} {c : AC} (e : durB F y c = true) {v : Value} (hv : VC ρ φ c v) : ∃ n : Int, v = .int .i64 n ∧ 0 ≤ n ∧ n ≤ (ρ.d y).length := by
  unfold durB at e
  split at e
  · rename_i q hq
    rw [Bool.and_eq_true] at e
    obtain ⟨k1, k2⟩ := e
    split at k2
    · rename_i g2 g3
      have e1 := cmpF_ok hs hF g2
      have e2 := cmpF_ok hs hF g3
      rw [hs.num] at e1
      rw [lenN_ok hs hF] at e2
      simp only [icmp, Option.some.injEq, decide_eq_true_eq] at e1 e2
      have hv3 := nmI_ok hs.toStdA hq hv
      rw [isI64_eq k1] at hv3
      exact ⟨_, hv3, e1, e2⟩
    · cases k2
  · cases e
def entC (y j : Nm) : List AC := [.si .i64 (.f2 100 y j), .si .i64 (.f2 101 y j), .si .i64 (.f2 102 y j), .si .i64 (.f2 103 y j), .si .i64 (.f2 104 y j), .si .i64 (.f2 105 y j), .si .i64 (.f2 106 y j), .si .i64 (.f2 107 y j), .sb (.f2 108 y j), .ss (.f2 109 y j), .sb (.f2 110 y j), .ss (.f2 111 y j), .ss (.f2 112 y j)]
def entZ : List AC := [.i .i64 0, .i .i64 0, .i .i64 0, .i .i64 0, .i .i64 0, .i .i64 0, .i .i64 0, .i .i64 0, .b false, .s [], .b false, .s [], .s []]
def entK (y j : Nm) (sv : Int) : List AC := [.si .i64 (.f2 100 y j), .si .i64 (.f2 101 y j), .si .i64 (.f2 102 y j), .si .i64 (.f2 103 y j), .si .i64 (.f2 104 y j), .si .i64 (.f2 105 y j), .i .i64 0, .i .i64 sv, .sb (.f2 108 y j), .ss (.f2 109 y j), .sb (.f2 110 y j), .ss (.f2 111 y j), .ss (.f2 112 y j)]
theorem ent_fix {ρ : Vn} {φ : Emb} {y j : Nm} {sv : Int} {vs : List Value} (h : All2 (VC ρ φ) (entC y j) vs) (e6 : ρ.i (.f2 106 y j) = 0) (e7 : ρ.i (.f2 107 y j) = sv) : All2 (VC ρ φ) (entK y j sv) vs := by
  unfold entC at h
  cases h with | cons x0 h => cases h with | cons x1 h => cases h with | cons x2 h => cases h with | cons x3 h => cases h with | cons x4 h => cases h with | cons x5 h => cases h with | cons x6 h => cases h with | cons x7 h =>
  refine .cons x0 (.cons x1 (.cons x2 (.cons x3 (.cons x4 (.cons x5 (.cons ?_ (.cons ?_ h)))))))
  · have x6' : _ = Value.int .i64 (ρ.i (.f2 106 y j)) := x6
    rw [e6] at x6'; exact x6'
  · have x7' : _ = Value.int .i64 (ρ.i (.f2 107 y j)) := x7
    rw [e7] at x7'; exact x7'
def ofV (y q : Nm) (sv : Int) (x : Bool) : AV := bif x then .t [.a (entK y (.f2 2005 (.f2 2006 y q) (.num sv)) sv), .c (.b true)] else .t [.a entZ, .c (.b false)]
def natRo (F : List Fc) : List AV → Option AV
  | [.a [k0, k1, k2, k3, k4, k5, k6, k7, k8, k9, k10, k11, k12], .a [t0, t1, t2, t3, t4, t5], .a [p, s]] => match dsN k3, dsN t4, nmI s with
    | some ey, some eq, some ss => match ss.2, fdSet F ey.2 eq.2 with
      | .num sv, some k => bif ((decide (k2 = .i .i64 1) && decide (p = .i .i64 0)) && (decide (ey.1 = shE) && decide (eq.1 = shI))) && (isI64 ss.1 && (durB F ey.2 k4 && (decide (0 ≤ sv) && decide (sv < 4)))) then some (ofV ey.2 eq.2 sv (Nat.testBit k.toNat sv.toNat)) else none
      | _, _ => none
    | _, _, _ => none
  | _ => none
def ownE : List AC := [.si .i64 (.v 40), .si .i64 (.v 41), .si .i64 (.v 42), .si .i64 (.v 43), .si .i64 (.v 44), .si .i64 (.v 45), .si .i64 (.v 46), .si .i64 (.v 47), .sb (.v 48), .ss (.v 49), .sb (.v 50), .ss (.v 51), .ss (.v 52)]
theorem oRet_E : retOf oRes oSE.frame oSE.hp = .ok (.t [.a ownE, .c (.b true)]) oSE.hp := by kernel_rfl
theorem oRet_F : retOf oRes oSF.frame oSF.hp = .ok (.t [.a entZ, .c (.b false)]) oSF.hp := by kernel_rfl
def clC : AC → Bool
  | .b _ => true
  | .i _ _ => true
  | .s _ => true
  | _ => false
theorem clC_ok {ρ ρ' : Vn} {φ φ' : Emb} : ∀ {l : List AC} {vs : List Value}, l.all clC = true → All2 (VC ρ φ) l vs → All2 (VC ρ' φ') l vs
  | [], _, _, h => by cases h; exact .nil
  | c :: l, vs, e, h => by
    rw [List.all_cons, Bool.and_eq_true] at e
    cases h with
    | cons x1 t1 =>
      refine .cons ?_ (clC_ok e.2 t1)
      cases c with
      | b x => exact x1
      | i k n => exact x1
      | s l => exact x1
      | _ => cases e.1
theorem ent_vals {ρ : Vn} {φ φ' : Emb} {b : Nat → MV} {g : Nm → Value} {z : Nat → Option Obj} (hs : StdF ρ) {y j : Nm} (h : ∀ o, cellD (ρ.d y) (ρ.i j) o = (rowB b)[o]?) {vs : List Value} (hv : All2 (VC (vb b g z) φ') ownE vs) : All2 (VC ρ φ) (entC y j) vs := by
  have ci : ∀ o, o < 900 → ∀ n, (rowB b)[o]? = some (.i n) → ρ.i (.f2 (100 + o) y j) = n := fun o ho n hn => by rw [hs.ci o y j ho, h, hn]; rfl
  have cs : ∀ o, o < 900 → ∀ n, (rowB b)[o]? = some (.s n) → ρ.s (.f2 (100 + o) y j) = n := fun o ho n hn => by rw [hs.cs o y j ho, h, hn]; rfl
  have cb : ∀ o, o < 900 → ∀ n, (rowB b)[o]? = some (.b n) → ρ.b (.f2 (100 + o) y j) = n := fun o ho n hn => by rw [hs.cb o y j ho, h, hn]; rfl
  have si : ∀ o (ho : o < 900) n (hn : (rowB b)[o]? = some (.i n)) {u : Value}, u = .int .i64 n → VC ρ φ (.si .i64 (.f2 (100 + o) y j)) u := fun o ho n hn u hu => by
    show u = .int .i64 (ρ.i _)
    rw [ci o ho n hn, hu]
  have ss : ∀ o (ho : o < 900) n (hn : (rowB b)[o]? = some (.s n)) {u : Value}, u = .string n → VC ρ φ (.ss (.f2 (100 + o) y j)) u := fun o ho n hn u hu => by
    show u = .string (ρ.s _)
    rw [cs o ho n hn, hu]
  have sb : ∀ o (ho : o < 900) n (hn : (rowB b)[o]? = some (.b n)) {u : Value}, u = .bool n → VC ρ φ (.sb (.f2 (100 + o) y j)) u := fun o ho n hn u hu => by
    show u = .bool (ρ.b _)
    rw [cb o ho n hn, hu]
  unfold ownE at hv
  cases hv with | cons x0 hv => cases hv with | cons x1 hv => cases hv with | cons x2 hv => cases hv with | cons x3 hv => cases hv with | cons x4 hv => cases hv with | cons x5 hv => cases hv with | cons x6 hv => cases hv with | cons x7 hv => cases hv with | cons x8 hv => cases hv with | cons x9 hv => cases hv with | cons x10 hv => cases hv with | cons x11 hv => cases hv with | cons x12 hv =>
  cases hv
  exact .cons (si 0 (by decide) _ rfl x0) (.cons (si 1 (by decide) _ rfl x1) (.cons (si 2 (by decide) _ rfl x2) (.cons (si 3 (by decide) _ rfl x3) (.cons (si 4 (by decide) _ rfl x4) (.cons (si 5 (by decide) _ rfl x5) (.cons (si 6 (by decide) _ rfl x6) (.cons (si 7 (by decide) _ rfl x7) (.cons (sb 8 (by decide) _ rfl x8) (.cons (ss 9 (by decide) _ rfl x9) (.cons (sb 10 (by decide) _ rfl x10) (.cons (ss 11 (by decide) _ rfl x11) (.cons (ss 12 (by decide) _ rfl x12) .nil))))))))))))
theorem natRo_ok (F : List Fc) : NatOk Tryz.prog (envR F) 50 (natRo F) := by
  intro vs v hv ρ φ h w us he hr hu
  have hp : StdF ρ ∧ ∀ f ∈ F, f.holds QR ρ := envR_prop he
  have hpp := envR_pp he
  unfold natRo at hv
  split at hv
  · rename_i k0 k1 k2 k3 k4 k5 k6 k7 k8 k9 k10 k11 k12 t0 t1 t2 t3 t4 t5 p s
    split at hv
    · rename_i ey eq ss hey heq hss
      split at hv
      · rename_i sv k hsv hk
        obtain ⟨c, hc⟩ : ∃ c, c = (((decide (k2 = .i .i64 1) && decide (p = .i .i64 0)) && (decide (ey.1 = shE) && decide (eq.1 = shI))) && (isI64 ss.1 && (durB F ey.2 k4 && (decide (0 ≤ sv) && decide (sv < 4))))) := ⟨_, rfl⟩
        rw [← hc] at hv
        cases c with
        | false => cases hv
        | true =>
        cases hv
        have hc := hc.symm
        simp only [Bool.and_eq_true, decide_eq_true_eq] at hc
        obtain ⟨⟨⟨rfl, rfl⟩, he1, he2⟩, hc1, hc2, hc3, hc4⟩ := hc
        have hset := fdSet_ok hp.1 hp.2 hk
        obtain ⟨hk16, ns, hns, hpend, hin, hall⟩ := hset
        cases hu with | cons a1 hu => cases hu with | cons a2 hu => cases hu with | cons a3 hu =>
        cases hu
        obtain ⟨kv, rfl, hx⟩ := a1
        obtain ⟨tv, rfl, hy⟩ := a2
        obtain ⟨cv, rfl, hz⟩ := a3
        cases hx with | @cons _ kv0 _ _ x0 hx => cases hx with | @cons _ kv1 _ _ x1 hx => cases hx with | @cons _ kv2 _ _ x2 hx => cases hx with | @cons _ kv3 _ _ x3 hx => cases hx with | @cons _ kv4 _ _ x4 hx => cases hx with | @cons _ kv5 _ _ x5 hx => cases hx with | @cons _ kv6 _ _ x6 hx => cases hx with | @cons _ kv7 _ _ x7 hx => cases hx with | @cons _ kv8 _ _ x8 hx => cases hx with | @cons _ kv9 _ _ x9 hx => cases hx with | @cons _ kv10 _ _ x10 hx => cases hx with | @cons _ kv11 _ _ x11 hx => cases hx with | @cons _ kv12 _ _ x12 hx =>
        cases hx
        cases hy with | @cons _ tv0 _ _ y0 hy => cases hy with | @cons _ tv1 _ _ y1 hy => cases hy with | @cons _ tv2 _ _ y2 hy => cases hy with | @cons _ tv3 _ _ y3 hy => cases hy with | @cons _ tv4 _ _ y4 hy => cases hy with | @cons _ tv5 _ _ y5 hy =>
        cases hy
        cases hz with | @cons _ cv0 _ _ z0 hz => cases hz with | @cons _ cv1 _ _ z1 hz =>
        cases hz
        obtain ⟨du, hdu, d0, d1⟩ := durB_ok hp.1 hp.2 hc2 x4
        have hs1 := nmI_ok hp.1.toStdA hss z1
        rw [hsv, hp.1.num, isI64_eq hc1] at hs1
        have hyl := dsN_ok hey x3
        have hql := dsN_ok heq y4
        rw [he1] at hyl
        rw [he2] at hql
        obtain ⟨s, rfl⟩ := Int.eq_ofNat_of_zero_le hc3
        have hs4 : s < 4 := by omega
        let b : Nat → MV := fun j => if j = 0 then { d := ρ.d ey.2 } else if j = 1 then { i := du } else if j = 3 then { d := ρ.d eq.2 } else { i := s }
        let g : Nm → Value := fun t => match t with
          | .v 60 => kv0 | .v 61 => kv1 | .v 65 => kv5 | .v 66 => kv6 | .v 67 => kv7 | .v 68 => kv8 | .v 69 => kv9 | .v 70 => kv10 | .v 71 => kv11 | .v 72 => kv12
          | .v 80 => tv0 | .v 81 => tv1 | .v 82 => tv2 | .v 83 => tv3 | .v 85 => tv5 | _ => .bool false
        have hon : ON (ρ.d ey.2) s ns ns.length b := ⟨⟨rfl, d0, d1, rfl⟩, by show ρ.d eq.2 = _; rw [List.take_length]; exact hns, Nat.le_refl _, by rw [List.take_length]⟩
        have hsl : ∀ n ∈ ns, -3000 ≤ slotD (ρ.d ey.2) n - (s : Int) ∧ slotD (ρ.d ey.2) n - (s : Int) ≤ 3000 := fun n hn => by
          obtain ⟨s', h1, h2, _⟩ := hin n hn
          omega
        refine (val_tri (R := fun u => VV ρ φ (ofV ey.2 eq.2 (s : Int) (Nat.testBit k.toNat ((s : Int)).toNat)) u) (ρ := vb b g φ.z) (s0 := oS0) (ac := oBody) (res := oRes) Tryz.func50 (by kernel_rfl)
          (args := [.a [.gv (.v 60), .gv (.v 61), .i .i64 1, .ds shE (.v 0), .si .i64 (.v 1), .gv (.v 65), .gv (.v 66), .gv (.v 67), .gv (.v 68), .gv (.v 69), .gv (.v 70), .gv (.v 71), .gv (.v 72)], .a [.gv (.v 80), .gv (.v 81), .gv (.v 82), .gv (.v 83), .ds shI (.v 3), .gv (.v 85)], .a [.i .i64 0, .si .i64 (.v 4)]]) ⟨_, rfl, rfl⟩ rfl
          (.cons ⟨_, rfl, .cons ⟨rfl, x0.one⟩ (.cons ⟨rfl, x1.one⟩ (.cons x2 (.cons hyl (.cons hdu (.cons ⟨rfl, x5.one⟩ (.cons ⟨rfl, x6.one⟩ (.cons ⟨rfl, x7.one⟩ (.cons ⟨rfl, x8.one⟩ (.cons ⟨rfl, x9.one⟩ (.cons ⟨rfl, x10.one⟩ (.cons ⟨rfl, x11.one⟩ (.cons ⟨rfl, x12.one⟩ .nil))))))))))))⟩
            (.cons ⟨_, rfl, .cons ⟨rfl, y0.one⟩ (.cons ⟨rfl, y1.one⟩ (.cons ⟨rfl, y2.one⟩ (.cons ⟨rfl, y3.one⟩ (.cons hql (.cons ⟨rfl, y5.one⟩ .nil)))))⟩ (.cons ⟨_, rfl, .cons z0 (.cons hs1 .nil)⟩ .nil)))
          w (fun b x hb => (hr.frz.at_ b x hb).1) ((of_tri hpend hsl hon).post fun e a w' hq => ⟨hq.1, ?_⟩)).mono ?_
        · rcases hq.2 with ⟨b', n, h1, h2, h3⟩ | ⟨b', h1, h3⟩
          · refine ⟨_, oSE, _, _, oRet_E, fun φ1 u _ hu => ?_, h3, rfl⟩
            obtain ⟨n', hn', hsn, hxn⟩ := lastIx_some h1
            obtain ⟨s', hs', hs2, hs3⟩ := hin n' (List.mem_reverse.1 hn')
            have : s' = s := by omega
            subst this
            rw [Int.toNat_natCast, hs3]
            obtain ⟨vs, rfl, ht⟩ := hu
            cases ht with | cons u1 ht => cases ht with | cons u2 ht =>
            cases ht
            obtain ⟨vs, rfl, hc⟩ := u1
            have hj : ρ.i (.f2 2005 (.f2 2006 ey.2 eq.2) (.num (s' : Int))) = n - 1 := by
              rw [hpp.lst, hp.1.num, hns]
              unfold lastM
              rw [nsOf_nsD, h1]; rfl
            have hcell : ∀ o, cellD (ρ.d ey.2) (ρ.i (.f2 2005 (.f2 2006 ey.2 eq.2) (.num (s' : Int)))) o = (rowB b')[o]? := fun o => by
              rw [hj]
              unfold cellD
              show ((ρ.d ey.2)[(n - 1).toNat]?).bind _ = _
              rw [h2]; rfl
            refine ⟨_, rfl, .cons ⟨_, rfl, ent_fix (ent_vals hp.1 hcell hc) ?_ ?_⟩ (.cons u2 .nil)⟩
            · rw [hp.1.ci 6 _ _ (by decide), hj, hxn, hpend.pg n' (List.mem_reverse.1 hn')]; rfl
            · rw [hp.1.ci 7 _ _ (by decide), hj, hxn]
              unfold slotD at hsn
              split at hsn
              · rename_i x hx
                rw [hx]; exact hsn
              · omega
          · refine ⟨_, oSF, _, _, oRet_F, fun φ1 u _ hu => ?_, h3, rfl⟩
            have hf : Nat.testBit k.toNat s = false := by
              cases hb : Nat.testBit k.toNat s with
              | false => rfl
              | true =>
                obtain ⟨n, hn, hs'⟩ := hall s hs4 hb
                exact absurd hs' (lastIx_none h1 n (List.mem_reverse.2 hn))
            rw [Int.toNat_natCast, hf]
            obtain ⟨vs, rfl, ht⟩ := hu
            cases ht with | cons u1 ht => cases ht with | cons u2 ht =>
            cases ht
            obtain ⟨vs, rfl, hc⟩ := u1
            exact ⟨_, rfl, .cons ⟨_, rfl, clC_ok (by rfl) hc⟩ (.cons u2 .nil)⟩
        · rintro e w' ⟨u, rfl, hR, hb⟩
          exact ⟨u, φ, rfl, hR, hr.keepS hb⟩
      · cases hv
    · cases hv
  · cases hv
end Go.Proofs.YtnofmmceafkkoaaGreat
