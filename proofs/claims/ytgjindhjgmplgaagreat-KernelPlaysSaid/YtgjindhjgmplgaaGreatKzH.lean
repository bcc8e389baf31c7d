/-
  KernelPlays: contracts of DeleteFunc of grants with the locks' closures, and of locks.Cancel, Drop, Release.
-/
import Derived.Test.YtgjindhjgmplgaaGreatKzG
set_option linter.unusedVariables false
set_option linter.unusedSimpArgs false
section
namespace Go.Proofs.YtgjindhjgmplgaaGreat
def dfVC {α : Type} (enc : α → Row) (zr : Row) (pB : α → Bool) (R : Prop) (gs : List α) (ka kb : Prop) (kc : List Row → Prop) : Prop :=
  ∃ (I : Nat → Prop) (μ : Nat → Nat), (∃ j, I j ∧ (0 = Int.ofNat j ∧ True) ∧ (gs.map enc = gs.map enc ∧ R) ∧ True) ∧ ∀ (j : Nat), I j → fk (ilt (Int.ofNat j) (ln (gs.map enc))) (fk (inR (Int.ofNat j) (ln (gs.map enc)))
    (fk (nlt (tn (Int.ofNat j)) (gs.map enc)) (∃ g, rw' (gs.map enc) (tn (Int.ofNat j)) = enc g ∧ fk (pB g) (fk (ieq (Int.ofNat j) (-1)) ka
      (∃ (I : List α × Nat × Nat → Prop) (μ : List α × Nat × Nat → Nat), (∃ j_1, I j_1 ∧ (wr .i64 (xadd (Int.ofNat j) 1) = Int.ofNat j_1.2.2 ∧ Int.ofNat j = Int.ofNat j_1.2.1 ∧ True) ∧ (gs.map enc = j_1.1.map enc ∧ R) ∧ True) ∧
        ∀ (j : List α × Nat × Nat), I j → fk (ilt (Int.ofNat j.2.2) (ln (j.1.map enc))) (fk (inR (Int.ofNat j.2.2) (ln (j.1.map enc))) (fk (nlt (tn (Int.ofNat j.2.2)) (j.1.map enc)) (∃ g, rw' (j.1.map enc) (tn (Int.ofNat j.2.2)) = enc g ∧
          fk (nt (pB g)) (fk (inR (Int.ofNat j.2.1) (ln (j.1.map enc))) (fk (nlt (tn (Int.ofNat j.2.1)) (j.1.map enc)) (∃ j', I j' ∧ lessN (μ j') (μ j) ∧ (wr .i64 (xadd (Int.ofNat j.2.2) 1) = Int.ofNat j'.2.2 ∧ wr .i64 (xadd (Int.ofNat j.2.1) 1) = Int.ofNat j'.2.1 ∧ True) ∧
            (lst (j.1.map enc) (tn (Int.ofNat j.2.1)) (rw' (j.1.map enc) (tn (Int.ofNat j.2.2))) = j'.1.map enc ∧ R) ∧ True) False) False)
          (∃ j', I j' ∧ lessN (μ j') (μ j) ∧ (wr .i64 (xadd (Int.ofNat j.2.2) 1) = Int.ofNat j'.2.2 ∧ Int.ofNat j.2.1 = Int.ofNat j'.2.1 ∧ True) ∧ (j.1.map enc = j'.1.map enc ∧ R) ∧ True)) False) False)
        (∀ (c_1 : Int), ile (ln (j.1.map enc)) c_1 = true → fk (an (ile 0 (Int.ofNat j.2.1)) (an (ile (Int.ofNat j.2.1) (xsub (ln (j.1.map enc)) 0)) (ile (xsub (ln (j.1.map enc)) 0) (xsub (jcap (jof (j.1.map enc) c_1)) 0))))
          (fk (an true (an (ile 0 (Int.ofNat j.2.1)) (ile (Int.ofNat j.2.1) (xsub (jcap (jput (jof (j.1.map enc) c_1) (xadd 0 (Int.ofNat j.2.1)) (lrep (xsub (xadd 0 (xsub (ln (j.1.map enc)) 0)) (xadd 0 (Int.ofNat j.2.1))) zr))) 0))))
          (fk (jok (jput (jof (j.1.map enc) c_1) (xadd 0 (Int.ofNat j.2.1)) (lrep (xsub (xadd 0 (xsub (ln (j.1.map enc)) 0)) (xadd 0 (Int.ofNat j.2.1))) zr)) 0 (xadd 0 (Int.ofNat j.2.1)))
          (fk (ilt 0 (jcap (jput (jof (j.1.map enc) c_1) (xadd 0 (Int.ofNat j.2.1)) (lrep (xsub (xadd 0 (xsub (ln (j.1.map enc)) 0)) (xadd 0 (Int.ofNat j.2.1))) zr))))
            (kc (jsub (jput (jof (j.1.map enc) c_1) (xadd 0 (Int.ofNat j.2.1)) (lrep (xsub (xadd 0 (xsub (ln (j.1.map enc)) 0)) (xadd 0 (Int.ofNat j.2.1))) zr)) 0 (xadd 0 (Int.ofNat j.2.1)))) False) False) False) False)))
      (∃ j', I j' ∧ lessN (μ j') (μ j) ∧ (wr .i64 (xadd (Int.ofNat j) 1) = Int.ofNat j' ∧ True) ∧ (gs.map enc = gs.map enc ∧ R) ∧ True)) False) False) kb
theorem filter_snoc {α : Type} {l : List α} {p : α → Bool} {i : Nat} {x : α} (hx : l[i]? = some x) : (l.take (i + 1)).filter p = (l.take i).filter p ++ if p x then [x] else [] := by
  rw [List.take_add_one, hx, List.filter_append]
  cases h : p x <;> simp [h]
theorem dfVC_ok {α : Type} {enc : α → Row} {zr : Row} {pB : α → Bool} {R : Prop} {gs : List α} {ka kb : Prop} {kc : List Row → Prop} (hR : R) (hl : gs.length ≤ 1048000) (hb : gs.filter (fun g => !pB g) = gs → kb) (hc : kc ((gs.filter fun g => !pB g).map enc)) : dfVC enc zr pB R gs ka kb kc := by
  have hlm : ∀ l : List α, ln (l.map enc) = l.length := fun l => by unfold ln; rw [List.length_map]
  refine ⟨fun j => j ≤ gs.length ∧ _, fun j => gs.length - j, range_e (hlm gs) (Inv := fun j => ∀ (i : Nat) (x : α), i < j → gs[i]? = some x → pB x = false) ⟨rfl, hR⟩ (by omega) (fun i x h => absurd h (Nat.not_lt_zero _)) (fun j hj hv nx => ?_) fun hv => ?_⟩
  · obtain ⟨x, hx⟩ := at_lt hj
    have hn : ∀ {l : List α} {j : Nat}, j < l.length → nlt (tn (Int.ofNat j)) (l.map enc) = true := fun {l j} h => by unfold nlt; rw [List.length_map]; exact decide_eq_true h
    refine fk_t (hn hj) ⟨x, map_at hx, fk_of (fun e => fk_n (by (first | rfl | (simp (disch := omega) only [FS, eq_self, List.length_cons, List.length_nil, true_and, and_true, ssz, xadd, xsub, xmul, xmin, xmax] <;> omega) | omega)) ?_) fun e => nx (up_to hx e hv)⟩
    have hkeep : (gs.take j).filter (fun g => !pB g) = gs.take j := List.filter_eq_self.2 fun a ha => by
      obtain ⟨i, hi⟩ := List.getElem?_of_mem ha
      have hij : i < j := by have := (List.getElem?_eq_some_iff.1 hi).1; rw [List.length_take] at this; omega
      rw [List.getElem?_take_of_lt hij] at hi
      rw [hv i a hij hi]; rfl
    refine ⟨fun s => s.1.length = gs.length ∧ s.2.1 < s.2.2 ∧ s.2.2 ≤ gs.length ∧ s.1.take s.2.1 = (gs.take s.2.2).filter (fun g => !pB g) ∧ s.1.drop s.2.2 = gs.drop s.2.2, fun s => gs.length - s.2.2,
      ⟨(gs, j, j + 1), ⟨rfl, Nat.lt_succ_self _, hj, by dsimp only; rw [filter_snoc hx, e, hkeep]; simp, rfl⟩, ⟨wr_id (n := (j : Int) + 1) (by omega) (by omega), rfl, trivial⟩, ⟨rfl, hR⟩, trivial⟩, ?_⟩
    rintro ⟨g', i, q⟩ ⟨h1, h2, h3, h4, h5⟩
    dsimp only at h1 h2 h3 h4 h5 ⊢
    refine fk_of (fun e => ?_) fun e => ?_
    · have hq : q < g'.length := by have := ilt_t e; rw [hlm] at this; simpa using this
      have hqg : q < gs.length := by omega
      obtain ⟨y, hy⟩ := at_lt hq
      have hy2 : gs[q]? = some y := by
        have : (g'.drop q)[0]? = (gs.drop q)[0]? := by rw [h5]
        rw [List.getElem?_drop, List.getElem?_drop, Nat.add_zero] at this
        rw [← this]; exact hy
      have hdrop : ∀ l : List α, l.drop (q + 1) = (l.drop q).drop 1 := fun l => by rw [List.drop_drop]
      have w1 : wr .i64 (xadd (Int.ofNat q) 1) = Int.ofNat (q + 1) := wr_id (n := (q : Int) + 1) (by omega) (by omega)
      have w2 : wr .i64 (xadd (Int.ofNat i) 1) = Int.ofNat (i + 1) := wr_id (n := (i : Int) + 1) (by omega) (by omega)
      have r1 : rw' (g'.map enc) (tn (Int.ofNat q)) = enc y := map_at hy
      rw [w1, w2, r1]
      refine fk_t (by rw [hlm]; (first | rfl | (simp (disch := omega) only [FS, eq_self, List.length_cons, List.length_nil, true_and, and_true, ssz, xadd, xsub, xmul, xmin, xmax] <;> omega) | omega)) (fk_t (hn hq) ⟨y, rfl, fk_of (fun e => ?_) fun e => ?_⟩)
      · have e := nt_t e
        have hi : i < g'.length := by omega
        refine fk_t (by rw [hlm]; (first | rfl | (simp (disch := omega) only [FS, eq_self, List.length_cons, List.length_nil, true_and, and_true, ssz, xadd, xsub, xmul, xmin, xmax] <;> omega) | omega)) (fk_t (hn hi) ⟨(g'.set i y, i + 1, q + 1), ⟨by dsimp only; rw [List.length_set]; exact h1, by dsimp only; omega, hqg, ?_, ?_⟩, (by show gs.length - (q + 1) < gs.length - q; omega), ⟨rfl, rfl, trivial⟩, ⟨?_, hR⟩, trivial⟩)
        · dsimp only
          rw [filter_snoc hy2, e, ← h4, List.take_add_one, List.getElem?_set_self hi, List.take_set_of_le (Nat.le_refl _)]
          rfl
        · dsimp only
          rw [List.drop_set_of_lt (by omega), hdrop, h5, ← hdrop]
        · show (g'.map enc).set i (enc y) = _
          rw [List.map_set]
      · have e := nt_f e
        refine ⟨(g', i, q + 1), ⟨h1, by dsimp only; omega, hqg, ?_, ?_⟩, (by show gs.length - (q + 1) < gs.length - q; omega), ⟨rfl, rfl, trivial⟩, ⟨rfl, hR⟩, trivial⟩
        · dsimp only
          rw [filter_snoc hy2, e, ← h4]
          simp
        · dsimp only
          rw [hdrop, h5, ← hdrop]
    · have hq : q = gs.length := by have := ilt_f e; rw [hlm, h1] at this; simp at this; omega
      subst hq
      rw [List.take_length] at h4
      rw [← h4] at hc
      intro c hcc
      rw [hlm, h1] at hcc
      have hcc : (gs.length : Int) ≤ c := of_decide_eq_true hcc
      obtain ⟨C, rfl⟩ : ∃ C : Nat, c = C := ⟨c.toNat, by omega⟩
      have hlen : (g'.map enc).length = gs.length := by rw [List.length_map, h1]
      have hC : (g'.map enc).length ≤ C := by omega
      have l0 : (jof (g'.map enc) C).length = C := jof_len hC
      have e0 : ∀ x : Int, xadd 0 x = x := fun x => by unfold xadd; omega
      have e1 : ∀ x : Int, xsub x 0 = x := fun x => by unfold xsub; omega
      simp only [e0, e1, hlm, h1, ofN]
      have hrep : lrep (xsub (gs.length : Int) (i : Int)) zr = List.replicate (gs.length - i) zr := by unfold lrep xsub; congr 1; omega
      rw [hrep]
      have f1 : i + (List.replicate (gs.length - i) zr).length ≤ (jof (g'.map enc) C).length := by rw [l0, List.length_replicate]; omega
      obtain ⟨t1, t2⟩ := jsub_of (l := jput (jof (g'.map enc) C) (i : Int) (List.replicate (gs.length - i) zr)) (a := 0) (b := i) (R := (g'.take i).map enc) (Nat.zero_le _) (by rw [jput_len f1, l0]; omega) (by simp; omega) fun a ha => by
        have ha' : a < i := by simp at ha; omega
        rw [Nat.zero_add, jput_get f1, if_pos ha', jof_at (by omega)]
        simp
      have t1 : jok (jput (jof (g'.map enc) C) (i : Int) (List.replicate (gs.length - i) zr)) 0 (i : Int) = true := t1
      have t2 : jsub (jput (jof (g'.map enc) C) (i : Int) (List.replicate (gs.length - i) zr)) 0 (i : Int) = _ := t2
      rw [t1, t2, jcap_jput f1, jcap_jof hC]
      exact fk_t (by simp [an, ile]; omega) (fk_t (by simp [an, ile]; omega) (fk_t rfl (fk_t (by simp [ilt]; omega) hc)))
  · exact hb (List.filter_eq_self.2 fun a ha => by
      obtain ⟨i, hi⟩ := List.getElem?_of_mem ha
      rw [hv i a (List.getElem?_eq_some_iff.1 hi).1 hi]; rfl)
end Go.Proofs.YtgjindhjgmplgaaGreat
end
section
set_option maxRecDepth 100000
namespace Go.Proofs.YtgjindhjgmplgaaGreat
open Wp
def txB (tx : Int) (g : G) : Bool := g.tx == tx
def keyB (tx page slot : Int) (g : G) : Bool := (g.tx == tx) && ((g.page == page) && (g.slot == slot))
def gNo (vs : List V) (E : Mem) (nx : Nat) (k : KVk) : Prop := match vs, E, nx with
  | [.r s r], [], 0 => fk (shEq s shG) (k (.c (.b false)) [] 0) False
  | _, _, _ => False
def gTx (vs : List V) (E : Mem) (nx : Nat) (k : KVk) : Prop := match vs, E, nx with
  | [.r s r, .c (.pv 0 0)], [(0, .R s' c)], 1 => fk (shEq s shG && shEq s' shInt) (∃ g, r = gR g ∧ k (.c (.b (txB (ri c 0) g))) [(0, .R shInt c)] 1) False
  | _, _, _ => False
def dfL : Lp := [(6, .e (List G × Nat × Nat) (fun j => [(6, .c (.i .i64 (Int.ofNat j.2.2))), (5, .c (.i .i64 (Int.ofNat j.2.1)))]) (fun j => [(0, .W shG (gsR j.1))]) 0 [])]
def clF : Nat → Lp := fun f => bif inB f [193, 177, 212] then [(0, .u 0)] else ixG f
def gKey (vs : List V) (E : Mem) (nx : Nat) (k : KVk) : Prop := match vs, E, nx with
  | [.r s r, .c (.pv 0 0), .c (.pv 1 0)], [(0, .R s' c), (1, .R s2 d)], 2 => fk (shEq s shG && (shEq s' shInt && shEq s2 [.i .i64, .i .i64])) (∃ g, r = gR g ∧ k (.c (.b (keyB (ri c 0) (ri d 0) (ri d 1) g))) [(0, .R shInt c), (1, .R [.i .i64, .i .i64] d)] 2) False
  | _, _, _ => False
def T177 : Ct := (177, gTx) :: T64
def T193 : Ct := (193, gTx) :: T177
def T176 : Ct := (176, gNo) :: T193
def T213 : Ct := (213, gNo) :: T176
def T212 : Ct := (212, gKey) :: T213
theorem vc177 (g : G) (c : Row) (k : KVk) : dbody Tryz.prog (dcall Tryz.prog T64 (fun _ => []) 5) [] false 177 [.r shG (gR g), .c (.pv 0 0)] [(0, .R shInt c)] 1 k = (k (.c (.b (ieq g.tx (ri c 0)))) [(0, .R
  [.i .i64] c)] 1) := by kernel_rfl
theorem vc193 (g : G) (c : Row) (k : KVk) : dbody Tryz.prog (dcall Tryz.prog T177 (fun _ => []) 5) [] false 193 [.r shG (gR g), .c (.pv 0 0)] [(0, .R shInt c)] 1 k = (k (.c (.b (ieq g.tx (ri c 0)))) [(0, .R
  [.i .i64] c)] 1) := by kernel_rfl
theorem vc176 (g : Row) (k : KVk) : dbody Tryz.prog (dcall Tryz.prog T193 (fun _ => []) 5) [] false 176 [.r shG g] [] 0 k = (k (.c (.b false)) [] 0) := by kernel_rfl
theorem vc213 (g : Row) (k : KVk) : dbody Tryz.prog (dcall Tryz.prog T176 (fun _ => []) 5) [] false 213 [.r shG g] [] 0 k = (k (.c (.b false)) [] 0) := by kernel_rfl
theorem vc212 (g : G) (c d : Row) (k : KVk) : dbody Tryz.prog (dcall Tryz.prog T213 (fun _ => []) 5) [] false 212 [.r shG (gR g), .c (.pv 0 0), .c (.pv 1 0)] [(0, .R shInt c), (1, .R [.i .i64, .i .i64] d)] 2 k
  = (fk (ieq g.tx (ri c 0)) (k (.c (.b (an (ieq g.2 (ri d 0)) (an (ieq g.3 (ri d 1)) true)))) [(0, .R [.i .i64] c), (1, .R [.i .i64, .i .i64] d)] 2) (k (.c (.b false)) [(0, .R [.i .i64] c), (1, .R [.i .i64, .i .i64] d)]
  2)) := by kernel_rfl
theorem ok177 : CtOk Tryz.prog T177 := by
  refine ct_raw ok64 fun vs E nx k h => ?_
  unfold gTx at h
  split at h
  · rename_i s r s' c
    obtain ⟨h1, g, rfl, hk⟩ := fk_yes h
    obtain ⟨h2, h3⟩ := and2 h1
    have := shEq_eq _ _ h2
    subst this
    have := shEq_eq _ _ h3
    subst this
    exact ⟨_, _, _, _, (vc177 g c k).mpr hk⟩
  · exact h.elim
theorem ok193 : CtOk Tryz.prog T193 := by
  refine ct_raw ok177 fun vs E nx k h => ?_
  unfold gTx at h
  split at h
  · rename_i s r s' c
    obtain ⟨h1, g, rfl, hk⟩ := fk_yes h
    obtain ⟨h2, h3⟩ := and2 h1
    have := shEq_eq _ _ h2
    subst this
    have := shEq_eq _ _ h3
    subst this
    exact ⟨_, _, _, _, (vc193 g c k).mpr hk⟩
  · exact h.elim
theorem ok176 : CtOk Tryz.prog T176 := by
  refine ct_raw ok193 fun vs E nx k h => ?_
  unfold gNo at h
  split at h
  · rename_i s r
    obtain ⟨h1, hk⟩ := fk_yes h
    have := shEq_eq _ _ h1
    subst this
    exact ⟨_, _, _, _, (vc176 r k).mpr hk⟩
  · exact h.elim
theorem ok213 : CtOk Tryz.prog T213 := by
  refine ct_raw ok176 fun vs E nx k h => ?_
  unfold gNo at h
  split at h
  · rename_i s r
    obtain ⟨h1, hk⟩ := fk_yes h
    have := shEq_eq _ _ h1
    subst this
    exact ⟨_, _, _, _, (vc213 r k).mpr hk⟩
  · exact h.elim
theorem ok212 : CtOk Tryz.prog T212 := by
  refine ct_raw ok213 fun vs E nx k h => ?_
  unfold gKey at h
  split at h
  · rename_i s r s' c s2 d
    obtain ⟨h1, g, rfl, hk⟩ := fk_yes h
    obtain ⟨h2, h3⟩ := and2 h1
    obtain ⟨h3, h4⟩ := and2 h3
    have := shEq_eq _ _ h2
    subst this
    have := shEq_eq _ _ h3
    subst this
    have := shEq_eq _ _ h4
    subst this
    refine ⟨_, _, _, _, (vc212 g c d k).mpr ?_⟩
    have hk : k (.c (.b (keyB (ri c 0) (ri d 0) (ri d 1) g))) [(0, .R shInt c), (1, .R [.i .i64, .i .i64] d)] 2 := hk
    refine fk_of (fun e => ?_) fun e => ?_
    · have : keyB (ri c 0) (ri d 0) (ri d 1) g = an (ieq g.page (ri d 0)) (an (ieq g.slot (ri d 1)) true) := by
        unfold keyB an
        rw [show (g.tx == ri c 0) = true by simpa using ieq_t e, Bool.true_and, Bool.and_true]
        rfl
      exact this ▸ hk
    · have : keyB (ri c 0) (ri d 0) (ri d 1) g = false := by
        unfold keyB
        rw [show (g.tx == ri c 0) = false by simpa using ieq_f e, Bool.false_and]
      exact this ▸ hk
  · exact h.elim
theorem vcDfTx (gs : List G) (c : Row) (k : KVk) : dbody Tryz.prog (dcall Tryz.prog T212 clF 5) dfL false 209 [.c (.ow 0), .c (.fn 193 [1])] [(0, .W shG (gsR gs)), (1, .R shInt c)] 2 k =
  dfVC gR [.i 0, .i 0, .i 0, .i 0] (txB (ri c 0)) (c = c ∧ True) gs (k (.c (.ow 0)) [(1, .R shInt c), (0, .W shG (gsR gs))] 2) (k (.c (.ow 0)) [(0, .W shG (gsR gs)), (1, .R shInt c)] 2) fun l => k (.c (.ow 2)) [(2, .W shG l), (1, .R shInt c)] 3 := by kernel_rfl
theorem vcDfTx2 (gs : List G) (c : Row) (k : KVk) : dbody Tryz.prog (dcall Tryz.prog T212 clF 5) dfL false 209 [.c (.ow 0), .c (.fn 177 [1])] [(0, .W shG (gsR gs)), (1, .R shInt c)] 2 k =
  dfVC gR [.i 0, .i 0, .i 0, .i 0] (txB (ri c 0)) (c = c ∧ True) gs (k (.c (.ow 0)) [(1, .R shInt c), (0, .W shG (gsR gs))] 2) (k (.c (.ow 0)) [(0, .W shG (gsR gs)), (1, .R shInt c)] 2) fun l => k (.c (.ow 2)) [(2, .W shG l), (1, .R shInt c)] 3 := by kernel_rfl
theorem vcDfKey (gs : List G) (c d : Row) (k : KVk) : dbody Tryz.prog (dcall Tryz.prog T212 clF 5) dfL false 209 [.c (.ow 0), .c (.fn 212 [1, 2])] [(0, .W shG (gsR gs)), (1, .R shInt c), (2, .R [.i .i64, .i .i64] d)] 3 k =
  dfVC gR [.i 0, .i 0, .i 0, .i 0] (keyB (ri c 0) (ri d 0) (ri d 1)) (c = c ∧ d = d ∧ True) gs (k (.c (.ow 0)) [(1, .R shInt c), (2, .R [.i .i64, .i .i64] d), (0, .W shG (gsR gs))] 3) (k (.c (.ow 0)) [(0, .W shG (gsR gs)), (1, .R shInt c), (2, .R [.i .i64, .i .i64] d)] 3) fun l => k (.c (.ow 3)) [(3, .W shG l), (1, .R shInt c), (2, .R [.i .i64, .i .i64] d)] 4 := by kernel_rfl
end Go.Proofs.YtgjindhjgmplgaaGreat
end
