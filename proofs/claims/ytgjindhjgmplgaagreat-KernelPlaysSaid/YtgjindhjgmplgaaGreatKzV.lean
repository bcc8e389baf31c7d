/-
  KernelPlays: contracts of truth: committed, seen, cell, Seen, Explain, over.
-/
import Derived.Test.YtgjindhjgmplgaaGreatKzU
set_option linter.unusedVariables false
set_option linter.unusedSimpArgs false
set_option maxRecDepth 100000
namespace Go.Proofs.YtgjindhjgmplgaaGreat
open Wp
structure K2V (e : En) : Prop where
  k : e.kind ≠ 2
def g91 (rs : List Row) (k : V → Prop) : Prop := ∃ (n : Int) (e : En), K2V e ∧ rs = [enR n e] ∧ k (.c (.b (ieq e.kind 1)))
noncomputable def T91 : Ct := (91, ctF (psF Tryz.prog 91) g91) :: T52
def g92 (rs : List Row) (k : V → Prop) : Prop := ∃ (l : List En) (dur tx : Int), LogV l dur ∧ rs = [logR l dur, [.i tx], [.i (Int.ofNat l.length)]] ∧ k (.c (.b (comm l tx)))
noncomputable def T92 : Ct := (92, ctF (psF Tryz.prog 92) g92) :: T91
def g36 (rs : List Row) (k : V → Prop) : Prop := ∃ (l : List En) (dur pg sl tx : Int), LogV l dur ∧ rs = [logR l dur, [.i pg], [.i sl], [.i tx], [.i (Int.ofNat l.length)]] ∧ k (.c (.i .i64 (Int.ofNat (seenF l pg sl tx))))
noncomputable def T36 : Ct := (36, ctF (psF Tryz.prog 36) g36) :: T92
structure CeA (l : List En) (dur : Int) (n : Nat) : Prop where
  v : LogV l dur
  n : n ≤ l.length
def g90 (rs : List Row) (k : V → Prop) : Prop := ∃ (l : List En) (dur : Int) (n : Nat), CeA l dur n ∧ rs = [logR l dur, [.i (Int.ofNat n)]] ∧ k (.r [.b, .s] [.b (cellAt l n).1, .s (cellAt l n).2])
noncomputable def T90 : Ct := (90, ctF (psF Tryz.prog 90) g90) :: T36
structure SeA (l : List En) (dur pg sl : Int) : Prop where
  v : LogV l dur
  p0 : 0 ≤ pg
  p1 : pg < 64
  s0 : 0 ≤ sl
  s1 : sl < 16
def g35 (rs : List Row) (k : V → Prop) : Prop := ∃ (l : List En) (dur pg sl tx : Int), SeA l dur pg sl ∧ rs = [logR l dur, [.i pg], [.i sl], [.i tx], [.i (Int.ofNat l.length)]] ∧ k (.t [.r [.b, .s] [.b (cellAt l (seenF l pg sl tx)).1, .s (cellAt l (seenF l pg sl tx)).2], .c (.i .i64 0)])
noncomputable def T35 : Ct := (35, ctF (psF Tryz.prog 35) g35) :: T90
structure ExA (l : List En) (dur pg sl tx : Int) (c : Cl) : Prop where
  s : SeA l dur pg sl
  c : c = cellAt l (seenF l pg sl tx)
def g15 (rs : List Row) (k : V → Prop) : Prop := ∃ (l : List En) (dur pg sl tx : Int) (c : Cl), ExA l dur pg sl tx c ∧ rs = [logR l dur, [.i tx, .i pg, .i sl, .i (Int.ofNat l.length), .b c.1, .s c.2]] ∧ ∀ n : Int, k (.t [.c (.i .i64 n), .c (.b true)])
noncomputable def T15 : Ct := (15, ctF (psF Tryz.prog 15) g15) :: T35
structure OvA (l : List En) (dur : Int) (i j : Nat) (a : En) : Prop where
  v : LogV l dur
  ha : l[i]? = some a
  hc : ∃ m e, i < m ∧ m < j ∧ l[m]? = some e ∧ e.tx = a.tx ∧ e.kind = 3
  j : j ≤ l.length
def g54 (rs : List Row) (k : V → Prop) : Prop := ∃ (l : List En) (dur : Int) (i j : Nat) (a : En), OvA l dur i j a ∧ rs = [logR l dur, [.i (Int.ofNat i)], [.i (Int.ofNat j)]] ∧ k (.c (.b true))
noncomputable def T54 : Ct := (54, ctF (psF Tryz.prog 54) g54) :: T15
def lp2 (a b : Nat) : Lp := [(4, .e (Nat × Nat) (fun j => [(a, .c (.i .i64 (Int.ofNat j.1))), (b, .c (.i .i64 (Int.ofNat j.2)))]) (fun _ => []) 0 [])]
theorem vc91 (n : Int) (e : En) (k : KVk) : dbody Tryz.prog (dcall Tryz.prog T52 (fun _ => []) 5) [] true 91 (argVs (psF Tryz.prog 91) [enR n e]) [] 0 k = (fk (ieq e.kind 1) (k
  (.c (.b true)) [] 0) (k (.c (.b (ieq e.kind 2))) [] 0)) := by kernel_rfl
theorem vc92 (l : List En) (dur tx : Int) (k : KVk) : dbody Tryz.prog (dcall Tryz.prog T91 (fun _ => []) 5) [(3, lpI 7)] true 92 (argVs (psF Tryz.prog 92) [logR l dur, [.i
  tx], [.i (Int.ofNat l.length)]]) [] 0 k = (∃ (I : Nat → Prop) (μ : Nat → Nat), (∃ j, I j ∧ (0 = Int.ofNat j ∧ True) ∧ ((logR l dur) = (logR l dur) ∧ True) ∧ True) ∧ ∀ (j : Nat), I j → fk (ilt (Int.ofNat j) (ln (ensR
  l))) (fk (inR (Int.ofNat j) (ln (ensR l))) (fk (ile (ri (rw' (ensR l) (tn (Int.ofNat j))) 0) (Int.ofNat l.length)) (fk (inR (Int.ofNat j) (ln (ensR l))) (fk (ieq (ri (rw' (ensR l) (tn (Int.ofNat j))) 1) 3) (fk (inR
  (Int.ofNat j) (ln (ensR l))) (fk (ieq (ri (rw' (ensR l) (tn (Int.ofNat j))) 2) tx) (k (.c (.b true)) [] 0) (∃ j', I j' ∧ lessN (μ j') (μ j) ∧ (wr .i64 (xadd (Int.ofNat j) 1) = Int.ofNat j' ∧ True) ∧ ((logR l dur) =
  (logR l dur) ∧ True) ∧ True)) False) (∃ j', I j' ∧ lessN (μ j') (μ j) ∧ (wr .i64 (xadd (Int.ofNat j) 1) = Int.ofNat j' ∧ True) ∧ ((logR l dur) = (logR l dur) ∧ True) ∧ True)) False) (k (.c (.b false)) [] 0)) False) (k
  (.c (.b false)) [] 0)) := by kernel_rfl
theorem vc36 (l : List En) (dur pg sl tx : Int) (k : KVk) : dbody Tryz.prog (dcall Tryz.prog T92 (fun _ => []) 5) (lp2 12 11) true 36 (argVs (psF Tryz.prog 36) [logR l dur, [.i pg],
  [.i sl], [.i tx], [.i (Int.ofNat l.length)]]) [] 0 k = (∃ (I : Nat × Nat → Prop) (μ : Nat × Nat → Nat), (∃ j, I j ∧ (0 = Int.ofNat j.fst ∧ 0 = Int.ofNat j.snd ∧ True) ∧ ((logR l dur) = (logR l dur) ∧ True) ∧ True) ∧ ∀
  (j : Nat × Nat), I j → fk (ilt (Int.ofNat j.fst) (ln (ensR l))) (fk (inR (Int.ofNat j.fst) (ln (ensR l))) (fk (ile (ri (rw' (ensR l) (tn (Int.ofNat j.fst))) 0) (Int.ofNat l.length)) (fk (inR (Int.ofNat j.fst) (ln (ensR
  l))) (∃ n e, K2V e ∧ [rw' (ensR l) (tn (Int.ofNat j.fst))] = [(enR n e)] ∧ fk (ieq e.kind 1) (fk (ieq (ri (rw' (ensR l) (tn (Int.ofNat j.fst))) 6) pg) (fk (ieq (ri (rw' (ensR l) (tn (Int.ofNat j.fst))) 7) sl) (fk (ieq
  (ri (rw' (ensR l) (tn (Int.ofNat j.fst))) 2) tx) (∃ j', I j' ∧ lessN (μ j') (μ j) ∧ (wr .i64 (xadd (Int.ofNat j.fst) 1) = Int.ofNat j'.fst ∧ ri (rw' (ensR l) (tn (Int.ofNat j.fst))) 0 = Int.ofNat j'.snd ∧ True) ∧
  ((logR l dur) = (logR l dur) ∧ True) ∧ True) (∃ l_1 dur_1 tx, LogV l_1 dur_1 ∧ [(logR l dur), [DV.i (ri (rw' (ensR l) (tn (Int.ofNat j.fst))) 2)], [DV.i (Int.ofNat l.length)]] = [(logR l_1 dur_1), [DV.i tx], [DV.i
  (Int.ofNat l_1.length)]] ∧ fk (comm l_1 tx) (∃ j', I j' ∧ lessN (μ j') (μ j) ∧ (wr .i64 (xadd (Int.ofNat j.fst) 1) = Int.ofNat j'.fst ∧ ri (rw' (ensR l) (tn (Int.ofNat j.fst))) 0 = Int.ofNat j'.snd ∧ True) ∧ ((logR l
  dur) = (logR l dur) ∧ True) ∧ True) (∃ j', I j' ∧ lessN (μ j') (μ j) ∧ (wr .i64 (xadd (Int.ofNat j.fst) 1) = Int.ofNat j'.fst ∧ Int.ofNat j.snd = Int.ofNat j'.snd ∧ True) ∧ ((logR l dur) = (logR l dur) ∧ True) ∧
  True))) (∃ j', I j' ∧ lessN (μ j') (μ j) ∧ (wr .i64 (xadd (Int.ofNat j.fst) 1) = Int.ofNat j'.fst ∧ Int.ofNat j.snd = Int.ofNat j'.snd ∧ True) ∧ ((logR l dur) = (logR l dur) ∧ True) ∧ True)) (∃ j', I j' ∧ lessN (μ j')
  (μ j) ∧ (wr .i64 (xadd (Int.ofNat j.fst) 1) = Int.ofNat j'.fst ∧ Int.ofNat j.snd = Int.ofNat j'.snd ∧ True) ∧ ((logR l dur) = (logR l dur) ∧ True) ∧ True)) (∃ j', I j' ∧ lessN (μ j') (μ j) ∧ (wr .i64 (xadd (Int.ofNat
  j.fst) 1) = Int.ofNat j'.fst ∧ Int.ofNat j.snd = Int.ofNat j'.snd ∧ True) ∧ ((logR l dur) = (logR l dur) ∧ True) ∧ True)) False) (k (.c (.i .i64 (Int.ofNat j.snd))) [] 0)) False) (k (.c (.i .i64 (Int.ofNat j.snd))) []
  0)) := by kernel_rfl
theorem vc90 (l : List En) (dur : Int) (n : Nat) (k : KVk) : dbody Tryz.prog (dcall Tryz.prog T36 (fun _ => []) 5) [] true 90 (argVs (psF Tryz.prog 90) [logR l dur, [.i (Int.ofNat
  n)]]) [] 0 k = (fk (ieq (Int.ofNat n) 0) (k (.r [.b, .s] [DV.b false, DV.s ⟨#[]⟩]) [] 0) (fk (inR (wr .i64 (xsub (Int.ofNat n) 1)) (ln (ensR l))) (k (.r [.b, .s] [DV.b (rb (rw' (ensR l) (tn (wr .i64 (xsub (Int.ofNat n)
  1)))) 10), DV.s (rs (rw' (ensR l) (tn (wr .i64 (xsub (Int.ofNat n) 1)))) 11)]) [] 0) False)) := by kernel_rfl
theorem vc35 (l : List En) (dur pg sl tx : Int) (k : KVk) : dbody Tryz.prog (dcall Tryz.prog T90 (fun _ => []) 5) [] true 35 (argVs (psF Tryz.prog 35) [logR l dur, [.i pg], [.i sl],
  [.i tx], [.i (Int.ofNat l.length)]]) [] 0 k = (∃ l_1 dur_1, LogV l_1 dur_1 ∧ [(logR l dur)] = [(logR l_1 dur_1)] ∧ fk (ilt pg 0) (k (.t [.r [.b, .s] [DV.b false, DV.s ⟨#[]⟩], .c (.i .i64 1)]) [] 0) (fk (ile 64 pg) (k
  (.t [.r [.b, .s] [DV.b false, DV.s ⟨#[]⟩], .c (.i .i64 1)]) [] 0) (fk (ilt sl 0) (k (.t [.r [.b, .s] [DV.b false, DV.s ⟨#[]⟩], .c (.i .i64 1)]) [] 0) (fk (ile 16 sl) (k (.t [.r [.b, .s] [DV.b false, DV.s ⟨#[]⟩], .c (.i
  .i64 1)]) [] 0) (fk (ilt (Int.ofNat l.length) 0) (k (.t [.r [.b, .s] [DV.b false, DV.s ⟨#[]⟩], .c (.i .i64 1)]) [] 0) (fk (ilt (ln (ensR l)) (Int.ofNat l.length)) (k (.t [.r [.b, .s] [DV.b false, DV.s ⟨#[]⟩], .c (.i
  .i64 1)]) [] 0) (∃ l_2 dur_2 pg_1 sl_1 tx_1, LogV l_2 dur_2 ∧ [(logR l dur), [DV.i pg], [DV.i sl], [DV.i tx], [DV.i (Int.ofNat l.length)]] = [(logR l_2 dur_2), [DV.i pg_1], [DV.i sl_1], [DV.i tx_1], [DV.i (Int.ofNat
  l_2.length)]] ∧ ∃ l_3 dur_3 n, CeA l_3 dur_3 n ∧ [(logR l dur), [DV.i (Int.ofNat (seenF l_2 pg_1 sl_1 tx_1))]] = [(logR l_3 dur_3), [DV.i (Int.ofNat n)]] ∧ k (.t [.r [.b, .s] [DV.b (cellAt l_3 n).fst, DV.s (cellAt l_3
  n).snd], .c (.i .i64 0)]) [] 0))))))) := by kernel_rfl
theorem vc15 (l : List En) (dur pg sl tx : Int) (c : Cl) (k : KVk) : dbody Tryz.prog (dcall Tryz.prog T35 (fun _ => []) 5) [] true 15 (argVs (psF Tryz.prog 15) [logR l dur, [.i
  tx, .i pg, .i sl, .i (Int.ofNat l.length), .b c.1, .s c.2]]) [] 0 k = (∃ l_1 dur_1 pg_1 sl_1 tx_1, SeA l_1 dur_1 pg_1 sl_1 ∧ [(logR l dur), [DV.i pg], [DV.i sl], [DV.i tx], [DV.i (Int.ofNat l.length)]] = [(logR l_1
  dur_1), [DV.i pg_1], [DV.i sl_1], [DV.i tx_1], [DV.i (Int.ofNat l_1.length)]] ∧ ∃ l_2 dur_2 pg_2 sl_2 tx_2, LogV l_2 dur_2 ∧ [(logR l dur), [DV.i pg], [DV.i sl], [DV.i tx], [DV.i (Int.ofNat l.length)]] = [(logR l_2
  dur_2), [DV.i pg_2], [DV.i sl_2], [DV.i tx_2], [DV.i (Int.ofNat l_2.length)]] ∧ k (.t [.c (.i .i64 (Int.ofNat (seenF l_2 pg_2 sl_2 tx_2))), .c (.b (an (beqB (cellAt l_1 (seenF l_1 pg_1 sl_1 tx_1)).1 c.1) (an (seqB
  (cellAt l_1 (seenF l_1 pg_1 sl_1 tx_1)).2 c.2) true)))]) [] 0) := by kernel_rfl
theorem vc54 (l : List En) (dur : Int) (i j : Nat) (k : KVk) : dbody Tryz.prog (dcall Tryz.prog T15 (fun _ => []) 5) [(3, lpI 7)] true 54 (argVs (psF Tryz.prog 54) [logR l dur, [.i
  (Int.ofNat i)], [.i (Int.ofNat j)]]) [] 0 k = (∃ (I : Nat → Prop) (μ : Nat → Nat), (∃ j, I j ∧ (wr .i64 (xadd (Int.ofNat i) 1) = Int.ofNat j ∧ True) ∧ ((logR l dur) = (logR l dur) ∧ True) ∧ True) ∧ ∀ (j_1 : Nat), I j_1
  → fk (ilt (Int.ofNat j_1) (Int.ofNat j)) (fk (inR (Int.ofNat j_1) (ln (ensR l))) (fk (ieq (ri (rw' (ensR l) (tn (Int.ofNat j_1))) 1) 2) (fk (inR (Int.ofNat i) (ln (ensR l))) (fk (ieq (ri (rw' (ensR l) (tn (Int.ofNat
  j_1))) 5) (ri (rw' (ensR l) (tn (Int.ofNat i))) 0)) (k (.c (.b true)) [] 0) (fk (inR (Int.ofNat i) (ln (ensR l))) (fk (ieq (ri (rw' (ensR l) (tn (Int.ofNat j_1))) 2) (ri (rw' (ensR l) (tn (Int.ofNat i))) 2)) (fk (ieq
  (ri (rw' (ensR l) (tn (Int.ofNat j_1))) 1) 3) (k (.c (.b true)) [] 0) (fk (ieq (ri (rw' (ensR l) (tn (Int.ofNat j_1))) 1) 5) (k (.c (.b true)) [] 0) (∃ j', I j' ∧ lessN (μ j') (μ j_1) ∧ (wr .i64 (xadd (Int.ofNat j_1)
  1) = Int.ofNat j' ∧ True) ∧ ((logR l dur) = (logR l dur) ∧ True) ∧ True))) (∃ j', I j' ∧ lessN (μ j') (μ j_1) ∧ (wr .i64 (xadd (Int.ofNat j_1) 1) = Int.ofNat j' ∧ True) ∧ ((logR l dur) = (logR l dur) ∧ True) ∧ True))
  False)) False) (fk (inR (Int.ofNat i) (ln (ensR l))) (fk (ieq (ri (rw' (ensR l) (tn (Int.ofNat j_1))) 2) (ri (rw' (ensR l) (tn (Int.ofNat i))) 2)) (fk (ieq (ri (rw' (ensR l) (tn (Int.ofNat j_1))) 1) 3) (k (.c (.b
  true)) [] 0) (fk (ieq (ri (rw' (ensR l) (tn (Int.ofNat j_1))) 1) 5) (k (.c (.b true)) [] 0) (∃ j', I j' ∧ lessN (μ j') (μ j_1) ∧ (wr .i64 (xadd (Int.ofNat j_1) 1) = Int.ofNat j' ∧ True) ∧ ((logR l dur) = (logR l dur) ∧
  True) ∧ True))) (∃ j', I j' ∧ lessN (μ j') (μ j_1) ∧ (wr .i64 (xadd (Int.ofNat j_1) 1) = Int.ofNat j' ∧ True) ∧ ((logR l dur) = (logR l dur) ∧ True) ∧ True)) False)) False) (k (.c (.b false)) [] 0)) := by kernel_rfl
theorem enr_k2 {n : Nat} {e : En} (h : EnR n e) : e.kind ≠ 2 := by
  obtain ⟨_, _, _, _, _, _, _, _, h9⟩ := h
  rcases h9 with ⟨e1, _⟩ | ⟨e1 | e1, _⟩ | ⟨e1, _⟩ <;> omega
theorem comm_yes {l : List En} {tx : Int} {i : Nat} {e : En} (he : l[i]? = some e) (h3 : e.kind = 3) (ht : e.tx = tx) : comm l tx = true := by
  unfold comm
  rw [List.any_eq_true]
  exact ⟨e, List.mem_of_getElem? he, by simp [h3, ht]⟩
theorem comm_no {l : List En} {tx : Int} (h : ∀ (i : Nat) e, i < l.length → l[i]? = some e → ¬ (e.kind = 3 ∧ e.tx = tx)) : comm l tx = false := by
  unfold comm
  rw [List.any_eq_false]
  intro e he hc
  obtain ⟨i, hi⟩ := List.getElem?_of_mem he
  simp only [Bool.and_eq_true, beq_iff_eq] at hc
  exact h i e (List.getElem?_eq_some_iff.1 hi).1 hi hc
theorem ok91 : CtOk Tryz.prog T91 := by
  refine ct_cons ok52 (fz := true) fun rs k h => ?_
  obtain ⟨n, e, hv, rfl, hk⟩ := h
  have h2 := hv.k
  refine ⟨_, _, _, (vc91 n e k).mpr (fk_of (fun h1 => ?_) fun h1 => ?_)⟩
  · rw [h1] at hk
    exact hk
  · rw [h1] at hk
    rw [show ieq e.kind 2 = false by (first | rfl | (simp (disch := omega) only [FS, eq_self, List.length_cons, List.length_nil, true_and, and_true, ssz, xadd, xsub, xmul, xmin, xmax] <;> omega) | omega)]
    exact hk
theorem ok92 : CtOk Tryz.prog T92 := by
  refine ct_cons ok91 (fz := true) fun rs k h => ?_
  obtain ⟨l, dur, tx, hv, rfl, hk⟩ := h
  have hl := hv.len
  refine ⟨_, _, _, (vc92 l dur tx k).mpr ?_⟩
  refine ⟨fun j => j ≤ l.length ∧ ∀ (i : Nat) e, i < j → l[i]? = some e → ¬ (e.kind = 3 ∧ e.tx = tx), fun j => l.length - j, range_e (ln_ens l) (Inv := fun j => ∀ (i : Nat) e, i < j → l[i]? = some e → ¬ (e.kind = 3 ∧ e.tx = tx)) ⟨rfl, trivial⟩ (by omega) (fun i e h => absurd h (Nat.not_lt_zero _)) (fun i hi hn nx => ?_) fun hn => ?_⟩
  · dsimp only
    obtain ⟨x, hx⟩ := at_lt hi
    rw [tn_ofNat, ens_at hx]
    have go : ¬ (x.kind = 3 ∧ x.tx = tx) → ∀ (m : Nat) e, m < i + 1 → l[m]? = some e → ¬ (e.kind = 3 ∧ e.tx = tx) := fun hc m e hm he => by
      rcases Nat.lt_or_ge m i with h | h
      · exact hn m e h he
      · obtain rfl : m = i := by omega
        rw [hx] at he
        cases he
        exact hc
    (refine fk_t ?_ ?_; focus (first | rfl | (simp (disch := omega) only [FS, eq_self, List.length_cons, List.length_nil, true_and, and_true, ssz, xadd, xsub, xmul, xmin, xmax] <;> omega) | omega))
    (refine fk_t ?_ ?_; focus (first | rfl | (simp (disch := omega) only [FS, eq_self, List.length_cons, List.length_nil, true_and, and_true, ssz, xadd, xsub, xmul, xmin, xmax] <;> omega) | omega))
    refine fk_of (fun h3 => ?_) fun h3 => nx (go fun hc => ?_)
    · (refine fk_t ?_ ?_; focus (first | rfl | (simp (disch := omega) only [FS, eq_self, List.length_cons, List.length_nil, true_and, and_true, ssz, xadd, xsub, xmul, xmin, xmax] <;> omega) | omega))
      refine fk_of (fun h4 => ?_) fun h4 => nx (go fun hc => ?_)
      · rw [comm_yes hx (ieq_t h3) (ieq_t h4)] at hk
        exact hk
      · exact ieq_f h4 hc.2
    · exact ieq_f h3 hc.1
  · rw [comm_no hn] at hk
    exact hk
theorem take_next {α : Type} {l : List α} {i : Nat} {x : α} (h : l[i]? = some x) : l.take (i + 1) = l.take i ++ [x] := by
  rw [List.take_add_one, h]
  rfl
theorem ok36 : CtOk Tryz.prog T36 := by
  refine ct_cons ok92 (fz := true) fun rs k h => ?_
  obtain ⟨l, dur, pg, sl, tx, hv, rfl, hk⟩ := h
  have hl := hv.len
  refine ⟨_, _, _, (vc36 l dur pg sl tx k).mpr ?_⟩
  have hs : seenF l pg sl tx = lastBy (fun e => ofCell pg sl e && (e.tx == tx || comm l e.tx)) (l.take l.length) := by rw [List.take_length]; rfl
  rw [hs] at hk
  generalize hp : (fun e => ofCell pg sl e && (e.tx == tx || comm l e.tx)) = p at hk
  refine ⟨fun j => j.1 ≤ l.length ∧ j.2 = lastBy p (l.take j.1), fun j => l.length - j.1, ⟨(0, 0), ⟨Nat.zero_le _, rfl⟩, ⟨rfl, rfl, trivial⟩, ⟨rfl, trivial⟩, trivial⟩, ?_⟩
  rintro ⟨i, n⟩ ⟨hi, hn⟩
  have hi : i ≤ l.length := hi
  have hn : n = lastBy p (l.take i) := hn
  refine fk_of (fun h1 => ?_) fun h1 => ?_
  · have h2 : i < l.length := by have := ilt_t h1; rw [ln_ens] at this; exact Int.ofNat_lt.1 this
    obtain ⟨x, hx⟩ := at_lt h2
    have hk2 := enr_k2 (hv.en _ _ hx)
    have step : ∀ (m : Nat) (X : Int), X = Int.ofNat m → m = lastBy p (l.take (i + 1)) → ∃ j' : Nat × Nat, (j'.1 ≤ l.length ∧ j'.2 = lastBy p (l.take j'.1)) ∧ lessN (l.length - j'.1) (l.length - i) ∧
        (wr .i64 (xadd (Int.ofNat i) 1) = Int.ofNat j'.1 ∧ X = Int.ofNat j'.2 ∧ True) ∧ (logR l dur = logR l dur ∧ True) ∧ True := fun m X hX hm =>
      ⟨(i + 1, m), ⟨h2, hm⟩, by show l.length - (i + 1) < l.length - i; omega, ⟨by rw [ofN]; unfold xadd; rw [wr64 (by omega) (by omega)]; rfl, hX, trivial⟩, ⟨rfl, trivial⟩, trivial⟩
    have yes : p x = true → i + 1 = lastBy p (l.take (i + 1)) := fun h => by
      rw [take_next hx, lastBy_snoc, if_pos h, List.length_take, Nat.min_eq_left (Nat.le_of_lt h2)]
    have no : p x = false → n = lastBy p (l.take (i + 1)) := fun h => by
      rw [take_next hx, lastBy_snoc, if_neg (by rw [h]; decide)]
      exact hn
    have px : p x = (ofCell pg sl x && (x.tx == tx || comm l x.tx)) := by rw [← hp]
    unfold ofCell at px
    dsimp only
    rw [tn_ofNat, ens_at hx]
    (refine fk_t ?_ ?_; focus (first | rfl | (simp (disch := omega) only [FS, eq_self, List.length_cons, List.length_nil, true_and, and_true, ssz, xadd, xsub, xmul, xmin, xmax] <;> omega) | omega))
    (refine fk_t ?_ ?_; focus (first | rfl | (simp (disch := omega) only [FS, eq_self, List.length_cons, List.length_nil, true_and, and_true, ssz, xadd, xsub, xmul, xmin, xmax] <;> omega) | omega))
    (refine fk_t ?_ ?_; focus (first | rfl | (simp (disch := omega) only [FS, eq_self, List.length_cons, List.length_nil, true_and, and_true, ssz, xadd, xsub, xmul, xmin, xmax] <;> omega) | omega))
    refine ⟨_, x, ⟨hk2⟩, rfl, fk_of (fun e1 => fk_of (fun e2 => fk_of (fun e3 => fk_of (fun e4 => ?_) fun e4 => ⟨l, dur, x.tx, hv, rfl, fk_of (fun e5 => ?_) fun e5 => ?_⟩) fun e3 => ?_) fun e2 => ?_) fun e1 => ?_⟩
    · have e1 : x.kind = 1 := ieq_t e1
      have e2 : x.page = pg := ieq_t e2
      have e3 : x.slot = sl := ieq_t e3
      have e4 : x.tx = tx := ieq_t e4
      exact step (i + 1) _ rfl (yes (by rw [px, e1, e2, e3, e4]; simp))
    · have e1 : x.kind = 1 := ieq_t e1
      have e2 : x.page = pg := ieq_t e2
      have e3 : x.slot = sl := ieq_t e3
      exact step (i + 1) _ rfl (yes (by rw [px, e1, e2, e3, e5]; simp))
    · have e4 : x.tx ≠ tx := ieq_f e4
      exact step n _ rfl (no (by rw [px, e5]; simp [e4]))
    · have e3 : x.slot ≠ sl := ieq_f e3
      exact step n _ rfl (no (by rw [px]; simp [e3]))
    · have e2 : x.page ≠ pg := ieq_f e2
      exact step n _ rfl (no (by rw [px]; simp [e2]))
    · have e1 : x.kind ≠ 1 := ieq_f e1
      exact step n _ rfl (no (by rw [px]; simp [e1]))
  · have h2 : i = l.length := by have := ilt_f h1; rw [ln_ens] at this; have := Int.ofNat_le.1 this; omega
    subst h2
    rw [← hn] at hk
    exact hk
theorem ok90 : CtOk Tryz.prog T90 := by
  refine ct_cons ok36 (fz := true) fun rs k h => ?_
  obtain ⟨l, dur, n, hv, rfl, hk⟩ := h
  have hl := hv.v.len
  have hn := hv.n
  refine ⟨_, _, _, (vc90 l dur n k).mpr ?_⟩
  cases n with
  | zero => exact fk_t rfl hk
  | succ m =>
    obtain ⟨x, hx⟩ := at_lt (show m < l.length by omega)
    have e : wr .i64 (xsub (Int.ofNat (m + 1)) 1) = (m : Int) := by
      rw [ofN]
      unfold xsub
      rw [wr64 (by omega) (by omega)]
      omega
    rw [e, tn_cast, ens_at hx]
    have ec : cellAt l (m + 1) = x.a := by
      unfold cellAt
      simp only
      rw [hx]
    rw [ec] at hk
    exact fk_n (by rw [ieq_F, ofN]; omega) (fk_t (by rw [inR_T, ln_ens]; omega) hk)
theorem ok35 : CtOk Tryz.prog T35 := by
  refine ct_cons ok90 (fz := true) fun rs k h => ?_
  obtain ⟨l, dur, pg, sl, tx, hv, rfl, hk⟩ := h
  have p0 := hv.p0; have p1 := hv.p1; have s0 := hv.s0; have s1 := hv.s1
  have hl := hv.v.len
  refine ⟨_, _, _, (vc35 l dur pg sl tx k).mpr ⟨l, dur, hv.v, rfl, ?_⟩⟩
  repeat (first | (refine fk_t ?_ ?_; focus (first | rfl | (simp (disch := omega) only [FS, eq_self, List.length_cons, List.length_nil, true_and, and_true, ssz, xadd, xsub, xmul, xmin, xmax] <;> omega) | omega)) | (refine fk_n ?_ ?_; focus (first | rfl | (simp (disch := omega) only [FS, eq_self, List.length_cons, List.length_nil, true_and, and_true, ssz, xadd, xsub, xmul, xmin, xmax] <;> omega) | omega)))
  exact ⟨l, dur, pg, sl, tx, hv.v, rfl, l, dur, seenF l pg sl tx, ⟨hv.v, lastBy_le _ _⟩, rfl, hk⟩
theorem ok15 : CtOk Tryz.prog T15 := by
  refine ct_cons ok35 (fz := true) fun rs k h => ?_
  obtain ⟨l, dur, pg, sl, tx, c, hv, rfl, hk⟩ := h
  refine ⟨_, _, _, (vc15 l dur pg sl tx c k).mpr ⟨l, dur, pg, sl, tx, hv.s, rfl, l, dur, pg, sl, tx, hv.s.v, rfl, ?_⟩⟩
  have hc := hv.c
  rw [show an (beqB (cellAt l (seenF l pg sl tx)).1 c.1) (an (seqB (cellAt l (seenF l pg sl tx)).2 c.2) true) = true by rw [← hc]; simp only [an_T, beqB_T, seqB_T, and_self]]
  exact hk _
theorem ok54 : CtOk Tryz.prog T54 := by
  refine ct_cons ok15 (fz := true) fun rs k h => ?_
  obtain ⟨l, dur, i, j, a, hv, rfl, hk⟩ := h
  obtain ⟨m, e, hm1, hm2, hm3, hm4, hm5⟩ := hv.hc
  have hl := hv.v.len
  have hj := hv.j
  have ha := hv.ha
  have hi := (List.getElem?_eq_some_iff.1 ha).1
  refine ⟨_, _, _, (vc54 l dur i j k).mpr ⟨fun t => i < t ∧ t ≤ m, fun t => l.length - t, ⟨i + 1, ⟨by omega, hm1⟩, ⟨by rw [ofN]; unfold xadd; rw [wr64 (by omega) (by omega)]; rfl, trivial⟩, ⟨rfl, trivial⟩, trivial⟩, ?_⟩⟩
  rintro t ⟨ht1, ht2⟩
  obtain ⟨x, hx⟩ := at_lt (show t < l.length by omega)
  have hk2 := enr_k2 (hv.v.en _ _ hx)
  rw [tn_ofNat, ens_at hx, tn_ofNat, ens_at ha]
  have step : t ≠ m → ∃ j', (i < j' ∧ j' ≤ m) ∧ lessN (l.length - j') (l.length - t) ∧ (wr .i64 (xadd (Int.ofNat t) 1) = Int.ofNat j' ∧ True) ∧ (logR l dur = logR l dur ∧ True) ∧ True := fun h =>
    ⟨t + 1, ⟨by omega, by omega⟩, by show l.length - (t + 1) < l.length - t; omega, ⟨by rw [ofN]; unfold xadd; rw [wr64 (by omega) (by omega)]; rfl, trivial⟩, ⟨rfl, trivial⟩, trivial⟩
  refine fk_t (by (first | rfl | (simp (disch := omega) only [FS, eq_self, List.length_cons, List.length_nil, true_and, and_true, ssz, xadd, xsub, xmul, xmin, xmax] <;> omega) | omega)) (fk_t (by (first | rfl | (simp (disch := omega) only [FS, eq_self, List.length_cons, List.length_nil, true_and, and_true, ssz, xadd, xsub, xmul, xmin, xmax] <;> omega) | omega)) (fk_n (by (first | rfl | (simp (disch := omega) only [FS, eq_self, List.length_cons, List.length_nil, true_and, and_true, ssz, xadd, xsub, xmul, xmin, xmax] <;> omega) | omega)) (fk_t (by (first | rfl | (simp (disch := omega) only [FS, eq_self, List.length_cons, List.length_nil, true_and, and_true, ssz, xadd, xsub, xmul, xmin, xmax] <;> omega) | omega)) (fk_of (fun e1 => fk_of (fun _ => hk) fun e2 => fk_of (fun _ => hk) fun _ => step fun h => ?_) fun e1 => step fun h => ?_))))
  · subst h
    rw [hx] at hm3
    cases hm3
    exact ieq_f e2 hm5
  · subst h
    rw [hx] at hm3
    cases hm3
    exact ieq_f e1 hm4
end Go.Proofs.YtgjindhjgmplgaaGreat
