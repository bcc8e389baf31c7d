/-
  KernelPlays: contracts of the log's rules (pagemendref07.Check) and truth.Strict, for logs of a kernel without rollback.
-/
import Derived.Test.YtgjindhjgmplgaaGreatKzV
set_option linter.unusedVariables false
set_option linter.unusedSimpArgs false
set_option maxRecDepth 100000
namespace Go.Proofs.YtgjindhjgmplgaaGreat
open Wp
structure LgV (l : List En) (dur : Int) : Prop where
  v : LogV l dur
  ok : LogOk l
structure TrA (l : List En) (dur : Int) (i : Nat) (e : En) : Prop where
  v : LgV l dur
  he : l[i]? = some e
  tx : 0 < e.tx
noncomputable def T112 : Ct := (112, noG) :: (161, noG) :: T54
def g110 (rs : List Row) (k : V → Prop) : Prop := ∃ (l : List En) (dur : Int) (i : Nat) (e : En), TrA l dur i e ∧ rs = [logR l dur, [.i (Int.ofNat i)]] ∧ k (.c (.b true))
noncomputable def T110 : Ct := (110, ctF (psF Tryz.prog 110) g110) :: T112
structure PgA (l : List En) (dur : Int) (i : Nat) (e : En) : Prop where
  v : LgV l dur
  he : l[i]? = some e
  k : e.kind = 1
def g111 (rs : List Row) (k : V → Prop) : Prop := ∃ (l : List En) (dur : Int) (i : Nat) (e : En), PgA l dur i e ∧ rs = [logR l dur, [.i (Int.ofNat i)]] ∧ k (.c (.b true))
noncomputable def T111 : Ct := (111, ctF (psF Tryz.prog 111) g111) :: T110
def g53 (rs : List Row) (k : V → Prop) : Prop := ∃ (l : List En) (dur : Int), LgV l dur ∧ rs = [logR l dur] ∧ k (.c (.i .i64 0))
noncomputable def T53 : Ct := (53, ctF (psF Tryz.prog 53) g53) :: T111
def g18 (rs : List Row) (k : V → Prop) : Prop := ∃ (l : List En) (dur : Int), LgV l dur ∧ rs = [logR l dur] ∧ k (.c (.b true))
noncomputable def T18 : Ct := (18, ctF (psF Tryz.prog 18) g18) :: T53
def trL : Lp := [(5, .e (Nat × Nat) (fun j => [(8, .c (.i .i64 (Int.ofNat j.1))), (6, .c (.i .i64 (Int.ofNat j.2))), (7, .c (.b false))]) (fun _ => []) 0 []), (22, .u 0)]
def paL : Lp := [(5, .e (Nat × Nat) (fun j => [(7, .c (.i .i64 (Int.ofNat j.1))), (6, .c (.i .i64 (Int.ofNat j.2)))]) (fun _ => []) 0 [])]
theorem vc110 (l : List En) (dur : Int) (i : Nat) (k : KVk) : dbody Tryz.prog (dcall Tryz.prog T112 (fun _ => []) 5) trL true 110 (argVs (psF Tryz.prog 110) [logR l dur,
  [.i (Int.ofNat i)]]) [] 0 k = (fk (inR (Int.ofNat i) (ln (ensR l))) (∃ (I : Nat × Nat → Prop) (μ : Nat × Nat → Nat), (∃ j, I j ∧ (0 = Int.ofNat j.fst ∧ 0 = Int.ofNat j.snd ∧ false = false ∧ True) ∧ (rw' (ensR l) (tn
  (Int.ofNat i)) = rw' (ensR l) (tn (Int.ofNat i)) ∧ (logR l dur) = (logR l dur) ∧ True) ∧ True) ∧ ∀ (j : Nat × Nat), I j → fk (ilt (Int.ofNat j.fst) (Int.ofNat i)) (fk (inR (Int.ofNat j.fst) (ln (ensR l))) (fk (nt (ieq
  (ri (rw' (ensR l) (tn (Int.ofNat j.fst))) 2) (ri (rw' (ensR l) (tn (Int.ofNat i))) 2))) (∃ j', I j' ∧ lessN (μ j') (μ j) ∧ (wr .i64 (xadd (Int.ofNat j.fst) 1) = Int.ofNat j'.fst ∧ Int.ofNat j.snd = Int.ofNat j'.snd ∧
  false = false ∧ True) ∧ (rw' (ensR l) (tn (Int.ofNat i)) = rw' (ensR l) (tn (Int.ofNat i)) ∧ (logR l dur) = (logR l dur) ∧ True) ∧ True) (fk (ieq (ri (rw' (ensR l) (tn (Int.ofNat j.fst))) 1) 3) (k (.c (.b false)) [] 0)
  (fk (ieq (ri (rw' (ensR l) (tn (Int.ofNat j.fst))) 1) 5) (k (.c (.b false)) [] 0) (∃ j', I j' ∧ lessN (μ j') (μ j) ∧ (wr .i64 (xadd (Int.ofNat j.fst) 1) = Int.ofNat j'.fst ∧ ri (rw' (ensR l) (tn (Int.ofNat j.fst))) 0 =
  Int.ofNat j'.snd ∧ ieq (ri (rw' (ensR l) (tn (Int.ofNat j.fst))) 1) 4 = false ∧ True) ∧ (rw' (ensR l) (tn (Int.ofNat i)) = rw' (ensR l) (tn (Int.ofNat i)) ∧ (logR l dur) = (logR l dur) ∧ True) ∧ True)))) False) (fk
  (ieq (Int.ofNat j.snd) 0) (fk (ilt 0 (ri (rw' (ensR l) (tn (Int.ofNat i))) 3)) (fk (nt (ieq (ri (rw' (ensR l) (tn (Int.ofNat i))) 3) (Int.ofNat j.snd))) (fk (nt (ilt (ri (rw' (ensR l) (tn (Int.ofNat i))) 3) 1)) (k (.c
  (.b false)) [] 0) (fk (nt (ieq (ri (rw' (ensR l) (tn (Int.ofNat i))) 1) 5)) (k (.c (.b true)) [] 0) False)) (fk (nt (ieq (ri (rw' (ensR l) (tn (Int.ofNat i))) 1) 5)) (k (.c (.b true)) [] 0) False)) (fk (nt (ieq (ri
  (rw' (ensR l) (tn (Int.ofNat i))) 3) (Int.ofNat j.snd))) (k (.c (.b false)) [] 0) (fk (nt (ieq (ri (rw' (ensR l) (tn (Int.ofNat i))) 1) 5)) (k (.c (.b true)) [] 0) False))) (fk (nt (ieq (ri (rw' (ensR l) (tn (Int.ofNat
  i))) 3) (Int.ofNat j.snd))) (k (.c (.b false)) [] 0) (fk (nt (ieq (ri (rw' (ensR l) (tn (Int.ofNat i))) 1) 5)) (k (.c (.b true)) [] 0) False)))) False) := by kernel_rfl
theorem vc111 (l : List En) (dur : Int) (i : Nat) (k : KVk) : dbody Tryz.prog (dcall Tryz.prog T110 (fun _ => []) 5) paL true 111 (argVs (psF Tryz.prog 111) [logR l dur, [.i (Int.ofNat
  i)]]) [] 0 k = (fk (inR (Int.ofNat i) (ln (ensR l))) (∃ (I : Nat × Nat → Prop) (μ : Nat × Nat → Nat), (∃ j, I j ∧ (0 = Int.ofNat j.fst ∧ 0 = Int.ofNat j.snd ∧ True) ∧ (rw' (ensR l) (tn (Int.ofNat i)) = rw' (ensR l) (tn
  (Int.ofNat i)) ∧ (logR l dur) = (logR l dur) ∧ True) ∧ True) ∧ ∀ (j : Nat × Nat), I j → fk (ilt (Int.ofNat j.fst) (Int.ofNat i)) (fk (inR (Int.ofNat j.fst) (ln (ensR l))) (∃ n e, K2V e ∧ [rw' (ensR l) (tn (Int.ofNat
  j.fst))] = [(enR n e)] ∧ fk (ieq e.kind 1) (fk (inR (Int.ofNat j.fst) (ln (ensR l))) (fk (ieq (ri (rw' (ensR l) (tn (Int.ofNat j.fst))) 6) (ri (rw' (ensR l) (tn (Int.ofNat i))) 6)) (fk (inR (Int.ofNat j.fst) (ln (ensR
  l))) (∃ j', I j' ∧ lessN (μ j') (μ j) ∧ (wr .i64 (xadd (Int.ofNat j.fst) 1) = Int.ofNat j'.fst ∧ ri (rw' (ensR l) (tn (Int.ofNat j.fst))) 0 = Int.ofNat j'.snd ∧ True) ∧ (rw' (ensR l) (tn (Int.ofNat i)) = rw' (ensR l)
  (tn (Int.ofNat i)) ∧ (logR l dur) = (logR l dur) ∧ True) ∧ True) False) (∃ j', I j' ∧ lessN (μ j') (μ j) ∧ (wr .i64 (xadd (Int.ofNat j.fst) 1) = Int.ofNat j'.fst ∧ Int.ofNat j.snd = Int.ofNat j'.snd ∧ True) ∧ (rw'
  (ensR l) (tn (Int.ofNat i)) = rw' (ensR l) (tn (Int.ofNat i)) ∧ (logR l dur) = (logR l dur) ∧ True) ∧ True)) False) (∃ j', I j' ∧ lessN (μ j') (μ j) ∧ (wr .i64 (xadd (Int.ofNat j.fst) 1) = Int.ofNat j'.fst ∧ Int.ofNat
  j.snd = Int.ofNat j'.snd ∧ True) ∧ (rw' (ensR l) (tn (Int.ofNat i)) = rw' (ensR l) (tn (Int.ofNat i)) ∧ (logR l dur) = (logR l dur) ∧ True) ∧ True)) False) (fk (ieq (Int.ofNat j.snd) 0) (k (.c (.b (ilt (ri (rw' (ensR
  l) (tn (Int.ofNat i))) 4) 1))) [] 0) (k (.c (.b (ieq (ri (rw' (ensR l) (tn (Int.ofNat i))) 4) (Int.ofNat j.snd)))) [] 0))) False) := by kernel_rfl
theorem vc53 (l : List En) (dur : Int) (k : KVk) : dbody Tryz.prog (dcall Tryz.prog T111 (fun _ => []) 5) [(5, lpI 3)] true 53 (argVs (psF Tryz.prog 53) [logR l dur]) [] 0 k = (∃ l_1
  dur_1, LogV l_1 dur_1 ∧ [(logR l dur)] = [(logR l_1 dur_1)] ∧ ∃ (I : Nat → Prop) (μ : Nat → Nat), (∃ j, I j ∧ (0 = Int.ofNat j ∧ True) ∧ ((logR l dur) = (logR l dur) ∧ True) ∧ True) ∧ ∀ (j : Nat), I j → fk (ilt
  (Int.ofNat j) (ln (ensR l))) (fk (inR (Int.ofNat j) (ln (ensR l))) (fk (ilt 0 (ri (rw' (ensR l) (tn (Int.ofNat j))) 2)) (∃ l_2 dur_2 i e, TrA l_2 dur_2 i e ∧ [(logR l dur), [DV.i (Int.ofNat j)]] = [(logR l_2 dur_2),
  [DV.i (Int.ofNat i)]] ∧ ∃ n e, K2V e ∧ [rw' (ensR l) (tn (Int.ofNat j))] = [(enR n e)] ∧ fk (ieq e.kind 1) (∃ l_3 dur_3 i e, PgA l_3 dur_3 i e ∧ [(logR l dur), [DV.i (Int.ofNat j)]] = [(logR l_3 dur_3), [DV.i
  (Int.ofNat i)]] ∧ fk (ieq (ri (rw' (ensR l) (tn (Int.ofNat j))) 1) 2) False (∃ j', I j' ∧ lessN (μ j') (μ j) ∧ (wr .i64 (xadd (Int.ofNat j) 1) = Int.ofNat j' ∧ True) ∧ ((logR l dur) = (logR l dur) ∧ True) ∧ True)) (fk
  (ieq (ri (rw' (ensR l) (tn (Int.ofNat j))) 1) 2) False (∃ j', I j' ∧ lessN (μ j') (μ j) ∧ (wr .i64 (xadd (Int.ofNat j) 1) = Int.ofNat j' ∧ True) ∧ ((logR l dur) = (logR l dur) ∧ True) ∧ True))) (∃ n e, K2V e ∧ [rw'
  (ensR l) (tn (Int.ofNat j))] = [(enR n e)] ∧ fk (ieq e.kind 1) (∃ l_2 dur_2 i e, PgA l_2 dur_2 i e ∧ [(logR l dur), [DV.i (Int.ofNat j)]] = [(logR l_2 dur_2), [DV.i (Int.ofNat i)]] ∧ fk (ieq (ri (rw' (ensR l) (tn
  (Int.ofNat j))) 1) 2) False (∃ j', I j' ∧ lessN (μ j') (μ j) ∧ (wr .i64 (xadd (Int.ofNat j) 1) = Int.ofNat j' ∧ True) ∧ ((logR l dur) = (logR l dur) ∧ True) ∧ True)) (fk (ieq (ri (rw' (ensR l) (tn (Int.ofNat j))) 1) 2)
  False (∃ j', I j' ∧ lessN (μ j') (μ j) ∧ (wr .i64 (xadd (Int.ofNat j) 1) = Int.ofNat j' ∧ True) ∧ ((logR l dur) = (logR l dur) ∧ True) ∧ True)))) False) (k (.c (.i .i64 0)) [] 0)) := by kernel_rfl
theorem vc18 (l : List En) (dur : Int) (k : KVk) : dbody Tryz.prog (dcall Tryz.prog T53 (fun _ => []) 5) [(5, lpI 3), (10, lpI 5)] true 18 (argVs (psF Tryz.prog 18) [logR l dur])
  [] 0 k = (∃ l_1 dur_1, LogV l_1 dur_1 ∧ [(logR l dur)] = [(logR l_1 dur_1)] ∧ ∃ l_2 dur_2, LgV l_2 dur_2 ∧ [(logR l dur)] = [(logR l_2 dur_2)] ∧ ∃ (I : Nat → Prop) (μ : Nat → Nat), (∃ j, I j ∧ (0 = Int.ofNat j ∧ True)
  ∧ ((logR l dur) = (logR l dur) ∧ True) ∧ True) ∧ ∀ (j : Nat), I j → fk (ilt (Int.ofNat j) (ln (ensR l))) (fk (inR (Int.ofNat j) (ln (ensR l))) (fk (nt (ieq (ri (rw' (ensR l) (tn (Int.ofNat j))) 1) 1)) (∃ j', I j' ∧
  lessN (μ j') (μ j) ∧ (wr .i64 (xadd (Int.ofNat j) 1) = Int.ofNat j' ∧ True) ∧ ((logR l dur) = (logR l dur) ∧ True) ∧ True) (∃ (I_1 : Nat → Prop) (μ_1 : Nat → Nat), (∃ j_1, I_1 j_1 ∧ (0 = Int.ofNat j_1 ∧ True) ∧ (rw'
  (ensR l) (tn (Int.ofNat j)) = rw' (ensR l) (tn (Int.ofNat j)) ∧ (logR l dur) = (logR l dur) ∧ True) ∧ True) ∧ ∀ (j_1 : Nat), I_1 j_1 → fk (ilt (Int.ofNat j_1) (Int.ofNat j)) (fk (inR (Int.ofNat j_1) (ln (ensR l))) (fk
  (ieq (ri (rw' (ensR l) (tn (Int.ofNat j_1))) 1) 1) (fk (nt (ieq (ri (rw' (ensR l) (tn (Int.ofNat j_1))) 2) (ri (rw' (ensR l) (tn (Int.ofNat j))) 2))) (fk (ieq (ri (rw' (ensR l) (tn (Int.ofNat j_1))) 6) (ri (rw' (ensR
  l) (tn (Int.ofNat j))) 6)) (fk (ieq (ri (rw' (ensR l) (tn (Int.ofNat j_1))) 7) (ri (rw' (ensR l) (tn (Int.ofNat j))) 7)) (∃ l_3 dur_3 i j_2 a, OvA l_3 dur_3 i j_2 a ∧ [(logR l dur), [DV.i (Int.ofNat j_1)], [DV.i
  (Int.ofNat j)]] = [(logR l_3 dur_3), [DV.i (Int.ofNat i)], [DV.i (Int.ofNat j_2)]] ∧ ∃ j', I_1 j' ∧ lessN (μ_1 j') (μ_1 j_1) ∧ (wr .i64 (xadd (Int.ofNat j_1) 1) = Int.ofNat j' ∧ True) ∧ (rw' (ensR l) (tn (Int.ofNat j))
  = rw' (ensR l) (tn (Int.ofNat j)) ∧ (logR l dur) = (logR l dur) ∧ True) ∧ True) (∃ j', I_1 j' ∧ lessN (μ_1 j') (μ_1 j_1) ∧ (wr .i64 (xadd (Int.ofNat j_1) 1) = Int.ofNat j' ∧ True) ∧ (rw' (ensR l) (tn (Int.ofNat j)) =
  rw' (ensR l) (tn (Int.ofNat j)) ∧ (logR l dur) = (logR l dur) ∧ True) ∧ True)) (∃ j', I_1 j' ∧ lessN (μ_1 j') (μ_1 j_1) ∧ (wr .i64 (xadd (Int.ofNat j_1) 1) = Int.ofNat j' ∧ True) ∧ (rw' (ensR l) (tn (Int.ofNat j)) =
  rw' (ensR l) (tn (Int.ofNat j)) ∧ (logR l dur) = (logR l dur) ∧ True) ∧ True)) (∃ j', I_1 j' ∧ lessN (μ_1 j') (μ_1 j_1) ∧ (wr .i64 (xadd (Int.ofNat j_1) 1) = Int.ofNat j' ∧ True) ∧ (rw' (ensR l) (tn (Int.ofNat j)) =
  rw' (ensR l) (tn (Int.ofNat j)) ∧ (logR l dur) = (logR l dur) ∧ True) ∧ True)) (∃ j', I_1 j' ∧ lessN (μ_1 j') (μ_1 j_1) ∧ (wr .i64 (xadd (Int.ofNat j_1) 1) = Int.ofNat j' ∧ True) ∧ (rw' (ensR l) (tn (Int.ofNat j)) =
  rw' (ensR l) (tn (Int.ofNat j)) ∧ (logR l dur) = (logR l dur) ∧ True) ∧ True)) False) (∃ j', I j' ∧ lessN (μ j') (μ j) ∧ (wr .i64 (xadd (Int.ofNat j) 1) = Int.ofNat j' ∧ True) ∧ ((logR l dur) = (logR l dur) ∧ True) ∧
  True))) False) (k (.c (.b true)) [] 0)) := by kernel_rfl
theorem noG_two {T : Ct} (h : CtOk Tryz.prog T) (f g : Nat) : CtOk Tryz.prog ((f, noG) :: (g, noG) :: T) := noG_ok (noG_ok h _) _
theorem ok112 : CtOk Tryz.prog T112 := noG_two ok54 _ _
theorem mem_take {l : List En} {i m : Nat} {x : En} (h : l[m]? = some x) (hm : m < i) : x ∈ l.take i := by
  refine List.mem_of_getElem? (i := m) ?_
  rw [List.getElem?_take_of_lt hm]
  exact h
theorem bump {i : Nat} (h : i < 1048576) : wr .i64 (xadd (Int.ofNat i) 1) = Int.ofNat (i + 1) := by
  rw [ofN]
  unfold xadd
  rw [wr64 (by omega) (by omega)]
  rfl
theorem ok110 : CtOk Tryz.prog T110 := by
  refine ct_cons ok112 (fz := true) fun rs k h => ?_
  obtain ⟨l, dur, i, e, hv, rfl, hk⟩ := h
  have hl := hv.v.v.len
  have he := hv.he
  have hi := (List.getElem?_eq_some_iff.1 he).1
  have tx := hv.tx
  obtain ⟨f1, f2⟩ := (hv.v.ok i e he).tx tx
  have er := hv.v.ok.right he
  have p0 := er.1
  have k5 : e.kind ≠ 5 := by
    obtain ⟨_, _, _, _, _, _, _, _, h9⟩ := er
    rcases h9 with ⟨e1, _⟩ | ⟨e1 | e1, _⟩ | ⟨e1, _⟩ <;> omega
  refine ⟨_, _, _, (vc110 l dur i k).mpr ?_⟩
  rw [tn_ofNat, ens_at he]
  refine fk_t (by rw [inR_T, ln_ens, ofN]; omega) ?_
  refine ⟨fun j => j.1 ≤ i ∧ j.2 = lastBy (ofTx e.tx) (l.take j.1), fun j => l.length - j.1, ⟨(0, 0), ⟨Nat.zero_le _, rfl⟩, ⟨rfl, rfl, rfl, trivial⟩, ⟨rfl, rfl, trivial⟩, trivial⟩, ?_⟩
  rintro ⟨t, n⟩ ⟨ht, hn⟩
  have ht : t ≤ i := ht
  have hn : n = lastBy (ofTx e.tx) (l.take t) := hn
  dsimp only
  refine fk_of (fun h1 => ?_) fun h1 => ?_
  · have h2 : t < i := by have := ilt_t h1; exact Int.ofNat_lt.1 this
    obtain ⟨x, hx⟩ := at_lt (show t < l.length by omega)
    have step : ∀ (m : Nat) (X : Int) (b : Bool), X = Int.ofNat m → b = false → m = lastBy (ofTx e.tx) (l.take (t + 1)) → ∃ j' : Nat × Nat, (j'.1 ≤ i ∧ j'.2 = lastBy (ofTx e.tx) (l.take j'.1)) ∧ lessN (l.length - j'.1) (l.length - t) ∧
        (wr .i64 (xadd (Int.ofNat t) 1) = Int.ofNat j'.1 ∧ X = Int.ofNat j'.2 ∧ b = false ∧ True) ∧ (enR (i + 1) e = enR (i + 1) e ∧ logR l dur = logR l dur ∧ True) ∧ True := fun m X b hX hb hm =>
      ⟨(t + 1, m), ⟨h2, hm⟩, by show l.length - (t + 1) < l.length - t; omega, ⟨bump (by omega), hX, hb, trivial⟩, ⟨rfl, rfl, trivial⟩, trivial⟩
    rw [tn_ofNat, ens_at hx]
    refine fk_t (by rw [inR_T, ln_ens, ofN]; omega) (fk_of (fun h3 => ?_) fun h3 => ?_)
    · have h4 : x.tx ≠ e.tx := ieq_f (nt_t h3)
      refine step n _ _ rfl rfl ?_
      rw [take_next hx, lastBy_snoc, if_neg (by simp [ofTx, h4])]
      exact hn
    · have h4 : x.tx = e.tx := ieq_t (nt_f h3)
      have h5 : x.kind = 1 := f2 x (mem_take hx h2) h4
      refine fk_n (by rw [ieq_F]; show x.kind ≠ 3; omega) (fk_n (by rw [ieq_F]; show x.kind ≠ 5; omega) (step (t + 1) _ _ rfl (by rw [ieq_F]; show x.kind ≠ 4; omega) ?_))
      rw [take_next hx, lastBy_snoc, if_pos (by simp [ofTx, h4]), List.length_take, Nat.min_eq_left (by omega)]
  · have h2 : t = i := by have := Int.ofNat_le.1 (ilt_f h1); omega
    subst h2
    have hp : e.ptx = (n : Int) := by rw [hn]; exact f1
    have c5 : ∀ {X : Prop}, X → fk (nt (ieq (ri (enR (t + 1) e) 1) 5)) X False := fun hX => fk_t (by rw [nt_T, ieq_F]; exact k5) hX
    have ce : nt (ieq (ri (enR (t + 1) e) 3) (Int.ofNat n)) = false := by rw [nt_F, ieq_T]; exact hp
    refine fk_of (fun h3 => fk_n ?_ (fk_n ce (c5 hk))) fun h3 => fk_n ce (c5 hk)
    have := ieq_t h3
    rw [ilt_F]
    show e.ptx ≤ 0
    rw [hp]
    exact Int.le_of_eq this
theorem ok111 : CtOk Tryz.prog T111 := by
  refine ct_cons ok110 (fz := true) fun rs k h => ?_
  obtain ⟨l, dur, i, e, hv, rfl, hk⟩ := h
  have hl := hv.v.v.len
  have he := hv.he
  have hi := (List.getElem?_eq_some_iff.1 he).1
  have f1 := (hv.v.ok i e he).page hv.k
  refine ⟨_, _, _, (vc111 l dur i k).mpr ?_⟩
  rw [tn_ofNat, ens_at he]
  refine fk_t (by rw [inR_T, ln_ens, ofN]; omega) ?_
  refine ⟨fun j => j.1 ≤ i ∧ j.2 = lastBy (ofPg e.page) (l.take j.1), fun j => l.length - j.1, ⟨(0, 0), ⟨Nat.zero_le _, rfl⟩, ⟨rfl, rfl, trivial⟩, ⟨rfl, rfl, trivial⟩, trivial⟩, ?_⟩
  rintro ⟨t, n⟩ ⟨ht, hn⟩
  have ht : t ≤ i := ht
  have hn : n = lastBy (ofPg e.page) (l.take t) := hn
  dsimp only
  refine fk_of (fun h1 => ?_) fun h1 => ?_
  · have h2 : t < i := by have := ilt_t h1; exact Int.ofNat_lt.1 this
    obtain ⟨x, hx⟩ := at_lt (show t < l.length by omega)
    have step : ∀ (m : Nat) (X : Int), X = Int.ofNat m → m = lastBy (ofPg e.page) (l.take (t + 1)) → ∃ j' : Nat × Nat, (j'.1 ≤ i ∧ j'.2 = lastBy (ofPg e.page) (l.take j'.1)) ∧ lessN (l.length - j'.1) (l.length - t) ∧
        (wr .i64 (xadd (Int.ofNat t) 1) = Int.ofNat j'.1 ∧ X = Int.ofNat j'.2 ∧ True) ∧ (enR (i + 1) e = enR (i + 1) e ∧ logR l dur = logR l dur ∧ True) ∧ True := fun m X hX hm =>
      ⟨(t + 1, m), ⟨h2, hm⟩, by show l.length - (t + 1) < l.length - t; omega, ⟨bump (by omega), hX, trivial⟩, ⟨rfl, rfl, trivial⟩, trivial⟩
    rw [tn_ofNat, ens_at hx]
    have ir : inR (Int.ofNat t) (ln (ensR l)) = true := by rw [inR_T, ln_ens, ofN]; omega
    refine fk_t ir ⟨_, x, ⟨enr_k2 (hv.v.v.en _ _ hx)⟩, rfl, fk_of (fun h3 => fk_t ir (fk_of (fun h4 => fk_t ir ?_) fun h4 => ?_)) fun h3 => ?_⟩
    · have h3 : x.kind = 1 := ieq_t h3
      have h4 : x.page = e.page := ieq_t h4
      refine step (t + 1) _ rfl ?_
      rw [take_next hx, lastBy_snoc, if_pos (by simp [ofPg, h3, h4]), List.length_take, Nat.min_eq_left (by omega)]
    · have h4 : x.page ≠ e.page := ieq_f h4
      refine step n _ rfl ?_
      rw [take_next hx, lastBy_snoc, if_neg (by simp [ofPg, h4])]
      exact hn
    · have h3 : x.kind ≠ 1 := ieq_f h3
      refine step n _ rfl ?_
      rw [take_next hx, lastBy_snoc, if_neg (by simp [ofPg, h3])]
      exact hn
  · have h2 : t = i := by have := Int.ofNat_le.1 (ilt_f h1); omega
    subst h2
    have hp : e.pp = (n : Int) := by rw [hn]; exact f1
    refine fk_of (fun h3 => ?_) fun h3 => ?_
    · have h4 : (n : Int) = 0 := ieq_t h3
      rw [show ilt (ri (enR (t + 1) e) 4) 1 = true by rw [ilt_T]; show e.pp < 1; omega]
      exact hk
    · rw [show ieq (ri (enR (t + 1) e) 4) (Int.ofNat n) = true by rw [ieq_T]; exact hp]
      exact hk
theorem ok53 : CtOk Tryz.prog T53 := by
  refine ct_cons ok111 (fz := true) fun rs k h => ?_
  obtain ⟨l, dur, hv, rfl, hk⟩ := h
  have hl := hv.v.len
  refine ⟨_, _, _, (vc53 l dur k).mpr ⟨l, dur, hv.v, rfl, ?_⟩⟩
  refine ⟨fun j => j ≤ l.length ∧ True, fun j => l.length - j, range_e (ln_ens l) ⟨rfl, trivial⟩ (by omega) trivial (fun i hi _ nx => ?_) fun _ => hk⟩
  dsimp only
  obtain ⟨x, hx⟩ := at_lt hi
  have nx := nx trivial
  have k2 := enr_k2 (hv.v.en _ _ hx)
  rw [tn_ofNat, ens_at hx]
  have c2 : ∀ {X : Prop}, X → fk (ieq (ri (enR (i + 1) x) 1) 2) False X := fun hX => fk_n (by rw [ieq_F]; exact k2) hX
  have rest : ∃ n e, K2V e ∧ [enR (i + 1) x] = [enR n e] ∧ fk (ieq e.kind 1) (∃ l_3 dur_3 m e, PgA l_3 dur_3 m e ∧ [logR l dur, [DV.i (Int.ofNat i)]] = [logR l_3 dur_3, [DV.i (Int.ofNat m)]] ∧ fk (ieq (ri (enR (i + 1) x) 1) 2) False _) (fk (ieq (ri (enR (i + 1) x) 1) 2) False _) :=
    ⟨_, x, ⟨k2⟩, rfl, fk_of (fun h1 => ⟨l, dur, i, x, ⟨hv, hx, ieq_t h1⟩, rfl, c2 nx⟩) fun _ => c2 nx⟩
  exact fk_of (fun h0 => ⟨l, dur, i, x, ⟨hv, hx, ilt_t h0⟩, rfl, rest⟩) fun _ => rest
theorem over_of {l : List En} (hl : LogOk l) {i j : Nat} {x e : En} (he : l[i]? = some e) (hx : l[j]? = some x) (hj : j < i) (k1 : e.kind = 1) (k2 : x.kind = 1) (ht : x.tx ≠ e.tx) (hp : x.page = e.page) (hs : x.slot = e.slot) :
    ∃ m y, j < m ∧ m < i ∧ l[m]? = some y ∧ y.tx = x.tx ∧ y.kind = 3 := by
  have hc := (hl i e he).strict k1 x (mem_take hx hj) k2 ht hp hs
  unfold comm at hc
  rw [List.any_eq_true] at hc
  obtain ⟨y, hy, h3⟩ := hc
  simp only [Bool.and_eq_true, beq_iff_eq] at h3
  obtain ⟨m, hm⟩ := List.getElem?_of_mem hy
  have hmi : m < i := by have := (List.getElem?_eq_some_iff.1 hm).1; rw [List.length_take] at this; omega
  rw [List.getElem?_take_of_lt hmi] at hm
  refine ⟨m, y, ?_, hmi, hm, h3.2, h3.1⟩
  rcases Nat.lt_trichotomy m j with h | h | h
  · have tx : 0 < x.tx := by
      obtain ⟨_, _, _, _, _, _, _, _, h9⟩ := hl.right hx
      rcases h9 with ⟨e1, e2, _⟩ | ⟨e1, e2, _⟩ | ⟨e1, _⟩ <;> omega
    have := ((hl j x hx).tx tx).2 y (mem_take hm h) h3.2
    have := h3.1
    omega
  · subst h
    rw [hx] at hm
    cases hm
    have := h3.1
    omega
  · exact h
theorem ok18 : CtOk Tryz.prog T18 := by
  refine ct_cons ok53 (fz := true) fun rs k h => ?_
  obtain ⟨l, dur, hv, rfl, hk⟩ := h
  have hl := hv.v.len
  refine ⟨_, _, _, (vc18 l dur k).mpr ⟨l, dur, hv.v, rfl, l, dur, hv, rfl, ?_⟩⟩
  refine ⟨fun j => j ≤ l.length ∧ True, fun j => l.length - j, range_e (ln_ens l) ⟨rfl, trivial⟩ (by omega) trivial (fun i hi _ nx => ?_) fun _ => hk⟩
  dsimp only
  obtain ⟨e, he⟩ := at_lt hi
  have nx := nx trivial
  rw [tn_ofNat, ens_at he]
  refine fk_of (fun _ => nx) fun h1 => ?_
  have k1 : e.kind = 1 := ieq_t (nt_f h1)
  refine ⟨fun j => j ≤ i ∧ True, fun j => i - j, range_f (n := i) rfl ⟨rfl, rfl, trivial⟩ (by omega) trivial (fun m hm _ ny => ?_) fun _ => nx⟩
  dsimp only
  obtain ⟨x, hx⟩ := at_lt (show m < l.length by omega)
  have ny := ny trivial
  rw [tn_ofNat, ens_at hx]
  refine fk_t (by rw [inR_T, ln_ens, ofN]; omega) (fk_of (fun h2 => fk_of (fun h3 => fk_of (fun h4 => fk_of (fun h5 => ?_) fun _ => ny) fun _ => ny) fun _ => ny) fun _ => ny)
  exact ⟨l, dur, m, i, x, ⟨hv.v, hx, over_of hv.ok he hx hm k1 (ieq_t h2) (ieq_f (nt_t h3)) (ieq_t h4) (ieq_t h5), by omega⟩, rfl, ny⟩
end Go.Proofs.YtgjindhjgmplgaaGreat
