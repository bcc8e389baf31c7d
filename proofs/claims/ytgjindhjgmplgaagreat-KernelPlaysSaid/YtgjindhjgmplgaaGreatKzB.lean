/-
  KernelPlays: contracts of change.Valid, entry.rules, entry.Valid, journal.Valid.
-/
import Derived.Test.YtgjindhjgmplgaaGreatKzA
import Derived.Test.YtgjindhjgmplgaaGreatChecked
set_option linter.unusedVariables false
set_option linter.unusedSimpArgs false
set_option maxRecDepth 100000
namespace Go.Proofs.YtgjindhjgmplgaaGreat
open Wp
structure ChV (pg sl : Int) (b a : Cl) : Prop where
  p0 : 0 ≤ pg
  p1 : pg < 64
  s0 : 0 ≤ sl
  s1 : sl < 16
  b : VCl b
  a : VCl a
def g135 (rs : List Row) (k : V → Prop) : Prop := ∃ (pg sl : Int) (b a : Cl), ChV pg sl b a ∧ rs = [[.i pg, .i sl, .b b.1, .s b.2, .b a.1, .s a.2]] ∧ k (.c (.b true))
def rulesL : List DC := [.b false, .b false, .b false, .b false, .b false, .fz, .fz, .b true, .b false, .b true, .b false, .b false, .fn 197 [], .fn 135 [], .b true, .b true, .b true, .b true, .b false, .fn 199 [], .fn 135 [], .b true, .b true, .b false, .b false, .b false, .fn 197 [], .fn 198 [], .b true, .b true, .b false, .b false, .b false, .fn 197 [], .fn 198 [], .b true, .b true, .b false, .b false, .b false, .fn 197 [], .fn 198 [], .b false, .b false, .b false, .b false, .b true, .fn 197 [], .fn 198 [], .b false, .b false, .b false, .b true, .b false, .fn 197 [], .fn 200 [], .b false, .b false, .b false, .b false, .b true, .fn 197 [], .fn 198 []]
def g152 : List Row → (V → Prop) → Prop
  | [], k => k (.a rulesL)
  | _, _ => False
structure EnV (n : Int) (e : En) : Prop where
  en : EnR (n - 1).toNat e
  n0 : 1 ≤ n
  n1 : n ≤ 1099511627776
def g95 (rs : List Row) (k : V → Prop) : Prop := ∃ (n : Int) (e : En), EnV n e ∧ rs = [enR n e] ∧ k (.c (.b true))
structure LogV (l : List En) (dur : Int) : Prop where
  en : ∀ (i : Nat) e, l[i]? = some e → EnR i e
  d0 : 0 ≤ dur
  d1 : dur ≤ l.length
  len : l.length ≤ 4096
def g40 (rs : List Row) (k : V → Prop) : Prop := ∃ (l : List En) (dur : Int), LogV l dur ∧ rs = [logR l dur] ∧ k (.c (.b true))
def T135 : Ct := [(135, ctF (psF Tryz.prog 135) g135)]
def T152 : Ct := (152, ctF (psF Tryz.prog 152) g152) :: T135
def T95 : Ct := (95, ctF (psF Tryz.prog 95) g95) :: T152
def T40 : Ct := (40, ctF (psF Tryz.prog 40) g40) :: T95
theorem vc135 (pg sl : Int) (b1 a1 : Bool) (b2 a2 : ByteArray) (k : KVk) : dbody Tryz.prog (dcall Tryz.prog [] (fun _ => []) 5) [] true 135 (argVs (psF Tryz.prog 135) [[.i pg, .i sl, .b b1, .s b2,
  .b a1, .s a2]]) [] 0 k = (fk (ile 0 pg) (fk (ilt pg 64) (fk (ile 0 sl) (fk (ilt sl 16) (fk (ile (ssz b2) 12) (fk b1 (fk (ile (ssz a2) 12) (fk a1 (k (.c (.b true)) [] 0) (k (.c (.b (seqB a2 ⟨#[]⟩))) [] 0)) (k (.c (.b
  false)) [] 0)) (fk (seqB b2 ⟨#[]⟩) (fk (ile (ssz a2) 12) (fk a1 (k (.c (.b true)) [] 0) (k (.c (.b (seqB a2 ⟨#[]⟩))) [] 0)) (k (.c (.b false)) [] 0)) (k (.c (.b false)) [] 0))) (k (.c (.b false)) [] 0)) (k (.c (.b
  false)) [] 0)) (k (.c (.b false)) [] 0)) (k (.c (.b false)) [] 0)) (k (.c (.b false)) [] 0)) := by kernel_rfl
theorem vc152  (k : KVk) : dbody Tryz.prog (dcall Tryz.prog T135 (fun _ => []) 5) [] true 152 (argVs (psF Tryz.prog 152) []) [] 0 k = (k (.a [.b false, .b false, .b false, .b false, .b false, .fz,
  .fz, .b true, .b false, .b true, .b false, .b false, .fn 197 [], .fn 135 [], .b true, .b true, .b true, .b true, .b false, .fn 199 [], .fn 135 [], .b true, .b true, .b false, .b false, .b false, .fn 197 [], .fn 198 [],
  .b true, .b true, .b false, .b false, .b false, .fn 197 [], .fn 198 [], .b true, .b true, .b false, .b false, .b false, .fn 197 [], .fn 198 [], .b false, .b false, .b false, .b false, .b true, .fn 197 [], .fn 198 [],
  .b false, .b false, .b false, .b true, .b false, .fn 197 [], .fn 200 [], .b false, .b false, .b false, .b false, .b true, .fn 197 [], .fn 198 []]) [] 0) := by kernel_rfl
theorem vc95 (n : Int) (e : En) (k : KVk) : dbody Tryz.prog (dcall Tryz.prog T152 (fun _ => []) 5) [] true 95 (argVs (psF Tryz.prog 95) [enR n e]) [] 0 k = (fk (ilt n 1) (k (.c (.b false)) [] 0) (fk
  (ilt 1099511627776 n) (k (.c (.b false)) [] 0) (fk (ilt e.kind 1) (k (.c (.b false)) [] 0) (fk (ilt 8 e.kind) (k (.c (.b false)) [] 0) (fk (ile 0 e.ptx) (fk (nt (ilt e.ptx n)) (k (.c (.b false)) [] 0) (fk (ile 0 e.pp)
  (fk (nt (ilt e.pp n)) (k (.c (.b false)) [] 0) (fk (ile 0 e.ref) (fk (nt (ilt e.ref n)) (k (.c (.b false)) [] 0) (fk (inR e.kind 9) (fk (ieq e.kind 0) (fk (nt (ieq e.tx 0)) (k (.c (.b false)) [] 0) (fk (nt (ieq e.ptx
  0)) (k (.c (.b false)) [] 0) (fk (nt (ieq e.pp 0)) (k (.c (.b false)) [] 0) (fk (nt (ieq e.ref 0)) (k (.c (.b false)) [] 0) (fk (nt (seqB ⟨#[]⟩ ⟨#[]⟩)) (k (.c (.b false)) [] 0) (fk (ile (ssz ⟨#[]⟩) 8192) False (k (.c
  (.b false)) [] 0))))))) (fk (ieq e.kind 1) (fk (ilt e.tx 1) (k (.c (.b false)) [] 0) (fk (ilt 1073741824 e.tx) (k (.c (.b false)) [] 0) (fk (nt (ieq e.ref 0)) (k (.c (.b false)) [] 0) (fk (nt (seqB ⟨#[]⟩ ⟨#[]⟩)) (k (.c
  (.b false)) [] 0) (fk (ile (ssz ⟨#[]⟩) 8192) (∃ pg sl b a, ChV pg sl b a ∧ [[DV.i e.page, DV.i e.slot, DV.b e.b.fst, DV.s e.b.snd, DV.b e.a.fst, DV.s e.a.snd]] = [[DV.i pg, DV.i sl, DV.b b.fst, DV.s b.snd, DV.b a.fst,
  DV.s a.snd]] ∧ k (.c (.b true)) [] 0) (k (.c (.b false)) [] 0)))))) (fk (ieq e.kind 2) (fk (ilt e.tx 1) (k (.c (.b false)) [] 0) (fk (ilt 1073741824 e.tx) (k (.c (.b false)) [] 0) (fk (ieq e.ptx 0) (k (.c (.b false))
  [] 0) (fk (nt (seqB ⟨#[]⟩ ⟨#[]⟩)) (k (.c (.b false)) [] 0) (fk (ile (ssz ⟨#[]⟩) 8192) (fk (ile 1 e.ref) (fk (ile e.ref e.ptx) (∃ pg sl b a, ChV pg sl b a ∧ [[DV.i e.page, DV.i e.slot, DV.b e.b.fst, DV.s e.b.snd, DV.b
  e.a.fst, DV.s e.a.snd]] = [[DV.i pg, DV.i sl, DV.b b.fst, DV.s b.snd, DV.b a.fst, DV.s a.snd]] ∧ k (.c (.b true)) [] 0) (k (.c (.b false)) [] 0)) (k (.c (.b false)) [] 0)) (k (.c (.b false)) [] 0)))))) (fk (ieq e.kind
  3) (fk (ilt e.tx 1) (k (.c (.b false)) [] 0) (fk (ilt 1073741824 e.tx) (k (.c (.b false)) [] 0) (fk (ieq e.ptx 0) (k (.c (.b false)) [] 0) (fk (nt (ieq e.pp 0)) (k (.c (.b false)) [] 0) (fk (nt (ieq e.ref 0)) (k (.c
  (.b false)) [] 0) (fk (nt (seqB ⟨#[]⟩ ⟨#[]⟩)) (k (.c (.b false)) [] 0) (fk (ile (ssz ⟨#[]⟩) 8192) (k (.c (.b (an (ieq e.6 0) (an (ieq e.7 0) (an (beqB e.b.1 false) (an (seqB e.b.2 ⟨#[]⟩) (an (beqB e.a.1 false) (an
  (seqB e.a.2 ⟨#[]⟩) true)))))))) [] 0) (k (.c (.b false)) [] 0)))))))) (fk (ieq e.kind 4) (fk (ilt e.tx 1) (k (.c (.b false)) [] 0) (fk (ilt 1073741824 e.tx) (k (.c (.b false)) [] 0) (fk (ieq e.ptx 0) (k (.c (.b false))
  [] 0) (fk (nt (ieq e.pp 0)) (k (.c (.b false)) [] 0) (fk (nt (ieq e.ref 0)) (k (.c (.b false)) [] 0) (fk (nt (seqB ⟨#[]⟩ ⟨#[]⟩)) (k (.c (.b false)) [] 0) (fk (ile (ssz ⟨#[]⟩) 8192) (k (.c (.b (an (ieq e.6 0) (an (ieq
  e.7 0) (an (beqB e.b.1 false) (an (seqB e.b.2 ⟨#[]⟩) (an (beqB e.a.1 false) (an (seqB e.a.2 ⟨#[]⟩) true)))))))) [] 0) (k (.c (.b false)) [] 0)))))))) (fk (ieq e.kind 5) (fk (ilt e.tx 1) (k (.c (.b false)) [] 0) (fk
  (ilt 1073741824 e.tx) (k (.c (.b false)) [] 0) (fk (ieq e.ptx 0) (k (.c (.b false)) [] 0) (fk (nt (ieq e.pp 0)) (k (.c (.b false)) [] 0) (fk (nt (ieq e.ref 0)) (k (.c (.b false)) [] 0) (fk (nt (seqB ⟨#[]⟩ ⟨#[]⟩)) (k
  (.c (.b false)) [] 0) (fk (ile (ssz ⟨#[]⟩) 8192) (k (.c (.b (an (ieq e.6 0) (an (ieq e.7 0) (an (beqB e.b.1 false) (an (seqB e.b.2 ⟨#[]⟩) (an (beqB e.a.1 false) (an (seqB e.a.2 ⟨#[]⟩) true)))))))) [] 0) (k (.c (.b
  false)) [] 0)))))))) (fk (ieq e.kind 6) (fk (nt (ieq e.tx 0)) (k (.c (.b false)) [] 0) (fk (nt (ieq e.ptx 0)) (k (.c (.b false)) [] 0) (fk (nt (ieq e.pp 0)) (k (.c (.b false)) [] 0) (fk (nt (ieq e.ref 0)) (k (.c (.b
  false)) [] 0) (fk (ile (ssz ⟨#[]⟩) 8192) (k (.c (.b (an (ieq e.6 0) (an (ieq e.7 0) (an (beqB e.b.1 false) (an (seqB e.b.2 ⟨#[]⟩) (an (beqB e.a.1 false) (an (seqB e.a.2 ⟨#[]⟩) true)))))))) [] 0) (k (.c (.b false)) []
  0)))))) (fk (ieq e.kind 7) (fk (nt (ieq e.tx 0)) (k (.c (.b false)) [] 0) (fk (nt (ieq e.ptx 0)) (k (.c (.b false)) [] 0) (fk (nt (ieq e.pp 0)) (k (.c (.b false)) [] 0) (fk (nt (seqB ⟨#[]⟩ ⟨#[]⟩)) (k (.c (.b false)) []
  0) (fk (ile (ssz ⟨#[]⟩) 8192) (fk (an (ieq e.6 e.6) (an (ieq e.7 0) (an (beqB e.b.1 false) (an (seqB e.b.2 ⟨#[]⟩) (an (beqB e.a.1 false) (an (seqB e.a.2 ⟨#[]⟩) true)))))) (fk (ile 0 e.page) (k (.c (.b (ilt e.page 64)))
  [] 0) (k (.c (.b false)) [] 0)) (k (.c (.b false)) [] 0)) (k (.c (.b false)) [] 0)))))) (fk (ieq e.kind 8) (fk (nt (ieq e.tx 0)) (k (.c (.b false)) [] 0) (fk (nt (ieq e.ptx 0)) (k (.c (.b false)) [] 0) (fk (nt (ieq
  e.pp 0)) (k (.c (.b false)) [] 0) (fk (nt (ieq e.ref 0)) (k (.c (.b false)) [] 0) (fk (ile (ssz ⟨#[]⟩) 8192) (k (.c (.b (an (ieq e.6 0) (an (ieq e.7 0) (an (beqB e.b.1 false) (an (seqB e.b.2 ⟨#[]⟩) (an (beqB e.a.1
  false) (an (seqB e.a.2 ⟨#[]⟩) true)))))))) [] 0) (k (.c (.b false)) [] 0)))))) False))))))))) False)) (k (.c (.b false)) [] 0))) (k (.c (.b false)) [] 0))) (k (.c (.b false)) [] 0)))))) := by kernel_rfl
theorem vc40 (l : List En) (dur : Int) (k : KVk) : dbody Tryz.prog (dcall Tryz.prog T95 (fun _ => []) 5) [(5, lpI 37)] true 40 (argVs (psF Tryz.prog 40) [logR l dur]) [] 0 k = (fk (ilt 1 1) (k
  (.c (.b false)) [] 0) (fk (ilt 1099511627776 1) (k (.c (.b false)) [] 0) (fk (ilt 4096 (ln (ensR l))) (k (.c (.b false)) [] 0) (fk (ilt dur (wr .i64 (xsub 1 1))) (k (.c (.b false)) [] 0) (fk (ilt (wr .i64 (xsub (wr
  .i64 (xadd 1 (ln (ensR l)))) 1)) dur) (k (.c (.b false)) [] 0) (∃ (I : Nat → Prop) (μ : Nat → Nat), (∃ j, I j ∧ (0 = Int.ofNat j ∧ True) ∧ ([DV.i 1, DV.sl (ensR l), DV.i dur] = [DV.i 1, DV.sl (ensR l), DV.i dur] ∧
  True) ∧ True) ∧ ∀ (j : Nat), I j → fk (ilt (Int.ofNat j) (ln (ensR l))) (fk (inR (Int.ofNat j) (ln (ensR l))) (fk (nt (ieq (ri (rw' (ensR l) (tn (Int.ofNat j))) 0) (wr .i64 (xadd 1 (Int.ofNat j))))) (k (.c (.b false))
  [] 0) (∃ n e, EnV n e ∧ [rw' (ensR l) (tn (Int.ofNat j))] = [[DV.i n, DV.i e.kind, DV.i e.tx, DV.i e.ptx, DV.i e.pp, DV.i e.ref, DV.i e.page, DV.i e.slot, DV.b e.b.fst, DV.s e.b.snd, DV.b e.a.fst, DV.s e.a.snd, DV.s
  ⟨#[]⟩]] ∧ ∃ j', I j' ∧ lessN (μ j') (μ j) ∧ (wr .i64 (xadd (Int.ofNat j) 1) = Int.ofNat j' ∧ True) ∧ ([DV.i 1, DV.sl (ensR l), DV.i dur] = [DV.i 1, DV.sl (ensR l), DV.i dur] ∧ True) ∧ True)) False) (k (.c (.b true)) []
  0))))))) := by kernel_rfl
theorem ok135 : CtOk Tryz.prog T135 := by
  refine ct_cons .nil (fz := true) fun rs k h => ?_
  obtain ⟨pg, sl, b, a, hv, rfl, hk⟩ := h
  refine ⟨_, _, _, (vc135 pg sl b.1 a.1 b.2 a.2 k).mpr ?_⟩
  have hp0 := hv.p0; have hp1 := hv.p1; have hs0 := hv.s0; have hs1 := hv.s1; have hb := hv.b.1; have ha := hv.a.1
  have hz : ∀ c : Cl, VCl c → fk c.1 (k (.c (.b true)) [] 0) (k (.c (.b (seqB c.2 ⟨#[]⟩))) [] 0) := fun c hc => fk_of (fun _ => hk) fun e => by
    rw [hc.2 e]; exact hk
  repeat (first | (refine fk_t ?_ ?_; focus (first | rfl | (simp (disch := omega) only [FS, eq_self, List.length_cons, List.length_nil, true_and, and_true, ssz, xadd, xsub, xmul, xmin, xmax] <;> omega) | omega)) | (refine fk_n ?_ ?_; focus (first | rfl | (simp (disch := omega) only [FS, eq_self, List.length_cons, List.length_nil, true_and, and_true, ssz, xadd, xsub, xmul, xmin, xmax] <;> omega) | omega)))
  exact fk_of (fun _ => by (refine fk_t ?_ ?_; focus (first | rfl | (simp (disch := omega) only [FS, eq_self, List.length_cons, List.length_nil, true_and, and_true, ssz, xadd, xsub, xmul, xmin, xmax] <;> omega) | omega)); exact hz a hv.a) fun e => fk_t (by rw [hv.b.2 e]; rfl) (by (refine fk_t ?_ ?_; focus (first | rfl | (simp (disch := omega) only [FS, eq_self, List.length_cons, List.length_nil, true_and, and_true, ssz, xadd, xsub, xmul, xmin, xmax] <;> omega) | omega)); exact hz a hv.a)
theorem ok152 : CtOk Tryz.prog T152 := by
  refine ct_cons ok135 (fz := true) fun rs k h => ?_
  unfold g152 at h
  split at h
  · exact ⟨_, _, _, (vc152 _).mpr h⟩
  · exact h.elim
theorem seqB_nil : seqB ⟨#[]⟩ ⟨#[]⟩ = true := by unfold seqB; exact decide_eq_true rfl
theorem ok95 : CtOk Tryz.prog T95 := by
  refine ct_cons ok152 (fz := true) fun rs k h => ?_
  obtain ⟨n, e, hv, rfl, hk⟩ := h
  refine ⟨_, _, _, (vc95 n e k).mpr ?_⟩
  have n0 := hv.n0; have n1 := hv.n1
  obtain ⟨h1, h2, h3, h4, h5, h6, h7, h8, h9⟩ := hv.en
  rcases h9 with ⟨e1, e2, e3, e4, e5, e6, e7, e8⟩ | ⟨e1, e2, e3, e4, e5, e6, e7, e8, e9, e10⟩ | ⟨e1, e2, e3, e4, e5, e6, e7⟩
  · repeat (first | (refine fk_t ?_ ?_; focus (first | rfl | (simp (disch := omega) only [FS, eq_self, List.length_cons, List.length_nil, true_and, and_true, ssz, xadd, xsub, xmul, xmin, xmax] <;> omega) | omega)) | (refine fk_n ?_ ?_; focus (first | rfl | (simp (disch := omega) only [FS, eq_self, List.length_cons, List.length_nil, true_and, and_true, ssz, xadd, xsub, xmul, xmin, xmax] <;> omega) | omega)))
    exact ⟨e.page, e.slot, e.b, e.a, ⟨h7, h8, e5, e6, e7, e8⟩, rfl, hk⟩
  · rcases e1 with e1 | e1
    · repeat (first | (refine fk_t ?_ ?_; focus (first | rfl | (simp (disch := omega) only [FS, eq_self, List.length_cons, List.length_nil, true_and, and_true, ssz, xadd, xsub, xmul, xmin, xmax] <;> omega) | omega)) | (refine fk_n ?_ ?_; focus (first | rfl | (simp (disch := omega) only [FS, eq_self, List.length_cons, List.length_nil, true_and, and_true, ssz, xadd, xsub, xmul, xmin, xmax] <;> omega) | omega)))
      rw [e7, e8, e9, e10]; exact hk
    · repeat (first | (refine fk_t ?_ ?_; focus (first | rfl | (simp (disch := omega) only [FS, eq_self, List.length_cons, List.length_nil, true_and, and_true, ssz, xadd, xsub, xmul, xmin, xmax] <;> omega) | omega)) | (refine fk_n ?_ ?_; focus (first | rfl | (simp (disch := omega) only [FS, eq_self, List.length_cons, List.length_nil, true_and, and_true, ssz, xadd, xsub, xmul, xmin, xmax] <;> omega) | omega)))
      rw [e7, e8, e9, e10]; exact hk
  · repeat (first | (refine fk_t ?_ ?_; focus (first | rfl | (simp (disch := omega) only [FS, eq_self, List.length_cons, List.length_nil, true_and, and_true, ssz, xadd, xsub, xmul, xmin, xmax] <;> omega) | omega)) | (refine fk_n ?_ ?_; focus (first | rfl | (simp (disch := omega) only [FS, eq_self, List.length_cons, List.length_nil, true_and, and_true, ssz, xadd, xsub, xmul, xmin, xmax] <;> omega) | omega)))
    rw [e5, e6, e7]
    refine fk_t (by unfold ieq; rw [decide_eq_true rfl]; rfl) ?_
    repeat (first | (refine fk_t ?_ ?_; focus (first | rfl | (simp (disch := omega) only [FS, eq_self, List.length_cons, List.length_nil, true_and, and_true, ssz, xadd, xsub, xmul, xmin, xmax] <;> omega) | omega)) | (refine fk_n ?_ ?_; focus (first | rfl | (simp (disch := omega) only [FS, eq_self, List.length_cons, List.length_nil, true_and, and_true, ssz, xadd, xsub, xmul, xmin, xmax] <;> omega) | omega)))
    rw [show ilt e.page 64 = true by (first | rfl | (simp (disch := omega) only [FS, eq_self, List.length_cons, List.length_nil, true_and, and_true, ssz, xadd, xsub, xmul, xmin, xmax] <;> omega) | omega)]; exact hk
theorem ok40 : CtOk Tryz.prog T40 := by
  refine ct_cons ok95 (fz := true) fun rs k h => ?_
  obtain ⟨l, dur, hv, rfl, hk⟩ := h
  have d0 := hv.d0; have d1 := hv.d1; have d2 := hv.len
  refine ⟨_, _, _, (vc40 l dur k).mpr ?_⟩
  repeat (first | (refine fk_t ?_ ?_; focus (first | rfl | (simp (disch := omega) only [FS, eq_self, List.length_cons, List.length_nil, true_and, and_true, ssz, xadd, xsub, xmul, xmin, xmax] <;> omega) | omega)) | (refine fk_n ?_ ?_; focus (first | rfl | (simp (disch := omega) only [FS, eq_self, List.length_cons, List.length_nil, true_and, and_true, ssz, xadd, xsub, xmul, xmin, xmax] <;> omega) | omega)))
  refine ⟨fun j => j ≤ l.length ∧ True, fun j => l.length - j, range_e (ln_ens l) ⟨rfl, trivial⟩ (by omega) trivial (fun i hi _ nx => ?_) fun _ => hk⟩
  dsimp only
  obtain ⟨x, hx⟩ := at_lt hi
  rw [tn_ofNat, ens_at hx]
  repeat (first | (refine fk_t ?_ ?_; focus (first | rfl | (simp (disch := omega) only [FS, eq_self, List.length_cons, List.length_nil, true_and, and_true, ssz, xadd, xsub, xmul, xmin, xmax] <;> omega) | omega)) | (refine fk_n ?_ ?_; focus (first | rfl | (simp (disch := omega) only [FS, eq_self, List.length_cons, List.length_nil, true_and, and_true, ssz, xadd, xsub, xmul, xmin, xmax] <;> omega) | omega)))
  exact ⟨_, x, ⟨by rw [show ((i : Int) + 1 - 1).toNat = i by omega]; exact hv.en _ _ hx, by omega, by omega⟩, rfl, nx trivial⟩
end Go.Proofs.YtgjindhjgmplgaaGreat
