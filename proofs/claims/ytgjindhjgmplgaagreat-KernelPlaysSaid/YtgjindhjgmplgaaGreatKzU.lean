/-
  KernelPlays: contracts of the log's reference (pagemendref03.Valid, ref05, ref06) and truth.whole.
-/
import Derived.Test.YtgjindhjgmplgaaGreatKzT
set_option linter.unusedVariables false
set_option linter.unusedSimpArgs false
set_option maxRecDepth 100000
namespace Go.Proofs.YtgjindhjgmplgaaGreat
open Wp
noncomputable def T196 : Ct := (196, ctF (psF Tryz.prog 196) g135) :: T13
def g149 (rs : List Row) (k : V → Prop) : Prop := ∃ (n : Int) (e : En), EnV n e ∧ rs = [enR n e] ∧ k (.t [.r shEn (enR n e), .c (.b true)])
noncomputable def T149 : Ct := (149, ctF (psF Tryz.prog 149) g149) :: T196
structure BfV (a b : Int) : Prop where
  l : 0 ≤ a
  u : a < b
def g150 (rs : List Row) (k : V → Prop) : Prop := ∃ a b : Int, BfV a b ∧ rs = [[.i a], [.i b]] ∧ k (.c (.b true))
noncomputable def T150 : Ct := (150, ctF (psF Tryz.prog 150) g150) :: T149
noncomputable def T93 : Ct := (93, ctF (psF Tryz.prog 93) g95) :: T150
noncomputable def T38 : Ct := (38, ctF (psF Tryz.prog 38) g83) :: T93
noncomputable def T37 : Ct := (37, ctF (psF Tryz.prog 37) g40) :: T38
noncomputable def T16 : Ct := (16, ctF (psF Tryz.prog 16) g83) :: T37
noncomputable def T52 : Ct := (52, ctF (psF Tryz.prog 52) g40) :: T16
theorem vc196 (pg sl : Int) (b1 a1 : Bool) (b2 a2 : ByteArray) (k : KVk) : dbody Tryz.prog (dcall Tryz.prog T13 (fun _ => []) 5) [] true 196 (argVs (psF Tryz.prog 196) [[.i pg, .i sl,
  .b b1, .s b2, .b a1, .s a2]]) [] 0 k = (fk (ile 0 pg) (fk (ilt pg 64) (fk (ile 0 sl) (fk (ilt sl 16) (∃ c, [[DV.b b1, DV.s b2]] = [[DV.b c.fst, DV.s c.snd]] ∧ ∀ (b : Bool), (VCl c → b = true) → fk b (∃ c, [[DV.b a1,
  DV.s a2]] = [[DV.b c.fst, DV.s c.snd]] ∧ ∀ (b : Bool), (VCl c → b = true) → k (.c (.b b)) [] 0) (k (.c (.b false)) [] 0)) (k (.c (.b false)) [] 0)) (k (.c (.b false)) [] 0)) (k (.c (.b false)) [] 0)) (k (.c (.b false))
  [] 0)) := by kernel_rfl
theorem vc149 (n : Int) (e : En) (k : KVk) : dbody Tryz.prog (dcall Tryz.prog T196 (fun _ => []) 5) [] true 149 (argVs (psF Tryz.prog 149) [enR n e]) [] 0 k = (fk (ieq e.kind 1) (∃ pg
  sl b a, ChV pg sl b a ∧ [[DV.i e.page, DV.i e.slot, DV.b e.b.fst, DV.s e.b.snd, DV.b e.a.fst, DV.s e.a.snd]] = [[DV.i pg, DV.i sl, DV.b b.fst, DV.s b.snd, DV.b a.fst, DV.s a.snd]] ∧ fk (ieq e.kind 2) (fk (ilt 0 e.ptx)
  (fk (ile 1 e.ref) (fk (ile e.ref e.ptx) (fk (ile 1 e.tx) (k (.t [.r shEn (enR n e), .c (.b (ile e.tx 1073741824))]) [] 0) (k (.t [.r shEn (enR n e), .c (.b false)]) [] 0)) (k (.t [.r shEn (enR n e), .c (.b false)]) []
  0)) (k (.t [.r shEn (enR n e), .c (.b false)]) [] 0)) (k (.t [.r shEn (enR n e), .c (.b false)]) [] 0)) (fk (ile 1 e.tx) (k (.t [.r shEn [DV.i n, DV.i e.kind, DV.i e.tx, DV.i e.ptx, DV.i e.pp, DV.i 0, DV.i e.page, DV.i
  e.slot, DV.b e.b.fst, DV.s e.b.snd, DV.b e.a.fst, DV.s e.a.snd, DV.s ⟨#[]⟩], .c (.b (ile e.tx 1073741824))]) [] 0) (k (.t [.r shEn [DV.i n, DV.i e.kind, DV.i e.tx, DV.i e.ptx, DV.i e.pp, DV.i 0, DV.i e.page, DV.i
  e.slot, DV.b e.b.fst, DV.s e.b.snd, DV.b e.a.fst, DV.s e.a.snd, DV.s ⟨#[]⟩], .c (.b false)]) [] 0))) (fk (ieq e.kind 2) (∃ pg sl b a, ChV pg sl b a ∧ [[DV.i e.page, DV.i e.slot, DV.b e.b.fst, DV.s e.b.snd, DV.b
  e.a.fst, DV.s e.a.snd]] = [[DV.i pg, DV.i sl, DV.b b.fst, DV.s b.snd, DV.b a.fst, DV.s a.snd]] ∧ fk (ieq e.kind 2) (fk (ilt 0 e.ptx) (fk (ile 1 e.ref) (fk (ile e.ref e.ptx) (fk (ile 1 e.tx) (k (.t [.r shEn (enR n e),
  .c (.b (ile e.tx 1073741824))]) [] 0) (k (.t [.r shEn (enR n e), .c (.b false)]) [] 0)) (k (.t [.r shEn (enR n e), .c (.b false)]) [] 0)) (k (.t [.r shEn (enR n e), .c (.b false)]) [] 0)) (k (.t [.r shEn (enR n e), .c
  (.b false)]) [] 0)) (fk (ile 1 e.tx) (k (.t [.r shEn [DV.i n, DV.i e.kind, DV.i e.tx, DV.i e.ptx, DV.i e.pp, DV.i 0, DV.i e.page, DV.i e.slot, DV.b e.b.fst, DV.s e.b.snd, DV.b e.a.fst, DV.s e.a.snd, DV.s ⟨#[]⟩], .c (.b
  (ile e.tx 1073741824))]) [] 0) (k (.t [.r shEn [DV.i n, DV.i e.kind, DV.i e.tx, DV.i e.ptx, DV.i e.pp, DV.i 0, DV.i e.page, DV.i e.slot, DV.b e.b.fst, DV.s e.b.snd, DV.b e.a.fst, DV.s e.a.snd, DV.s ⟨#[]⟩], .c (.b
  false)]) [] 0))) (fk (ieq e.kind 3) (fk (ile 1 e.tx) (fk (ile e.tx 1073741824) (k (.t [.r shEn [DV.i n, DV.i e.kind, DV.i e.tx, DV.i e.ptx, DV.i 0, DV.i 0, DV.i 0, DV.i 0, DV.b false, DV.s ⟨#[]⟩, DV.b false, DV.s
  ⟨#[]⟩, DV.s ⟨#[]⟩], .c (.b (ilt 0 e.ptx))]) [] 0) (k (.t [.r shEn [DV.i n, DV.i e.kind, DV.i e.tx, DV.i e.ptx, DV.i 0, DV.i 0, DV.i 0, DV.i 0, DV.b false, DV.s ⟨#[]⟩, DV.b false, DV.s ⟨#[]⟩, DV.s ⟨#[]⟩], .c (.b
  false)]) [] 0)) (k (.t [.r shEn [DV.i n, DV.i e.kind, DV.i e.tx, DV.i e.ptx, DV.i 0, DV.i 0, DV.i 0, DV.i 0, DV.b false, DV.s ⟨#[]⟩, DV.b false, DV.s ⟨#[]⟩, DV.s ⟨#[]⟩], .c (.b false)]) [] 0)) (fk (ieq e.kind 4) (fk
  (ile 1 e.tx) (fk (ile e.tx 1073741824) (k (.t [.r shEn [DV.i n, DV.i e.kind, DV.i e.tx, DV.i e.ptx, DV.i 0, DV.i 0, DV.i 0, DV.i 0, DV.b false, DV.s ⟨#[]⟩, DV.b false, DV.s ⟨#[]⟩, DV.s ⟨#[]⟩], .c (.b (ilt 0 e.ptx))])
  [] 0) (k (.t [.r shEn [DV.i n, DV.i e.kind, DV.i e.tx, DV.i e.ptx, DV.i 0, DV.i 0, DV.i 0, DV.i 0, DV.b false, DV.s ⟨#[]⟩, DV.b false, DV.s ⟨#[]⟩, DV.s ⟨#[]⟩], .c (.b false)]) [] 0)) (k (.t [.r shEn [DV.i n, DV.i
  e.kind, DV.i e.tx, DV.i e.ptx, DV.i 0, DV.i 0, DV.i 0, DV.i 0, DV.b false, DV.s ⟨#[]⟩, DV.b false, DV.s ⟨#[]⟩, DV.s ⟨#[]⟩], .c (.b false)]) [] 0)) (fk (ieq e.kind 5) (fk (ile 1 e.tx) (fk (ile e.tx 1073741824) (k (.t
  [.r shEn [DV.i n, DV.i e.kind, DV.i e.tx, DV.i e.ptx, DV.i 0, DV.i 0, DV.i 0, DV.i 0, DV.b false, DV.s ⟨#[]⟩, DV.b false, DV.s ⟨#[]⟩, DV.s ⟨#[]⟩], .c (.b (ilt 0 e.ptx))]) [] 0) (k (.t [.r shEn [DV.i n, DV.i e.kind,
  DV.i e.tx, DV.i e.ptx, DV.i 0, DV.i 0, DV.i 0, DV.i 0, DV.b false, DV.s ⟨#[]⟩, DV.b false, DV.s ⟨#[]⟩, DV.s ⟨#[]⟩], .c (.b false)]) [] 0)) (k (.t [.r shEn [DV.i n, DV.i e.kind, DV.i e.tx, DV.i e.ptx, DV.i 0, DV.i 0,
  DV.i 0, DV.i 0, DV.b false, DV.s ⟨#[]⟩, DV.b false, DV.s ⟨#[]⟩, DV.s ⟨#[]⟩], .c (.b false)]) [] 0)) (fk (ieq e.kind 6) (k (.t [.r shEn [DV.i n, DV.i e.kind, DV.i 0, DV.i 0, DV.i 0, DV.i 0, DV.i 0, DV.i 0, DV.b false,
  DV.s ⟨#[]⟩, DV.b false, DV.s ⟨#[]⟩, DV.s ⟨#[]⟩], .c (.b (ile (ssz ⟨#[]⟩) 8192))]) [] 0) (fk (ieq e.kind 8) (k (.t [.r shEn [DV.i n, DV.i e.kind, DV.i 0, DV.i 0, DV.i 0, DV.i 0, DV.i 0, DV.i 0, DV.b false, DV.s ⟨#[]⟩,
  DV.b false, DV.s ⟨#[]⟩, DV.s ⟨#[]⟩], .c (.b (ile (ssz ⟨#[]⟩) 8192))]) [] 0) (fk (ieq e.kind 7) (fk (ile 0 e.page) (k (.t [.r shEn [DV.i n, DV.i e.kind, DV.i 0, DV.i 0, DV.i 0, DV.i e.ref, DV.i e.page, DV.i 0, DV.b
  false, DV.s ⟨#[]⟩, DV.b false, DV.s ⟨#[]⟩, DV.s ⟨#[]⟩], .c (.b (ilt e.page 64))]) [] 0) (k (.t [.r shEn [DV.i n, DV.i e.kind, DV.i 0, DV.i 0, DV.i 0, DV.i e.ref, DV.i e.page, DV.i 0, DV.b false, DV.s ⟨#[]⟩, DV.b false,
  DV.s ⟨#[]⟩, DV.s ⟨#[]⟩], .c (.b false)]) [] 0)) (k (.t [.r shEn [DV.i n, DV.i e.kind, DV.i 0, DV.i 0, DV.i 0, DV.i 0, DV.i 0, DV.i 0, DV.b false, DV.s ⟨#[]⟩, DV.b false, DV.s ⟨#[]⟩, DV.s ⟨#[]⟩], .c (.b false)]) []
  0))))))))) := by kernel_rfl
theorem vc150 (a b : Int) (k : KVk) : dbody Tryz.prog (dcall Tryz.prog T149 (fun _ => []) 5) [] true 150 (argVs (psF Tryz.prog 150) [[.i a], [.i b]]) [] 0 k = (fk (ile 0 a) (k (.c
  (.b (ilt a b))) [] 0) (k (.c (.b false)) [] 0)) := by kernel_rfl
theorem vc93 (n : Int) (e : En) (k : KVk) : dbody Tryz.prog (dcall Tryz.prog T150 (fun _ => []) 5) [] true 93 (argVs (psF Tryz.prog 93) [enR n e]) [] 0 k = (∃ n_1 e_1, EnV n_1 e_1 ∧
  [(enR n e)] = [(enR n_1 e_1)] ∧ fk (an (ieq n_1 n) (an (ieq e_1.1 e.1) (an (ieq e_1.2 e.2) (an (ieq e_1.3 e.3) (an (ieq e_1.4 e.4) (an (ieq e_1.5 e.5) (an (ieq e_1.6 e.6) (an (ieq e_1.7 e.7) (an (beqB e_1.b.1 e.b.1)
  (an (seqB e_1.b.2 e.b.2) (an (beqB e_1.a.1 e.a.1) (an (seqB e_1.a.2 e.a.2) (an (seqB ⟨#[]⟩ ⟨#[]⟩) true))))))))))))) (fk (ile 1 n) (fk (ile n 1099511627776) (∃ a b, BfV a b ∧ [[DV.i e.ptx], [DV.i n]] = [[DV.i a], [DV.i
  b]] ∧ ∃ a b, BfV a b ∧ [[DV.i e.pp], [DV.i n]] = [[DV.i a], [DV.i b]] ∧ ∃ a b, BfV a b ∧ [[DV.i e.ref], [DV.i n]] = [[DV.i a], [DV.i b]] ∧ k (.c (.b true)) [] 0) (k (.c (.b false)) [] 0)) (k (.c (.b false)) [] 0)) (k
  (.c (.b false)) [] 0)) := by kernel_rfl
theorem vc38 (l : List En) (dur : Int) (k : KVk) : dbody Tryz.prog (dcall Tryz.prog T93 (fun _ => []) 5) [] true 38 (argVs (psF Tryz.prog 38) [logR l dur]) [] 0 k = (k (.c (.i .i64 (wr
  .i64 (xsub (wr .i64 (xadd 1 (ln (ensR l)))) 1)))) [] 0) := by kernel_rfl
theorem vc37 (l : List En) (dur : Int) (k : KVk) : dbody Tryz.prog (dcall Tryz.prog T38 (fun _ => []) 5) [(5, lpI 3)] true 37 (argVs (psF Tryz.prog 37) [logR l dur]) [] 0 k = (fk
  (ilt 1 1) (k (.c (.b false)) [] 0) (fk (ilt 1099511627776 1) (k (.c (.b false)) [] 0) (fk (ilt 4096 (ln (ensR l))) (k (.c (.b false)) [] 0) (fk (ilt dur (wr .i64 (xsub 1 1))) (k (.c (.b false)) [] 0) (∃ l_1 dur_1, LogV
  l_1 dur_1 ∧ [(logR l dur)] = [(logR l_1 dur_1)] ∧ fk (ilt (ln (ensR l_1)) dur) (k (.c (.b false)) [] 0) (∃ (I : Nat → Prop) (μ : Nat → Nat), (∃ j, I j ∧ (0 = Int.ofNat j ∧ True) ∧ ((logR l dur) = (logR l dur) ∧ True) ∧
  True) ∧ ∀ (j : Nat), I j → fk (ilt (Int.ofNat j) (ln (ensR l))) (fk (inR (Int.ofNat j) (ln (ensR l))) (fk (nt (ieq (ri (rw' (ensR l) (tn (Int.ofNat j))) 0) (wr .i64 (xadd 1 (Int.ofNat j))))) (k (.c (.b false)) [] 0)
  (fk (inR (Int.ofNat j) (ln (ensR l))) (∃ n e, EnV n e ∧ [rw' (ensR l) (tn (Int.ofNat j))] = [(enR n e)] ∧ ∃ j', I j' ∧ lessN (μ j') (μ j) ∧ (wr .i64 (xadd (Int.ofNat j) 1) = Int.ofNat j' ∧ True) ∧ ((logR l dur) = (logR
  l dur) ∧ True) ∧ True) False)) False) (k (.c (.b true)) [] 0))))))) := by kernel_rfl
theorem vc16 (l : List En) (dur : Int) (k : KVk) : dbody Tryz.prog (dcall Tryz.prog T37 (fun _ => []) 5) [] true 16 (argVs (psF Tryz.prog 16) [logR l dur]) [] 0 k = (∃ l_1 dur_1, LogV
  l_1 dur_1 ∧ [(logR l dur)] = [(logR l_1 dur_1)] ∧ ∃ l_2 dur_2, LogV l_2 dur_2 ∧ [(logR l dur)] = [(logR l_2 dur_2)] ∧ k (.c (.i .i64 (ln (ensR l_2)))) [] 0) := by kernel_rfl
theorem vc52 (l : List En) (dur : Int) (k : KVk) : dbody Tryz.prog (dcall Tryz.prog T16 (fun _ => []) 5) [] true 52 (argVs (psF Tryz.prog 52) [logR l dur]) [] 0 k = (∃ l_1 dur_1,
  LogV l_1 dur_1 ∧ [(logR l dur)] = [(logR l_1 dur_1)] ∧ k (.c (.b (ieq 1 1))) [] 0) := by kernel_rfl
theorem ok196 : CtOk Tryz.prog T196 := by
  refine ct_cons ok13 (fz := true) fun rs k h => ?_
  obtain ⟨pg, sl, b, a, hv, rfl, hk⟩ := h
  have p0 := hv.p0; have p1 := hv.p1; have s0 := hv.s0; have s1 := hv.s1
  refine ⟨_, _, _, (vc196 pg sl b.1 a.1 b.2 a.2 k).mpr ?_⟩
  repeat (first | (refine fk_t ?_ ?_; focus (first | rfl | (simp (disch := omega) only [FS, eq_self, List.length_cons, List.length_nil, true_and, and_true, ssz, xadd, xsub, xmul, xmin, xmax] <;> omega) | omega)) | (refine fk_n ?_ ?_; focus (first | rfl | (simp (disch := omega) only [FS, eq_self, List.length_cons, List.length_nil, true_and, and_true, ssz, xadd, xsub, xmul, xmin, xmax] <;> omega) | omega)))
  exact ⟨b, rfl, fun b1 hb => fk_t (hb hv.b) ⟨a, rfl, fun a1 ha => by rw [ha hv.a]; exact hk⟩⟩
theorem ok149 : CtOk Tryz.prog T149 := by
  refine ct_cons ok196 (fz := true) fun rs k h => ?_
  obtain ⟨n, e, hv, rfl, hk⟩ := h
  refine ⟨_, _, _, (vc149 n e k).mpr ?_⟩
  have n0 := hv.n0; have n1 := hv.n1
  obtain ⟨h1, h2, h3, h4, h5, h6, h7, h8, h9⟩ := hv.en
  rcases h9 with ⟨e1, e2, e3, e4, e5, e6, e7, e8⟩ | ⟨e1, e2, e3, e4, e5, e6, e7, e8, e9, e10⟩ | ⟨e1, e2, e3, e4, e5, e6, e7⟩
  · (refine fk_t ?_ ?_; focus (first | rfl | (simp (disch := omega) only [FS, eq_self, List.length_cons, List.length_nil, true_and, and_true, ssz, xadd, xsub, xmul, xmin, xmax] <;> omega) | omega))
    refine ⟨e.page, e.slot, e.b, e.a, ⟨h7, h8, e5, e6, e7, e8⟩, rfl, ?_⟩
    repeat (first | (refine fk_t ?_ ?_; focus (first | rfl | (simp (disch := omega) only [FS, eq_self, List.length_cons, List.length_nil, true_and, and_true, ssz, xadd, xsub, xmul, xmin, xmax] <;> omega) | omega)) | (refine fk_n ?_ ?_; focus (first | rfl | (simp (disch := omega) only [FS, eq_self, List.length_cons, List.length_nil, true_and, and_true, ssz, xadd, xsub, xmul, xmin, xmax] <;> omega) | omega)))
    unfold enR at hk
    rw [e4] at hk
    rw [show ile e.tx 1073741824 = true by (first | rfl | (simp (disch := omega) only [FS, eq_self, List.length_cons, List.length_nil, true_and, and_true, ssz, xadd, xsub, xmul, xmin, xmax] <;> omega) | omega)]
    exact hk
  · unfold enR at hk
    rw [e5, e6, e7, e8, e9, e10] at hk
    rcases e1 with e1 | e1
    · repeat (first | (refine fk_t ?_ ?_; focus (first | rfl | (simp (disch := omega) only [FS, eq_self, List.length_cons, List.length_nil, true_and, and_true, ssz, xadd, xsub, xmul, xmin, xmax] <;> omega) | omega)) | (refine fk_n ?_ ?_; focus (first | rfl | (simp (disch := omega) only [FS, eq_self, List.length_cons, List.length_nil, true_and, and_true, ssz, xadd, xsub, xmul, xmin, xmax] <;> omega) | omega)))
      rw [show ilt 0 e.ptx = true by (first | rfl | (simp (disch := omega) only [FS, eq_self, List.length_cons, List.length_nil, true_and, and_true, ssz, xadd, xsub, xmul, xmin, xmax] <;> omega) | omega)]
      exact hk
    · repeat (first | (refine fk_t ?_ ?_; focus (first | rfl | (simp (disch := omega) only [FS, eq_self, List.length_cons, List.length_nil, true_and, and_true, ssz, xadd, xsub, xmul, xmin, xmax] <;> omega) | omega)) | (refine fk_n ?_ ?_; focus (first | rfl | (simp (disch := omega) only [FS, eq_self, List.length_cons, List.length_nil, true_and, and_true, ssz, xadd, xsub, xmul, xmin, xmax] <;> omega) | omega)))
      rw [show ilt 0 e.ptx = true by (first | rfl | (simp (disch := omega) only [FS, eq_self, List.length_cons, List.length_nil, true_and, and_true, ssz, xadd, xsub, xmul, xmin, xmax] <;> omega) | omega)]
      exact hk
  · unfold enR at hk
    rw [e2, e3, e4, e5, e6, e7] at hk
    repeat (first | (refine fk_t ?_ ?_; focus (first | rfl | (simp (disch := omega) only [FS, eq_self, List.length_cons, List.length_nil, true_and, and_true, ssz, xadd, xsub, xmul, xmin, xmax] <;> omega) | omega)) | (refine fk_n ?_ ?_; focus (first | rfl | (simp (disch := omega) only [FS, eq_self, List.length_cons, List.length_nil, true_and, and_true, ssz, xadd, xsub, xmul, xmin, xmax] <;> omega) | omega)))
    rw [show ilt e.page 64 = true by (first | rfl | (simp (disch := omega) only [FS, eq_self, List.length_cons, List.length_nil, true_and, and_true, ssz, xadd, xsub, xmul, xmin, xmax] <;> omega) | omega)]
    exact hk
theorem ok150 : CtOk Tryz.prog T150 := by
  refine ct_cons ok149 (fz := true) fun rs k h => ?_
  obtain ⟨a, b, hv, rfl, hk⟩ := h
  have h0 := hv.l; have h1 := hv.u
  refine ⟨_, _, _, (vc150 a b k).mpr ?_⟩
  repeat (first | (refine fk_t ?_ ?_; focus (first | rfl | (simp (disch := omega) only [FS, eq_self, List.length_cons, List.length_nil, true_and, and_true, ssz, xadd, xsub, xmul, xmin, xmax] <;> omega) | omega)) | (refine fk_n ?_ ?_; focus (first | rfl | (simp (disch := omega) only [FS, eq_self, List.length_cons, List.length_nil, true_and, and_true, ssz, xadd, xsub, xmul, xmin, xmax] <;> omega) | omega)))
  rw [show ilt a b = true by (first | rfl | (simp (disch := omega) only [FS, eq_self, List.length_cons, List.length_nil, true_and, and_true, ssz, xadd, xsub, xmul, xmin, xmax] <;> omega) | omega)]
  exact hk
theorem ok93 : CtOk Tryz.prog T93 := by
  refine ct_cons ok150 (fz := true) fun rs k h => ?_
  obtain ⟨n, e, hv, rfl, hk⟩ := h
  have n0 := hv.n0; have n1 := hv.n1
  have h := hv.en
  obtain ⟨h1, h2, h3, h4, h5, h6, h7⟩ := h
  refine ⟨_, _, _, (vc93 n e k).mpr ⟨n, e, hv, rfl, fk_t ?_ ?_⟩⟩
  · simp only [an_T, ieq_T, beqB_T, seqB_T, and_self]
  · repeat (first | (refine fk_t ?_ ?_; focus (first | rfl | (simp (disch := omega) only [FS, eq_self, List.length_cons, List.length_nil, true_and, and_true, ssz, xadd, xsub, xmul, xmin, xmax] <;> omega) | omega)) | (refine fk_n ?_ ?_; focus (first | rfl | (simp (disch := omega) only [FS, eq_self, List.length_cons, List.length_nil, true_and, and_true, ssz, xadd, xsub, xmul, xmin, xmax] <;> omega) | omega)))
    exact ⟨_, _, ⟨h1, by omega⟩, rfl, _, _, ⟨h3, by omega⟩, rfl, _, _, ⟨h5, by omega⟩, rfl, hk⟩
theorem ok38 : CtOk Tryz.prog T38 := by
  refine ct_cons ok93 (fz := true) fun rs k h => ?_
  obtain ⟨l, dur, hv, rfl, hk⟩ := h
  have hl := hv.len
  refine ⟨_, _, _, (vc38 l dur k).mpr ?_⟩
  rw [show wr .i64 (xsub (wr .i64 (xadd 1 (ln (ensR l)))) 1) = ln (ensR l) by rw [ln_ens]; unfold xadd xsub; rw [wr64 (n := 1 + (l.length : Int)) (by omega) (by omega), wr64 (by omega) (by omega)]; omega]
  exact hk
theorem ok37 : CtOk Tryz.prog T37 := by
  refine ct_cons ok38 (fz := true) fun rs k h => ?_
  obtain ⟨l, dur, hv, rfl, hk⟩ := h
  have d0 := hv.d0; have d1 := hv.d1; have d2 := hv.len
  refine ⟨_, _, _, (vc37 l dur k).mpr ?_⟩
  repeat (first | (refine fk_t ?_ ?_; focus (first | rfl | (simp (disch := omega) only [FS, eq_self, List.length_cons, List.length_nil, true_and, and_true, ssz, xadd, xsub, xmul, xmin, xmax] <;> omega) | omega)) | (refine fk_n ?_ ?_; focus (first | rfl | (simp (disch := omega) only [FS, eq_self, List.length_cons, List.length_nil, true_and, and_true, ssz, xadd, xsub, xmul, xmin, xmax] <;> omega) | omega)))
  refine ⟨l, dur, hv, rfl, ?_⟩
  repeat (first | (refine fk_t ?_ ?_; focus (first | rfl | (simp (disch := omega) only [FS, eq_self, List.length_cons, List.length_nil, true_and, and_true, ssz, xadd, xsub, xmul, xmin, xmax] <;> omega) | omega)) | (refine fk_n ?_ ?_; focus (first | rfl | (simp (disch := omega) only [FS, eq_self, List.length_cons, List.length_nil, true_and, and_true, ssz, xadd, xsub, xmul, xmin, xmax] <;> omega) | omega)))
  refine ⟨fun j => j ≤ l.length ∧ True, fun j => l.length - j, range_e (ln_ens l) ⟨rfl, trivial⟩ (by omega) trivial (fun i hi _ nx => ?_) fun _ => hk⟩
  dsimp only
  obtain ⟨x, hx⟩ := at_lt hi
  rw [tn_ofNat, ens_at hx]
  repeat (first | (refine fk_t ?_ ?_; focus (first | rfl | (simp (disch := omega) only [FS, eq_self, List.length_cons, List.length_nil, true_and, and_true, ssz, xadd, xsub, xmul, xmin, xmax] <;> omega) | omega)) | (refine fk_n ?_ ?_; focus (first | rfl | (simp (disch := omega) only [FS, eq_self, List.length_cons, List.length_nil, true_and, and_true, ssz, xadd, xsub, xmul, xmin, xmax] <;> omega) | omega)))
  exact ⟨_, x, ⟨by rw [show ((i : Int) + 1 - 1).toNat = i by omega]; exact hv.en _ _ hx, by omega, by omega⟩, rfl, nx trivial⟩
theorem ok16 : CtOk Tryz.prog T16 := by
  refine ct_cons ok37 (fz := true) fun rs k h => ?_
  obtain ⟨l, dur, hv, rfl, hk⟩ := h
  exact ⟨_, _, _, (vc16 l dur k).mpr ⟨l, dur, hv, rfl, l, dur, hv, rfl, hk⟩⟩
theorem ok52 : CtOk Tryz.prog T52 := by
  refine ct_cons ok16 (fz := true) fun rs k h => ?_
  obtain ⟨l, dur, hv, rfl, hk⟩ := h
  exact ⟨_, _, _, (vc52 l dur k).mpr ⟨l, dur, hv, rfl, by rw [show ieq 1 1 = true from rfl]; exact hk⟩⟩
end Go.Proofs.YtgjindhjgmplgaaGreat
