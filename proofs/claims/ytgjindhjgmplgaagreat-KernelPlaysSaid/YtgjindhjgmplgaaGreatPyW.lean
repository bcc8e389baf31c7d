/-
  KernelPlays: the call, whatever the slice of bytes holds.
-/
import Derived.Test.YtgjindhjgmplgaaGreatKzY
import Derived.ProofKit
import Derived.OpenShut
set_option linter.unusedVariables false
set_option linter.unusedSimpArgs false
section
set_option maxRecDepth 100000
namespace Go.Proofs.YtgjindhjgmplgaaGreat
open Wp
def newP (i : Int) : Pg := ⟨i, 0, List.replicate 16 noCl⟩
def newK (size : Int) : KV := ⟨0, [], 0, size, 0, [], [], [], [], [0, 0, 0]⟩
abbrev bgK (q : KV) : KV := ⟨xadd q.n 1, q.l, q.dur, q.size, q.hand, q.fs, q.hs, q.ws, q.ts ++ [newT (xadd q.n 1)], q.rows⟩
structure LfP (cs : List Row) (p : Nat) (n : Int) : Prop where
  n : n = Int.ofNat cs.length - Int.ofNat p
def g9 (vs : List V) (E : Mem) (nx : Nat) (k : KVk) : Prop := match vs, E, nx with
  | [.c (.pv 0 0)], [(0, .R s r)], 1 => fk (shEq s shC) (∃ cs p, CdV cs p ∧ r = cdR cs p ∧ ∀ n, LfP cs p n → k (.c (.i .i64 n)) [(0, .R shC (cdR cs p))] 1) False
  | _, _, _ => False
noncomputable def T9 : Ct := (9, g9) :: T18
def g8 (rs : List Row) (k : V → Prop) : Prop := ∃ i : Int, rs = [[.i i]] ∧ k (.r shPg (pgR (newP i)))
noncomputable def T8 : Ct := (8, ctF (psF Tryz.prog 8) g8) :: T9
structure NkA (size : Int) : Prop where
  l : 1 ≤ size
  u : size ≤ 3
def g6 (rs : List Row) (k : V → Prop) : Prop := ∃ size : Int, NkA size ∧ rs = [[.i 3], [.i size]] ∧ k (.t [.r shK (kR (newK size)), .c (.i .i64 0)])
noncomputable def T6 : Ct := (6, ctF (psF Tryz.prog 6) g6) :: T8
def g4 : List Row → (V → Prop) → Prop
  | [], k => k (.c (.b true))
  | _, _ => False
noncomputable def T4 : Ct := (4, ctF (psF Tryz.prog 4) g4) :: T6
def lawF : Nat → Lp := fun f => bif Nat.beq f 14 then [(0, .u 0)] else []
def lawL : Lp := [(10, .e (KV × List Pg × List Row × Nat) (fun j => [(7, .c (.i .i64 j.1.n)), (6, .c (.ow 2))]) (fun j => [(1, .R shK (kR j.1)), (2, .W shPg (pgsR j.2.1)), (0, .R shC (cdR j.2.2.1 j.2.2.2))]) 0 []),
  (1017, .e (KV × List Row × Nat) (fun j => [(7, .c (.i .i64 j.1.n))]) (fun j => [(1, .R shK (kR j.1)), (0, .R shC (cdR j.2.1 j.2.2))]) 0 []),
  (1033, .e (KV × List Pg × RsR) (fun _ => []) (fun j => [(1, .R shK (kR j.1)), (2, .W shPg (pgsR j.2.1)), (4, .R shK (kR j.1)), (5, .R shRs (rsR j.2.2))]) 0 []),
  (1037, .e Unit (fun _ => []) (fun _ => []) 0 [])]
theorem vc9 (cs : List Row) (p : Nat) (k : KVk) : dbody Tryz.prog (dcall Tryz.prog T18 (fun _ => []) 5) [] false 9 [.c (.pv 0 0)] [(0, .R shC (cdR cs p))] 1 k = (k (.c (.i .i64 (wr .i64 (xsub (ln cs)
  (Int.ofNat p))))) [(0, .R [.sl [.i .u8], .i .i64] [DV.sl cs, DV.i (Int.ofNat p)])] 1) := by kernel_rfl
theorem vc8 (i : Int) (k : KVk) : dbody Tryz.prog (dcall Tryz.prog T9 (fun _ => []) 5) [] true 8 (argVs (psF Tryz.prog 8) [[.i i]]) [] 0 k = (k (.r shPg [DV.i i, DV.i 0, DV.b false, DV.s ⟨#[]⟩, DV.b
  false, DV.s ⟨#[]⟩, DV.b false, DV.s ⟨#[]⟩, DV.b false, DV.s ⟨#[]⟩, DV.b false, DV.s ⟨#[]⟩, DV.b false, DV.s ⟨#[]⟩, DV.b false, DV.s ⟨#[]⟩, DV.b false, DV.s ⟨#[]⟩, DV.b false, DV.s ⟨#[]⟩, DV.b false, DV.s ⟨#[]⟩, DV.b
  false, DV.s ⟨#[]⟩, DV.b false, DV.s ⟨#[]⟩, DV.b false, DV.s ⟨#[]⟩, DV.b false, DV.s ⟨#[]⟩, DV.b false, DV.s ⟨#[]⟩, DV.b false, DV.s ⟨#[]⟩]) [] 0) := by kernel_rfl
theorem vc6 (size : Int) (k : KVk) : dbody Tryz.prog (dcall Tryz.prog T8 (fun _ => []) 5) [] true 6 (argVs (psF Tryz.prog 6) [[.i 3], [.i size]]) [] 0 k = (fk (ilt size 1) (k (.t [.r shK zKR, .c (.i
  .i64 1)]) [] 0) (fk (ilt 64 size) (k (.t [.r shK zKR, .c (.i .i64 1)]) [] 0) (k (.t [.r shK [DV.i 3, DV.i 1, DV.i 1, DV.sl [], DV.i 0, DV.i size, DV.sl [], DV.i 0, DV.sl [], DV.sl [], DV.sl [], DV.sl (lrep 3 [DV.i 0,
  DV.i 0, DV.i 0]), DV.sl []], .c (.i .i64 0)]) [] 0))) := by kernel_rfl
theorem vc3 (cs : List Row) (k : KVk) : dbody Tryz.prog (dcall Tryz.prog T4 lawF 5) lawL true 3 (argVs (psF Tryz.prog 3) [[.sl cs]]) [] 0 k = (NwC (rl [DV.sl (rl [DV.sl
  cs] 0)] 0) ∧ ∀ (cs' : List Row), CdV cs' 0 → ∃ cs p, NxV cs p (ri [DV.i 3] 0) ∧ [DV.sl cs', DV.i 0] = [DV.sl cs, DV.i (Int.ofNat p)] ∧ ∀ (x : Int) (p' : Nat), NxP cs p (ri [DV.i 3] 0) x p' → ∃ size, NkA size ∧ [[DV.i
  3], [DV.i (wr .i64 (xadd 1 x))]] = [[DV.i 3], [DV.i size]] ∧ ∃ i, [[DV.i 0]] = [[DV.i i]] ∧ ∃ i_1, [[DV.i 1]] = [[DV.i i_1]] ∧ ∃ i_2, [[DV.i 2]] = [[DV.i i_2]] ∧ ∃ (I : KV × List Pg × List Row × Nat → Prop) (μ : KV ×
  List Pg × List Row × Nat → Nat), (∃ j, I j ∧ (0 = j.fst.n ∧ True ∧ True) ∧ ((kR (newK size)) = (kR j.fst) ∧ [pgR (newP i), pgR (newP i_1), pgR (newP i_2)] = pgsR j.snd.fst ∧ [DV.sl cs, DV.i (Int.ofNat p')] = [DV.sl
  j.snd.snd.fst, DV.i (Int.ofNat j.snd.snd.snd)] ∧ True) ∧ True) ∧ ∀ (j : KV × List Pg × List Row × Nat), I j → ∃ cs p, CdV cs p ∧ [DV.sl j.snd.snd.fst, DV.i (Int.ofNat j.snd.snd.snd)] = [DV.sl cs, DV.i (Int.ofNat p)] ∧
  ∀ (n : Int), LfP cs p n → fk (ilt 0 n) (∃ (I_1 : KV × List Row × Nat → Prop), fk (ilt j.fst.n 3) (∃ q, KBg q ∧ [(kR j.fst)] = [(kR q)] ∧ fk (nt (ieq (xadd q.n 1) (wr .i64 (xadd j.fst.n 1)))) (k (.c (.b false)) [] 0) (∃
  j', I_1 j' ∧ (wr .i64 (xadd j.fst.n 1) = j'.fst.n ∧ True) ∧ ([DV.i 3, DV.i (xadd q.n 1 + 1), DV.i 1, DV.sl (ensR (bgK q).l), DV.i (bgK q).dur, DV.i (bgK q).size, DV.sl (frsR (bgK q).fs), DV.i (bgK q).hand, DV.sl (gsR (bgK q).hs), DV.sl (gsR (bgK q).ws), DV.sl (txsR (bgK q).ts),
  DV.sl (rwsR (bgK q).rows), DV.sl []] = (kR j'.fst) ∧ [DV.sl cs,
  DV.i (Int.ofNat p)] = [DV.sl j'.snd.fst, DV.i (Int.ofNat j'.snd.snd)] ∧ pgsR j.snd.fst = pgsR j.snd.fst ∧ True) ∧ True)) (∃ cs_1 p_1, NxV cs_1 p_1 (ri [DV.i 12] 0) ∧ [DV.sl cs, DV.i (Int.ofNat p)] = [DV.sl cs_1, DV.i
  (Int.ofNat p_1)] ∧ ∀ (x : Int) (p' : Nat), NxP cs_1 p_1 (ri [DV.i 12] 0) x p' → fk (ieq x 0) (fk (ilt j.fst.n 12) (∃ q, KBg q ∧ [(kR j.fst)] = [(kR q)] ∧ fk (nt (ieq (xadd q.n 1) (wr .i64 (xadd j.fst.n 1)))) (k (.c (.b
  false)) [] 0) (∃ j', I_1 j' ∧ (wr .i64 (xadd j.fst.n 1) = j'.fst.n ∧ True) ∧ ([DV.i 3, DV.i (xadd q.n 1 + 1), DV.i 1, DV.sl (ensR (bgK q).l), DV.i (bgK q).dur, DV.i (bgK q).size, DV.sl
  (frsR (bgK q).fs), DV.i (bgK q).hand, DV.sl (gsR (bgK q).hs), DV.sl (gsR (bgK q).ws), DV.sl (txsR (bgK q).ts), DV.sl (rwsR (bgK q).rows), DV.sl []] = (kR
  j'.fst) ∧ [DV.sl cs_1, DV.i (Int.ofNat p')] = [DV.sl j'.snd.fst, DV.i (Int.ofNat j'.snd.snd)] ∧ pgsR j.snd.fst = pgsR j.snd.fst ∧ True) ∧ True)) (∃ j', I_1 j' ∧ (j.fst.n = j'.fst.n ∧ True) ∧ ((kR j.fst) = (kR j'.fst) ∧
  [DV.sl cs_1, DV.i (Int.ofNat p')] = [DV.sl j'.snd.fst, DV.i (Int.ofNat j'.snd.snd)] ∧ pgsR j.snd.fst = pgsR j.snd.fst ∧ True) ∧ True)) (∃ j', I_1 j' ∧ (j.fst.n = j'.fst.n ∧ True) ∧ ((kR j.fst) = (kR j'.fst) ∧ [DV.sl
  cs_1, DV.i (Int.ofNat p')] = [DV.sl j'.snd.fst, DV.i (Int.ofNat j'.snd.snd)] ∧ pgsR j.snd.fst = pgsR j.snd.fst ∧ True) ∧ True)) ∧ ∀ (j_1 : KV × List Row × Nat), I_1 j_1 → ∃ cs p, NxV cs p (ri [DV.i j_1.fst.n] 0) ∧
  [DV.sl j_1.snd.fst, DV.i (Int.ofNat j_1.snd.snd)] = [DV.sl cs, DV.i (Int.ofNat p)] ∧ ∀ (x : Int) (p' : Nat), NxP cs p (ri [DV.i j_1.fst.n] 0) x p' → ∃ cs_1 p, NxV cs_1 p (ri [DV.i 3] 0) ∧ [DV.sl cs, DV.i (Int.ofNat
  p')] = [DV.sl cs_1, DV.i (Int.ofNat p)] ∧ ∀ (a : AcR) (p' : Nat), AcP cs_1 p p' → fk (ieq a.kind 5) (∃ j', I j' ∧ lessN (μ j') (μ j) ∧ (j_1.fst.n = j'.fst.n ∧ True ∧ True) ∧ ((kR j_1.fst) = (kR j'.fst) ∧ pgsR j.snd.fst
  = pgsR j'.snd.fst ∧ [DV.sl cs_1, DV.i (Int.ofNat p')] = [DV.sl j'.snd.snd.fst, DV.i (Int.ofNat j'.snd.snd.snd)] ∧ True) ∧ True) (fk (ieq a.kind 7) (∃ j', I j' ∧ lessN (μ j') (μ j) ∧ (j_1.fst.n = j'.fst.n ∧ True ∧ True)
  ∧ ((kR j_1.fst) = (kR j'.fst) ∧ pgsR j.snd.fst = pgsR j'.snd.fst ∧ [DV.sl cs_1, DV.i (Int.ofNat p')] = [DV.sl j'.snd.snd.fst, DV.i (Int.ofNat j'.snd.snd.snd)] ∧ True) ∧ True) (∃ q wr tx a_2, DoA q wr a_2 ∧ [(kR
  j_1.fst), [DV.i (Go.Proofs.YtgjindhjgmplgaaGreat.wr .i64 (xadd 1 x))], [DV.i a.kind, DV.i a.page, DV.i a.slot, DV.s a.data]] = [(kR q), [DV.i tx], [DV.i a_2.kind, DV.i a_2.page, DV.i a_2.slot, DV.s a_2.data]] ∧ ∀ (q' : KV) (r :
  RsR), DoP q wr tx a_2 q' r → ∃ (I_2 : KV × List Pg × RsR → Prop), fk (ieq r.st 3) (∃ size fs hand id, NoF fs id ∧ [[DV.i q'.size, DV.sl (frsR q'.fs), DV.i q'.hand], [DV.i r.page]] = [(poolR size fs hand), [DV.i id]] ∧
  ∃ q wr, SpA q wr r.page ∧ (kR q') = (kR q) ∧ pgsR j.snd.fst = pgsR wr ∧ ∀ (q' : KV) (wr'
  : List Pg), SpP q r.page q' wr' → ∃ q wr tx a_5, DoA q wr a_5 ∧ [(kR q'), [DV.i
  (Go.Proofs.YtgjindhjgmplgaaGreat.wr .i64 (xadd 1 x))], [DV.i a.kind, DV.i a.page, DV.i a.slot, DV.s a.data]] = [(kR q), [DV.i tx], [DV.i a_5.kind, DV.i a_5.page, DV.i a_5.slot, DV.s a_5.data]] ∧ ∀ (q' : KV) (r : RsR), DoP q wr
  tx a_5 q' r → fk (ieq r.st 3) (k (.c (.b false)) [] 0) (∃ j', I_2 j' ∧ True ∧ ((kR q') = (kR j'.fst) ∧ pgsR wr' = pgsR j'.snd.fst ∧ (kR q') = (kR j'.fst) ∧ [DV.i r.st, DV.i r.tx, DV.i r.page, DV.b r.c.fst, DV.s
  r.c.snd, DV.i r.err] = [DV.i j'.snd.snd.st, DV.i j'.snd.snd.tx, DV.i j'.snd.snd.page, DV.b j'.snd.snd.c.fst, DV.s j'.snd.snd.c.snd, DV.i j'.snd.snd.err] ∧ [DV.i a.kind, DV.i a.page, DV.i a.slot, DV.s a.data] = [DV.i
  a.kind, DV.i a.page, DV.i a.slot, DV.s a.data] ∧ [DV.sl cs_1, DV.i (Int.ofNat p')] = [DV.sl cs_1, DV.i (Int.ofNat p')] ∧ True) ∧ True)) (∃ j', I_2 j' ∧ True ∧ ((kR q') = (kR j'.fst) ∧ pgsR j.snd.fst = pgsR j'.snd.fst ∧
  (kR q') = (kR j'.fst) ∧ [DV.i r.st, DV.i r.tx, DV.i r.page, DV.b r.c.fst, DV.s r.c.snd, DV.i r.err] = [DV.i j'.snd.snd.st, DV.i j'.snd.snd.tx, DV.i j'.snd.snd.page, DV.b j'.snd.snd.c.fst, DV.s j'.snd.snd.c.snd, DV.i
  j'.snd.snd.err] ∧ [DV.i a.kind, DV.i a.page, DV.i a.slot, DV.s a.data] = [DV.i a.kind, DV.i a.page, DV.i a.slot, DV.s a.data] ∧ [DV.sl cs_1, DV.i (Int.ofNat p')] = [DV.sl cs_1, DV.i (Int.ofNat p')] ∧ True) ∧ True) ∧ ∀
  (j_2 : KV × List Pg × RsR), I_2 j_2 → ∃ (I_3 : Unit → Prop), fk (ieq j_2.snd.snd.st 1) (fk (ieq a.kind 1) (∃ l dur, LogV l dur ∧ [(logR j_2.fst.l j_2.fst.dur)] = [(logR l dur)] ∧ ∃ l_1 dur pg sl tx c, ExA l_1 dur pg sl
  tx c ∧ [(logR j_2.fst.l j_2.fst.dur), [DV.i (Go.Proofs.YtgjindhjgmplgaaGreat.wr .i64 (xadd 1 x)), DV.i a.page, DV.i a.slot, DV.i (ln (ensR l)), DV.b j_2.snd.snd.c.fst, DV.s j_2.snd.snd.c.snd]] = [(logR l_1 dur), [DV.i tx, DV.i
  pg, DV.i sl, DV.i (Int.ofNat l_1.length), DV.b c.fst, DV.s c.snd]] ∧ ∀ (n : Int), ∃ j', I_3 j' ∧ True ∧ ((kR j_2.fst) = (kR j_2.fst) ∧ pgsR j_2.snd.fst = pgsR j_2.snd.fst ∧ (kR j_2.fst) = (kR j_2.fst) ∧ [DV.i
  j_2.snd.snd.st, DV.i j_2.snd.snd.tx, DV.i j_2.snd.snd.page, DV.b j_2.snd.snd.c.fst, DV.s j_2.snd.snd.c.snd, DV.i j_2.snd.snd.err] = [DV.i j_2.snd.snd.st, DV.i j_2.snd.snd.tx, DV.i j_2.snd.snd.page, DV.b
  j_2.snd.snd.c.fst, DV.s j_2.snd.snd.c.snd, DV.i j_2.snd.snd.err] ∧ [DV.i a.kind, DV.i a.page, DV.i a.slot, DV.s a.data] = [DV.i a.kind, DV.i a.page, DV.i a.slot, DV.s a.data] ∧ [DV.sl cs_1, DV.i (Int.ofNat p')] =
  [DV.sl cs_1, DV.i (Int.ofNat p')] ∧ True) ∧ True) (∃ j', I_3 j' ∧ True ∧ ((kR j_2.fst) = (kR j_2.fst) ∧ pgsR j_2.snd.fst = pgsR j_2.snd.fst ∧ (kR j_2.fst) = (kR j_2.fst) ∧ [DV.i j_2.snd.snd.st, DV.i j_2.snd.snd.tx,
  DV.i j_2.snd.snd.page, DV.b j_2.snd.snd.c.fst, DV.s j_2.snd.snd.c.snd, DV.i j_2.snd.snd.err] = [DV.i j_2.snd.snd.st, DV.i j_2.snd.snd.tx, DV.i j_2.snd.snd.page, DV.b j_2.snd.snd.c.fst, DV.s j_2.snd.snd.c.snd, DV.i
  j_2.snd.snd.err] ∧ [DV.i a.kind, DV.i a.page, DV.i a.slot, DV.s a.data] = [DV.i a.kind, DV.i a.page, DV.i a.slot, DV.s a.data] ∧ [DV.sl cs_1, DV.i (Int.ofNat p')] = [DV.sl cs_1, DV.i (Int.ofNat p')] ∧ True) ∧ True)) (∃
  j', I_3 j' ∧ True ∧ ((kR j_2.fst) = (kR j_2.fst) ∧ pgsR j_2.snd.fst = pgsR j_2.snd.fst ∧ (kR j_2.fst) = (kR j_2.fst) ∧ [DV.i j_2.snd.snd.st, DV.i j_2.snd.snd.tx, DV.i j_2.snd.snd.page, DV.b j_2.snd.snd.c.fst, DV.s
  j_2.snd.snd.c.snd, DV.i j_2.snd.snd.err] = [DV.i j_2.snd.snd.st, DV.i j_2.snd.snd.tx, DV.i j_2.snd.snd.page, DV.b j_2.snd.snd.c.fst, DV.s j_2.snd.snd.c.snd, DV.i j_2.snd.snd.err] ∧ [DV.i a.kind, DV.i a.page, DV.i
  a.slot, DV.s a.data] = [DV.i a.kind, DV.i a.page, DV.i a.slot, DV.s a.data] ∧ [DV.sl cs_1, DV.i (Int.ofNat p')] = [DV.sl cs_1, DV.i (Int.ofNat p')] ∧ True) ∧ True) ∧ ∀ (j_3 : Unit), I_3 j_3 → ∃ q, KVal q ∧ [(kR
  j_2.fst)] = [(kR q)] ∧ ∃ j', I j' ∧ lessN (μ j') (μ j) ∧ (j_1.fst.n = j'.fst.n ∧ True ∧ True) ∧ ((kR j_2.fst) = (kR j'.fst) ∧ pgsR j_2.snd.fst = pgsR j'.snd.fst ∧ [DV.sl cs_1, DV.i (Int.ofNat p')] = [DV.sl
  j'.snd.snd.fst, DV.i (Int.ofNat j'.snd.snd.snd)] ∧ True) ∧ True))) (∃ l dur, LgV l dur ∧ [(logR j.fst.l j.fst.dur)] = [(logR l dur)] ∧ k (.c (.b true)) [] 0)) := by kernel_rfl
theorem ok9 : CtOk Tryz.prog T9 := by
  refine ct_raw ok18 fun vs E nx k h => ?_
  unfold g9 at h
  split at h
  · rename_i s r
    obtain ⟨h1, cs, p, hv, rfl, hk⟩ := fk_yes h
    have := shEq_eq _ _ h1
    subst this
    have hl := hv.len
    have hp := hv.le
    refine ⟨_, _, _, _, (vc9 cs p k).mpr (hk _ ⟨?_⟩)⟩
    unfold ln xsub
    rw [ofN, ofN, wr64 (by omega) (by omega)]
  · exact h.elim
theorem ok8 : CtOk Tryz.prog T8 := by
  refine ct_cons ok9 (fz := true) fun rs k h => ?_
  obtain ⟨i, rfl, hk⟩ := h
  exact ⟨_, _, _, (vc8 i k).mpr hk⟩
theorem ok6 : CtOk Tryz.prog T6 := by
  refine ct_cons ok8 (fz := true) fun rs k h => ?_
  obtain ⟨size, hv, rfl, hk⟩ := h
  have h1 := hv.l; have h3 := hv.u
  refine ⟨_, _, _, (vc6 size k).mpr ?_⟩
  repeat (first | (refine fk_t ?_ ?_; focus (first | rfl | (simp (disch := omega) only [FS, eq_self, List.length_cons, List.length_nil, true_and, and_true, ssz, xadd, xsub, xmul, xmin, xmax] <;> omega) | omega)) | (refine fk_n ?_ ?_; focus (first | rfl | (simp (disch := omega) only [FS, eq_self, List.length_cons, List.length_nil, true_and, and_true, ssz, xadd, xsub, xmul, xmin, xmax] <;> omega) | omega)))
  exact hk
theorem ok4 : CtOk Tryz.prog T4 := by
  refine ct_consX ok6 awS_ok (fz := true) fun rs k h => ?_
  unfold g4 at h
  split at h
  · exact ⟨[], awLT, 14, (awake_run k).mpr h⟩
  · exact h.elim
theorem begun_ok {q : KV} {ws : List Pg} (inv : KInv q ws) (hl : q.l.length ≤ 4000) (hn : q.n < 12) : KBg q := ⟨inv.val hl, hn, by have := inv.tbl.len inv.n0; omega⟩
theorem law_ok (cs0 : List Row) (hv : NwC cs0) (k : KVk) (hk : k (.c (.b true)) [] 0) : dbody Tryz.prog (dcall Tryz.prog T4 lawF 5) lawL true 3 (argVs (psF Tryz.prog 3) [[.sl cs0]]) [] 0 k := by
  rw [vc3]
  refine ⟨hv, fun cs h0 => ⟨cs, 0, ⟨h0, by decide, by decide⟩, rfl, fun x p m => ?_⟩⟩
  have x0 : 0 ≤ x := m.x0
  have x1 : x < 3 := m.x1
  have sz : wr .i64 (xadd 1 x) = 1 + x := by unfold xadd; rw [wr64 (by omega) (by omega)]
  refine ⟨wr .i64 (xadd 1 x), ⟨by rw [sz]; omega, by rw [sz]; omega⟩, rfl, 0, rfl, 1, rfl, 2, rfl, fun j => KInv j.1 j.2.1 ∧ j.1.l.length ≤ 4 * j.2.2.2 ∧ j.2.2.1 = cs ∧ CdV cs j.2.2.2, fun j => cs.length - j.2.2.2,
    ⟨(newK (wr .i64 (xadd 1 x)), [newP 0, newP 1, newP 2], cs, p), ⟨KInv.new _ (by rw [sz]; omega) (by rw [sz]; omega), Nat.zero_le _, rfl, h0.mv m.mv⟩, ⟨rfl, trivial, trivial⟩, ⟨rfl, rfl, rfl, trivial⟩, trivial⟩, ?_⟩
  rintro ⟨q, ws, c2, p⟩ ⟨inv, hl, e, hc⟩
  have e : c2 = cs := e
  subst e
  have hc : CdV c2 p := hc
  have inv : KInv q ws := inv
  have hl : q.l.length ≤ 4 * p := hl
  have c3 := hc.len
  have cp := hc.le
  have kv := inv.val (by omega)
  refine ⟨c2, p, hc, rfl, fun n hn => fk_of (fun h1 => ?_) fun h1 => ⟨q.l, q.dur, ⟨kv.log, inv.log⟩, rfl, hk⟩⟩
  have hp : p < c2.length := by have := ilt_t h1; have := hn.n; rw [ofN, ofN] at this; omega
  have n0 := inv.n0
  have n12 := inv.n12
  refine ⟨fun j => KInv j.1 ws ∧ j.1.l.length ≤ 4 * p ∧ 1 ≤ j.1.n ∧ j.2.1 = c2 ∧ MvP c2 p j.2.2, ?_, ?_⟩
  · have beg : ∀ p1, MvP c2 p p1 → ∀ (hn : q.n < 12) {X Y : Prop}, Y → fk (nt (ieq (xadd q.n 1) (wr .i64 (xadd q.n 1)))) X Y := fun p1 m1 hn X Y hY =>
      fk_n (by rw [nt_F, ieq_T]; unfold xadd; rw [wr64 (by omega) (by omega)]) hY
    have wn : q.n < 12 → wr .i64 (xadd q.n 1) = q.n + 1 := fun h => by unfold xadd; rw [wr64 (by omega) (by omega)]
    refine fk_of (fun h3 => ?_) fun h3 => ?_
    · have h12 : q.n < 12 := by have h : q.n < 3 := ilt_t h3; omega
      exact ⟨q, begun_ok inv (by omega) h12, rfl, beg p (MvP.rfl' hc) h12 ⟨({ q with n := q.n + 1, ts := q.ts ++ [newT (q.n + 1)] }, c2, p), ⟨inv.begin h12, hl, by dsimp only; omega, rfl, MvP.rfl' hc⟩, ⟨wn h12, trivial⟩, ⟨rfl, rfl, rfl, trivial⟩, trivial⟩⟩
    · have h3 : 3 ≤ q.n := ilt_f h3
      refine ⟨c2, p, ⟨hc, by decide, by decide⟩, rfl, fun y p1 m1 => fk_of (fun _ => fk_of (fun h4 => ?_) fun _ => ?_) fun _ => ?_⟩
      · have h12 : q.n < 12 := ilt_t h4
        exact ⟨q, begun_ok inv (by omega) h12, rfl, beg p1 m1.mv h12 ⟨({ q with n := q.n + 1, ts := q.ts ++ [newT (q.n + 1)] }, c2, p1), ⟨inv.begin h12, hl, by dsimp only; omega, rfl, m1.mv⟩, ⟨wn h12, trivial⟩, ⟨rfl, rfl, rfl, trivial⟩, trivial⟩⟩
      · exact ⟨(q, c2, p1), ⟨inv, hl, by dsimp only; omega, rfl, m1.mv⟩, ⟨rfl, trivial⟩, ⟨rfl, rfl, rfl, trivial⟩, trivial⟩
      · exact ⟨(q, c2, p1), ⟨inv, hl, by dsimp only; omega, rfl, m1.mv⟩, ⟨rfl, trivial⟩, ⟨rfl, rfl, rfl, trivial⟩, trivial⟩
  · rintro ⟨q1, c4, p1⟩ ⟨inv1, l1, nn, e, m1⟩
    have e : c4 = c2 := e
    subst e
    have inv1 : KInv q1 ws := inv1
    have l1 : q1.l.length ≤ 4 * p := l1
    have nn : 1 ≤ q1.n := nn
    have m1 : MvP c4 p p1 := m1
    have n12 := inv1.n12
    refine ⟨c4, p1, ⟨hc.mv m1, nn, by show q1.n ≤ 256; omega⟩, rfl, fun x p2 m2 => ⟨c4, p2, ⟨(hc.mv m1).mv m2.mv, by decide, by decide⟩, rfl, fun a p3 m3 => ?_⟩⟩
    have hc3 := ((hc.mv m1).mv m2.mv).mv m3.mv
    have up : p < p3 := by
      have := m1.up; have := m2.mv.up; have := m3.mv.up
      have := m2.lt
      have := m1.le
      omega
    have goOn : ∀ (q2 : KV) (w2 : List Pg), KInv q2 w2 → q2.l.length ≤ 4 * p + 4 → q2.n = q1.n → ∃ j' : KV × List Pg × List Row × Nat, (KInv j'.1 j'.2.1 ∧ j'.1.l.length ≤ 4 * j'.2.2.2 ∧ j'.2.2.1 = c4 ∧ CdV c4 j'.2.2.2) ∧ lessN (c4.length - j'.2.2.2) (c4.length - p) ∧
        (q1.n = j'.1.n ∧ True ∧ True) ∧ (kR q2 = kR j'.1 ∧ pgsR w2 = pgsR j'.2.1 ∧ [DV.sl c4, DV.i (Int.ofNat p3)] = [DV.sl j'.2.2.1, DV.i (Int.ofNat j'.2.2.2)] ∧ True) ∧ True := fun q2 w2 i2 l2 n2 =>
      ⟨(q2, w2, c4, p3), ⟨i2, by dsimp only; omega, rfl, hc3⟩, by show c4.length - p3 < c4.length - p; omega, ⟨n2.symm, trivial, trivial⟩, ⟨rfl, rfl, rfl, trivial⟩, trivial⟩
    refine fk_of (fun _ => goOn q1 ws inv1 (by omega) rfl) fun k5 => fk_of (fun _ => goOn q1 ws inv1 (by omega) rfl) fun k7 => ?_
    have k5 : a.kind ≠ 5 := ieq_f k5
    have k7 : a.kind ≠ 7 := ieq_f k7
    refine ⟨q1, ws, Go.Proofs.YtgjindhjgmplgaaGreat.wr .i64 (xadd 1 x), a, ⟨inv1, by omega, k5, k7⟩, rfl, fun q2 r h2 => ?_⟩
    refine ⟨fun j => KInv j.1 j.2.1 ∧ j.1.l.length ≤ 4 * p + 4 ∧ j.1.n = q1.n ∧ (j.2.2.st = 1 → a.kind = 1 → OkA a ∧ j.2.2.c = cellAt j.1.l (seenF j.1.l a.page a.slot (Go.Proofs.YtgjindhjgmplgaaGreat.wr .i64 (xadd 1 x)))), ?_, ?_⟩
    · refine fk_of (fun e3 => ?_) fun e3 => ?_
      · obtain ⟨f1, f2, f3, f4, f5⟩ := h2.need (ieq_t e3)
        have fl : q2.fs.length ≤ 64 := by have := h2.inv.pool.len; have := h2.inv.pool.s3; omega
        rw [f3]
        refine ⟨q2.size, q2.fs, q2.hand, a.page, ⟨fl, by rw [f1]; exact f2⟩, rfl, q2, ws, ⟨h2.inv, by have := h2.len; omega, by rw [f1]; exact f2, f4, f5⟩, rfl, rfl, fun q3 w3 h3 => ?_⟩
        have l2 := h2.len
        have l3 := h3.len
        refine ⟨q3, w3, Go.Proofs.YtgjindhjgmplgaaGreat.wr .i64 (xadd 1 x), a, ⟨h3.inv, by omega, k5, k7⟩, rfl, fun q4 r4 h4 => fk_of (fun e4 => ?_) fun e4 => ?_⟩
        · obtain ⟨_, g2, _⟩ := h4.need (ieq_t e4)
          obtain ⟨i, hi⟩ := h3.has
          rw [g2] at hi
          cases hi
        · have l4 := h4.len
          exact ⟨(q4, w3, r4), ⟨h4.inv, by dsimp only; omega, h4.n.trans (h3.n.trans h2.n), h4.read⟩, trivial, ⟨rfl, rfl, rfl, rfl, rfl, rfl, trivial⟩, trivial⟩
      · have l2 := h2.len
        exact ⟨(q2, ws, r), ⟨h2.inv, by dsimp only; omega, h2.n, h2.read⟩, trivial, ⟨rfl, rfl, rfl, rfl, rfl, rfl, trivial⟩, trivial⟩
    · rintro ⟨q5, w5, r5⟩ ⟨i5, l5, n5, rd⟩
      have i5 : KInv q5 w5 := i5
      have l5 : q5.l.length ≤ 4 * p + 4 := l5
      have n5 : q5.n = q1.n := n5
      have kv5 := i5.val (by omega)
      refine ⟨fun _ => True, ?_, fun _ _ => ⟨q5, kv5, rfl, goOn q5 w5 i5 l5 n5⟩⟩
      refine fk_of (fun s1 => fk_of (fun a1 => ?_) fun _ => ?_) fun _ => ?_
      · have a1 : a.kind = 1 := ieq_t a1
        obtain ⟨ok, ec⟩ := rd (ieq_t s1) a1
        obtain ⟨p0, p3, s0, s16⟩ := ok.cell (by omega)
        refine ⟨q5.l, q5.dur, kv5.log, rfl, q5.l, q5.dur, a.page, a.slot, Go.Proofs.YtgjindhjgmplgaaGreat.wr .i64 (xadd 1 x), r5.c, ⟨⟨kv5.log, p0, by omega, s0, s16⟩, ec⟩, by dsimp only; rw [ln_ens]; rfl, fun _ => ?_⟩
        exact ⟨(), trivial, trivial, ⟨rfl, rfl, rfl, rfl, rfl, rfl, trivial⟩, trivial⟩
      · exact ⟨(), trivial, trivial, ⟨rfl, rfl, rfl, rfl, rfl, rfl, trivial⟩, trivial⟩
      · exact ⟨(), trivial, trivial, ⟨rfl, rfl, rfl, rfl, rfl, rfl, trivial⟩, trivial⟩
end Go.Proofs.YtgjindhjgmplgaaGreat
end
section
set_option maxRecDepth 100000
namespace Go.Proofs.YtgjindhjgmplgaaGreat
open Go.RowKit Go.ChangeShapes Go.WideShapes Go.ChangeAt
open Wp
def IsRow (k : IntKind) (w : World) (a : Option Addr) (len cap : Nat) (zs : List Int) : Prop :=
  (a = none ∧ len = 0 ∧ cap = 0 ∧ zs = []) ∨
  ∃ x, a = some x ∧ len ≤ cap ∧ cap ≤ maxLen ∧ zs.length = cap ∧ (∀ i, i < zs.length → w.cell? (x.add i) = some (.int k (zs.getD i 0))) ∧ ∀ n ∈ zs, (Lit.int k n).wf = true
def inRows (len : Nat) (zs : List Int) : List Row := (zs.take len).map fun n => [DV.i n]
theorem frozen_all {w : World} {x : Option Addr} {len cap : Nat} {zs : List Int} (hz : IsRow .u8 w x len cap zs) : SlD (fun b => w.heap[b]?) shU8 (inRows len zs) (.slice x len cap) := by
  unfold inRows
  rcases hz with ⟨rfl, rfl, rfl, rfl⟩ | ⟨a, rfl, hl, hm, hlen, hc, hw⟩
  · exact ⟨none, 0, rfl, by simp, .inl rfl⟩
  · by_cases h0 : len = 0
    · subst h0
      exact ⟨_, _, rfl, by simp, .inl rfl⟩
    · obtain ⟨b, off, rfl, hi⟩ := ints_at hc (by omega)
      have h1 := hi 0 (by omega)
      have hb : ∃ arr T fz, w.heap[b]? = some (.cells arr T fz) := by
        unfold World.cell? at h1
        split at h1
        · rename_i arr T fz hb; exact ⟨_, _, _, hb⟩
        · cases h1
      obtain ⟨arr, T, fz, hb⟩ := hb
      refine ⟨some ⟨b, off, none⟩, cap, by simp; omega, by simp; omega, .inr ⟨b, off, arr, T, fz, rfl, hb, fun i row hr => ?_⟩⟩
      have hil : i < zs.length ∧ i < len := by
        have := (List.getElem?_eq_some_iff.1 hr).1
        simp at this; omega
      have hrow : row = [DV.i (zs.getD i 0)] := by
        simp [hil.1, hil.2] at hr
        rw [← hr]; simp [hil.1]
      have hcell := hi i hil.1
      rw [cell_of_row w b _ arr T fz hb] at hcell
      have hlt := (Array.getElem?_eq_some_iff.1 hcell).1
      have hvs : (arr.toList.drop (off + i * shU8.length)).take shU8.length = [Value.int .u8 (zs.getD i 0)] := by
        show (arr.toList.drop (off + i * 1)).take 1 = _
        rw [Nat.mul_one, List.drop_eq_getElem_cons (by simpa using hlt), List.take_succ_cons, List.take_zero]
        congr 1
        have := (Array.getElem?_eq_some_iff.1 hcell).2
        simpa using this
      rw [hrow, hvs]
      simp only [RowD, CellD]
      exact ⟨_, _, _, _, rfl, rfl, ⟨_, rfl, rfl⟩, rfl, rfl⟩
theorem byt_of {w : World} {x : Option Addr} {len cap : Nat} {zs : List Int} (hz : IsRow .u8 w x len cap zs) : ∀ row ∈ inRows len zs, ∃ n, row = [DV.i n] ∧ 0 ≤ n ∧ n ≤ 255 := by
  intro row hr
  obtain ⟨n, hn, rfl⟩ := List.mem_map.1 hr
  have hmem : n ∈ zs := List.mem_of_mem_take hn
  rcases hz with ⟨_, _, _, rfl⟩ | ⟨_, _, _, _, _, _, hw⟩
  · cases hmem
  · exact ⟨n, rfl, (bounds_u8 (hw _ hmem)).1, (bounds_u8 (hw _ hmem)).2⟩
theorem len_of {w : World} {x : Option Addr} {len cap : Nat} {zs : List Int} (hz : IsRow .u8 w x len cap zs) : (inRows len zs).length ≤ 9223372036854775807 := by
  unfold inRows
  rcases hz with ⟨_, rfl, _, _⟩ | ⟨_, _, h1, h2, h3, _⟩
  · simp
  · have : maxLen ≤ 9223372036854775807 := by unfold maxLen; omega
    simp; omega
theorem nwC_of {w : World} {x : Option Addr} {len cap : Nat} {zs : List Int} (hz : IsRow .u8 w x len cap zs) : NwC (inRows len zs) := by
  refine ⟨len_of hz, fun j => ?_⟩
  by_cases hj : j < (inRows len zs).length
  · obtain ⟨n, hn, h1, h2⟩ := byt_of hz _ (List.getElem_mem hj)
    have e : rw' (inRows len zs) j = [DV.i n] := by
      unfold rw'
      rw [List.getD_eq_getElem?_getD, List.getElem?_eq_getElem hj, hn]
      rfl
    rw [e]
    exact ⟨h1, h2⟩
  · have e : rw' (inRows len zs) j = [] := by
      unfold rw'
      rw [List.getD_eq_getElem?_getD, List.getElem?_eq_none (by omega)]
      rfl
    rw [e]
    exact ⟨by decide, by decide⟩
theorem psLaw : psF Tryz.prog 3 = [(false, [.sl shU8])] := by kernel_rfl
theorem plays_walk {w : World} (x : Option Addr) (len cap : Nat) {zs : List Int} (hz : IsRow .u8 w x len cap zs) : Calls Tryz.prog 3 #[.slice x len cap] w fun e w' => e = .returned (.bool true) ∧ Below w.heap.size w w' := by
  have hm : MR ⟨w, fun _ => False, fun b => w.heap[b]?⟩ (fun _ => none) (fun b => w.heap[b]?) [] w := ⟨fun x B hx => (by cases hx), fun x y b h1 _ => (by obtain ⟨⟨B, hB, _⟩, _⟩ := h1; cases hB), fun x b h1 => (by obtain ⟨⟨B, hB, _⟩, _⟩ := h1; cases hB), fun x b h1 => (by obtain ⟨⟨B, hB, _⟩, _⟩ := h1; cases hB), fun b o h => h, .refl _, fun b o h => .inl h, fun b _ _ => rfl, Nat.le_refl _, rfl, rfl, rfl⟩
  have hl := law_ok (inRows len zs) (nwC_of hz) (fun v m n => v = .c (.b true)) rfl
  rw [psLaw] at hl
  refine (dbody_ok (dcall_ok ok4 5) hl _ _ _ w [.slice x len cap] hm (fun y v h => by cases h) (.cons (show VR _ _ (.c (.sl shU8 (inRows len zs))) _ from frozen_all hz) .nil)).mono ?_
  rintro e w' ⟨v, m', nx', φ', z', u, rfl, rfl, h3, h4, h5, h6, h7, h8⟩
  have h8 : u = .bool true := h8
  subst h8
  exact ⟨rfl, h5.os, h5.tape, h5.output, h5.size, fun k hk => h5.old k hk fun h => h⟩
end Go.Proofs.YtgjindhjgmplgaaGreat
end
