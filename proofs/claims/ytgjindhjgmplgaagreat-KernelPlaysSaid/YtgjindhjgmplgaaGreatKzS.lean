/-
  KernelPlays: contracts of what the law draws: Codes.Next, Data, Int, Action, New.
-/
import Derived.Test.YtgjindhjgmplgaaGreatKzR
set_option linter.unusedVariables false
set_option linter.unusedSimpArgs false
set_option maxRecDepth 100000
namespace Go.Proofs.YtgjindhjgmplgaaGreat
open Wp
abbrev shU8 : Sh := [.i .u8]
abbrev shC : Sh := [.sl shU8, .i .i64]
def cdR (cs : List Row) (p : Nat) : Row := [.sl cs, .i (Int.ofNat p)]
structure CdV (cs : List Row) (p : Nat) : Prop where
  le : p ≤ cs.length
  len : cs.length ≤ 300
  byt : ∀ j, 0 ≤ ri (rw' cs j) 0 ∧ ri (rw' cs j) 0 ≤ 255
structure MvP (cs : List Row) (p p' : Nat) : Prop where
  up : p ≤ p'
  le : p' ≤ cs.length
structure NxV (cs : List Row) (p : Nat) (n : Int) : Prop where
  v : CdV cs p
  n1 : 1 ≤ n
  n2 : n ≤ 256
structure NxP (cs : List Row) (p : Nat) (n x : Int) (p' : Nat) : Prop where
  mv : MvP cs p p'
  x0 : 0 ≤ x
  x1 : x < n
  lt : p < cs.length → p < p'
def g7 (vs : List V) (E : Mem) (nx : Nat) (k : KVk) : Prop := match vs, E, nx with
  | [.c (.pv 0 0), .c (.i .i64 n)], [(0, .R s r)], 1 => fk (shEq s shC) (∃ cs p, NxV cs p n ∧ r = cdR cs p ∧ ∀ x p', NxP cs p n x p' → k (.c (.i .i64 x)) [(0, .R shC (cdR cs p'))] 1) False
  | _, _, _ => False
noncomputable def T7 : Ct := (7, g7) :: ((7, noG) :: T14)
structure DaP (cs : List Row) (p : Nat) (y : ByteArray) (p' : Nat) : Prop where
  mv : MvP cs p p'
  sz : y.size ≤ 1000
def g23 (vs : List V) (E : Mem) (nx : Nat) (k : KVk) : Prop := match vs, E, nx with
  | [.c (.pv 0 0)], [(0, .R s r)], 1 => fk (shEq s shC) (∃ cs p, CdV cs p ∧ r = cdR cs p ∧ ∀ y p', DaP cs p y p' → k (.c (.s y)) [(0, .R shC (cdR cs p'))] 1) False
  | _, _, _ => False
noncomputable def T23 : Ct := (23, g23) :: T7
def g24 (vs : List V) (E : Mem) (nx : Nat) (k : KVk) : Prop := match vs, E, nx with
  | [.c (.pv 0 0)], [(0, .R s r)], 1 => fk (shEq s shC) (∃ cs p, CdV cs p ∧ r = cdR cs p ∧ ∀ (x : Int) p', MvP cs p p' → k (.c (.i .i64 x)) [(0, .R shC (cdR cs p'))] 1) False
  | _, _, _ => False
noncomputable def T24 : Ct := (24, g24) :: T23
structure AcP (cs : List Row) (p p' : Nat) : Prop where
  mv : MvP cs p p'
  lt : p < cs.length → p < p'
def g11 (vs : List V) (E : Mem) (nx : Nat) (k : KVk) : Prop := match vs, E, nx with
  | [.c (.pv 0 0), .c (.i .i64 n)], [(0, .R s r)], 1 => fk (shEq s shC) (∃ cs p, NxV cs p n ∧ r = cdR cs p ∧ ∀ (a : AcR) p', AcP cs p p' → k (.r shAc (acR a)) [(0, .R shC (cdR cs p'))] 1) False
  | _, _, _ => False
noncomputable def T11 : Ct := (11, g11) :: T24
structure NwC (cs : List Row) : Prop where
  len : cs.length ≤ 9223372036854775807
  byt : ∀ j, 0 ≤ ri (rw' cs j) 0 ∧ ri (rw' cs j) 0 ≤ 255
def g5 (vs : List V) (E : Mem) (nx : Nat) (k : KVk) : Prop := match vs, E, nx with
  | [.c (.sl s cs), .c (.i .i64 n)], [], 0 => fk (shEq s shU8 && inB (tn n) [300]) (NwC cs ∧ ∀ cs', CdV cs' 0 → k (.c (.pv 0 0)) [(0, .R shC (cdR cs' 0))] 1) False
  | _, _, _ => False
noncomputable def T5 : Ct := (5, g5) :: T11
def dataL : Lp := [(1005, .e (Int × List Row × Nat) (fun j => [(3, .c (.i .i64 j.1))]) (fun j => [(0, .R shC (cdR j.2.1 j.2.2))]) 0 []),
  (7, .e (Nat × List Row × List Row × Nat) (fun j => [(5, .c (.i .i64 (Int.ofNat j.1))), (4, .c (.ow 2))]) (fun j => [(2, .W shU8 j.2.1), (0, .R shC (cdR j.2.2.1 j.2.2.2))]) 1 [1])]
def actL : Lp := [(1013, .e (AcR × List Row × Nat) (fun _ => []) (fun j => [(3, .R shAc (acR j.1)), (0, .R shC (cdR j.2.1 j.2.2))]) 0 []),
  (1015, .e (AcR × List Row × Nat) (fun _ => []) (fun j => [(3, .R shAc (acR j.1)), (0, .R shC (cdR j.2.1 j.2.2))]) 0 [])]
theorem vc7 (cs : List Row) (p : Nat) (n : Int) (k : KVk) : dbody Tryz.prog (dcall Tryz.prog ((7, noG) :: T14) (fun _ => []) 5) [] false 7 [.c (.pv 0 0), .c (.i .i64 n)] [(0, .R shC (cdR cs p))] 1 k
  = (fk (ile (ln cs) (Int.ofNat p)) (k (.c (.i .i64 0)) [(0, .R [.sl [.i .u8], .i .i64] [DV.sl cs, DV.i (Int.ofNat p)])] 1) (fk (ilt n 1) (k (.c (.i .i64 0)) [(0, .R [.sl [.i .u8], .i .i64] [DV.sl cs, DV.i (Int.ofNat
  p)])] 1) (fk (inR (Int.ofNat p) (ln cs)) (fk (ilt 256 n) False (fk (ieq n 0) False (k (.c (.i .i64 (xrem (wr .i64 (ri (rw' cs (tn (Int.ofNat p))) 0)) n))) [(0, .R [.sl [.i .u8], .i .i64] [DV.sl cs, DV.i (wr .i64 (xadd
  (Int.ofNat p) 1))])] 1))) False))) := by kernel_rfl
theorem vc23 (cs : List Row) (p : Nat) (k : KVk) : dbody Tryz.prog (dcall Tryz.prog T7 (fun _ => []) 5) dataL false 23 [.c (.pv 0 0)] [(0, .R shC (cdR cs p))] 1 k = (∃ cs_1 p_1, NxV cs_1 p_1 (ri [DV.i 5] 0) ∧
  [DV.sl cs, DV.i (Int.ofNat p)] = [DV.sl cs_1, DV.i (Int.ofNat p_1)] ∧ ∀ (x : Int) (p' : Nat), NxP cs_1 p_1 (ri [DV.i 5] 0) x p' → ∃ (I : Int × List Row × Nat → Prop), (∃ cs p, NxV cs p (ri [DV.i 6] 0) ∧ [DV.sl cs_1,
  DV.i (Int.ofNat p')] = [DV.sl cs, DV.i (Int.ofNat p)] ∧ ∀ (x_1 : Int) (p' : Nat), NxP cs p (ri [DV.i 6] 0) x_1 p' → fk (ieq x_1 0) (∃ cs_2 p, NxV cs_2 p (ri [DV.i 14] 0) ∧ [DV.sl cs, DV.i (Int.ofNat p')] = [DV.sl cs_2,
  DV.i (Int.ofNat p)] ∧ ∀ (x : Int) (p' : Nat), NxP cs_2 p (ri [DV.i 14] 0) x p' → ∃ j', I j' ∧ (x = j'.fst ∧ True) ∧ ([DV.sl cs_2, DV.i (Int.ofNat p')] = [DV.sl j'.snd.fst, DV.i (Int.ofNat j'.snd.snd)] ∧ True) ∧ True)
  (∃ j', I j' ∧ (x = j'.fst ∧ True) ∧ ([DV.sl cs, DV.i (Int.ofNat p')] = [DV.sl j'.snd.fst, DV.i (Int.ofNat j'.snd.snd)] ∧ True) ∧ True)) ∧ ∀ (j : Int × List Row × Nat), I j → fk (mkOk 0 j.fst) (∃ (I : Nat × List Row ×
  List Row × Nat → Prop) (μ : Nat × List Row × List Row × Nat → Nat), (∃ j_1, I j_1 ∧ (0 = Int.ofNat j_1.fst ∧ True ∧ True) ∧ (lrep 0 [DV.i 0] = j_1.snd.fst ∧ [DV.sl j.snd.fst, DV.i (Int.ofNat j.snd.snd)] = [DV.sl
  j_1.snd.snd.fst, DV.i (Int.ofNat j_1.snd.snd.snd)] ∧ True) ∧ True) ∧ ∀ (j_1 : Nat × List Row × List Row × Nat), I j_1 → fk (ilt (Int.ofNat j_1.fst) j.fst) (∃ cs p, NxV cs p (ri [DV.i 3] 0) ∧ [DV.sl j_1.snd.snd.fst,
  DV.i (Int.ofNat j_1.snd.snd.snd)] = [DV.sl cs, DV.i (Int.ofNat p)] ∧ ∀ (x : Int) (p' : Nat), NxP cs p (ri [DV.i 3] 0) x p' → fk (apOk 1 j_1.snd.fst [[DV.i (wr .u8 (wr .i64 (xadd 97 x)))]]) (∃ j', I j' ∧ lessN (μ j') (μ
  j_1) ∧ (wr .i64 (xadd (Int.ofNat j_1.fst) 1) = Int.ofNat j'.fst ∧ True ∧ True) ∧ (lap j_1.snd.fst [[DV.i (wr .u8 (wr .i64 (xadd 97 x)))]] = j'.snd.fst ∧ [DV.sl cs, DV.i (Int.ofNat p')] = [DV.sl j'.snd.snd.fst, DV.i
  (Int.ofNat j'.snd.snd.snd)] ∧ True) ∧ True) False) (k (.c (.s (bstr j_1.snd.fst))) [(0, .R [.sl [.i .u8], .i .i64] [DV.sl j_1.snd.snd.fst, DV.i (Int.ofNat j_1.snd.snd.snd)])] 1)) False) := by kernel_rfl
theorem vc24 (cs : List Row) (p : Nat) (k : KVk) : dbody Tryz.prog (dcall Tryz.prog T23 (fun _ => []) 5) [] false 24 [.c (.pv 0 0)] [(0, .R shC (cdR cs p))] 1 k = (∃ cs_1 p_1, NxV cs_1 p_1 (ri [DV.i 10] 0) ∧
  [DV.sl cs, DV.i (Int.ofNat p)] = [DV.sl cs_1, DV.i (Int.ofNat p_1)] ∧ ∀ (x : Int) (p' : Nat), NxP cs_1 p_1 (ri [DV.i 10] 0) x p' → fk (ieq x 0) (∃ cs p, NxV cs p (ri [DV.i 3] 0) ∧ [DV.sl cs_1, DV.i (Int.ofNat p')] =
  [DV.sl cs, DV.i (Int.ofNat p)] ∧ ∀ (x : Int) (p' : Nat), NxP cs p (ri [DV.i 3] 0) x p' → k (.c (.i .i64 (wr .i64 (xsub (-1) x)))) [(0, .R [.sl [.i .u8], .i .i64] [DV.sl cs, DV.i (Int.ofNat p')])] 1) (fk (ieq x 1) (∃ cs
  p, NxV cs p (ri [DV.i 16] 0) ∧ [DV.sl cs_1, DV.i (Int.ofNat p')] = [DV.sl cs, DV.i (Int.ofNat p)] ∧ ∀ (x : Int) (p' : Nat), NxP cs p (ri [DV.i 16] 0) x p' → fk (inR x 16) (fk (nlt (tn x) [[DV.i 9223372036854775807],
  [DV.i (-9223372036854775808)], [DV.i 1099511627776], [DV.i 1099511627777], [DV.i 1073741824], [DV.i 1073741825], [DV.i 64], [DV.i 63], [DV.i 16], [DV.i 15], [DV.i 256], [DV.i 255], [DV.i 4294967296], [DV.i 65536],
  [DV.i 256], [DV.i 255]]) (k (.c (.i .i64 (ri (rw' [[DV.i 9223372036854775807], [DV.i (-9223372036854775808)], [DV.i 1099511627776], [DV.i 1099511627777], [DV.i 1073741824], [DV.i 1073741825], [DV.i 64], [DV.i 63],
  [DV.i 16], [DV.i 15], [DV.i 256], [DV.i 255], [DV.i 4294967296], [DV.i 65536], [DV.i 256], [DV.i 255]] (tn x)) 0))) [(0, .R [.sl [.i .u8], .i .i64] [DV.sl cs, DV.i (Int.ofNat p')])] 1) False) False) (∃ cs p, NxV cs p
  (ri [DV.i 20] 0) ∧ [DV.sl cs_1, DV.i (Int.ofNat p')] = [DV.sl cs, DV.i (Int.ofNat p)] ∧ ∀ (x : Int) (p' : Nat), NxP cs p (ri [DV.i 20] 0) x p' → k (.c (.i .i64 x)) [(0, .R [.sl [.i .u8], .i .i64] [DV.sl cs, DV.i
  (Int.ofNat p')])] 1))) := by kernel_rfl
theorem vc11 (cs : List Row) (p : Nat) (n : Int) (k : KVk) : dbody Tryz.prog (dcall Tryz.prog T24 (fun _ => []) 5) actL false 11 [.c (.pv 0 0), .c (.i .i64 n)] [(0, .R shC (cdR cs p))] 1 k = (∃ cs_1 p_1, NxV
  cs_1 p_1 (ri [DV.i 12] 0) ∧ [DV.sl cs, DV.i (Int.ofNat p)] = [DV.sl cs_1, DV.i (Int.ofNat p_1)] ∧ ∀ (x : Int) (p' : Nat), NxP cs_1 p_1 (ri [DV.i 12] 0) x p' → fk (inR x 12) (fk (nlt (tn x) [[DV.i 1], [DV.i 1], [DV.i
  2], [DV.i 2], [DV.i 2], [DV.i 3], [DV.i 4], [DV.i 5], [DV.i 6], [DV.i 7], [DV.i 2], [DV.i 4]]) (∃ (I : AcR × List Row × Nat → Prop), fk (ieq (ri (rw' [[DV.i 1], [DV.i 1], [DV.i 2], [DV.i 2], [DV.i 2], [DV.i 3], [DV.i
  4], [DV.i 5], [DV.i 6], [DV.i 7], [DV.i 2], [DV.i 4]] (tn x)) 0) 1) (∃ cs p, NxV cs p (ri [DV.i n] 0) ∧ [DV.sl cs_1, DV.i (Int.ofNat p')] = [DV.sl cs, DV.i (Int.ofNat p)] ∧ ∀ (x_1 : Int) (p' : Nat), NxP cs p (ri [DV.i
  n] 0) x_1 p' → ∃ cs_2 p, NxV cs_2 p (ri [DV.i 2] 0) ∧ [DV.sl cs, DV.i (Int.ofNat p')] = [DV.sl cs_2, DV.i (Int.ofNat p)] ∧ ∀ (x_2 : Int) (p' : Nat), NxP cs_2 p (ri [DV.i 2] 0) x_2 p' → fk (ieq (ri (rw' [[DV.i 1], [DV.i
  1], [DV.i 2], [DV.i 2], [DV.i 2], [DV.i 3], [DV.i 4], [DV.i 5], [DV.i 6], [DV.i 7], [DV.i 2], [DV.i 4]] (tn x)) 0) 2) (∃ cs p, CdV cs p ∧ [DV.sl cs_2, DV.i (Int.ofNat p')] = [DV.sl cs, DV.i (Int.ofNat p)] ∧ ∀ (y :
  ByteArray) (p' : Nat), DaP cs p y p' → fk (an true (an (ile 0 (xmin (ssz y) 12)) (ile (xmin (ssz y) 12) (ssz y)))) (∃ j', I j' ∧ True ∧ ([DV.i (ri (rw' [[DV.i 1], [DV.i 1], [DV.i 2], [DV.i 2], [DV.i 2], [DV.i 3], [DV.i
  4], [DV.i 5], [DV.i 6], [DV.i 7], [DV.i 2], [DV.i 4]] (tn x)) 0), DV.i x_1, DV.i x_2, DV.s (ssub y 0 (xmin (ssz y) 12))] = [DV.i j'.fst.kind, DV.i j'.fst.page, DV.i j'.fst.slot, DV.s j'.fst.data] ∧ [DV.sl cs, DV.i
  (Int.ofNat p')] = [DV.sl j'.snd.fst, DV.i (Int.ofNat j'.snd.snd)] ∧ [[DV.i 1], [DV.i 1], [DV.i 2], [DV.i 2], [DV.i 2], [DV.i 3], [DV.i 4], [DV.i 5], [DV.i 6], [DV.i 7], [DV.i 2], [DV.i 4]] = [[DV.i 1], [DV.i 1], [DV.i
  2], [DV.i 2], [DV.i 2], [DV.i 3], [DV.i 4], [DV.i 5], [DV.i 6], [DV.i 7], [DV.i 2], [DV.i 4]] ∧ [DV.i 0, DV.i 0, DV.i 0, DV.s ⟨#[]⟩] = [DV.i 0, DV.i 0, DV.i 0, DV.s ⟨#[]⟩] ∧ True) ∧ True) False) (∃ j', I j' ∧ True ∧
  ([DV.i (ri (rw' [[DV.i 1], [DV.i 1], [DV.i 2], [DV.i 2], [DV.i 2], [DV.i 3], [DV.i 4], [DV.i 5], [DV.i 6], [DV.i 7], [DV.i 2], [DV.i 4]] (tn x)) 0), DV.i x_1, DV.i x_2, DV.s ⟨#[]⟩] = [DV.i j'.fst.kind, DV.i
  j'.fst.page, DV.i j'.fst.slot, DV.s j'.fst.data] ∧ [DV.sl cs_2, DV.i (Int.ofNat p')] = [DV.sl j'.snd.fst, DV.i (Int.ofNat j'.snd.snd)] ∧ [[DV.i 1], [DV.i 1], [DV.i 2], [DV.i 2], [DV.i 2], [DV.i 3], [DV.i 4], [DV.i 5],
  [DV.i 6], [DV.i 7], [DV.i 2], [DV.i 4]] = [[DV.i 1], [DV.i 1], [DV.i 2], [DV.i 2], [DV.i 2], [DV.i 3], [DV.i 4], [DV.i 5], [DV.i 6], [DV.i 7], [DV.i 2], [DV.i 4]] ∧ [DV.i 0, DV.i 0, DV.i 0, DV.s ⟨#[]⟩] = [DV.i 0, DV.i
  0, DV.i 0, DV.s ⟨#[]⟩] ∧ True) ∧ True)) (fk (ieq (ri (rw' [[DV.i 1], [DV.i 1], [DV.i 2], [DV.i 2], [DV.i 2], [DV.i 3], [DV.i 4], [DV.i 5], [DV.i 6], [DV.i 7], [DV.i 2], [DV.i 4]] (tn x)) 0) 2) (∃ cs p, NxV cs p (ri
  [DV.i n] 0) ∧ [DV.sl cs_1, DV.i (Int.ofNat p')] = [DV.sl cs, DV.i (Int.ofNat p)] ∧ ∀ (x_1 : Int) (p' : Nat), NxP cs p (ri [DV.i n] 0) x_1 p' → ∃ cs_2 p, NxV cs_2 p (ri [DV.i 2] 0) ∧ [DV.sl cs, DV.i (Int.ofNat p')] =
  [DV.sl cs_2, DV.i (Int.ofNat p)] ∧ ∀ (x_2 : Int) (p' : Nat), NxP cs_2 p (ri [DV.i 2] 0) x_2 p' → fk (ieq (ri (rw' [[DV.i 1], [DV.i 1], [DV.i 2], [DV.i 2], [DV.i 2], [DV.i 3], [DV.i 4], [DV.i 5], [DV.i 6], [DV.i 7],
  [DV.i 2], [DV.i 4]] (tn x)) 0) 2) (∃ cs p, CdV cs p ∧ [DV.sl cs_2, DV.i (Int.ofNat p')] = [DV.sl cs, DV.i (Int.ofNat p)] ∧ ∀ (y : ByteArray) (p' : Nat), DaP cs p y p' → fk (an true (an (ile 0 (xmin (ssz y) 12)) (ile
  (xmin (ssz y) 12) (ssz y)))) (∃ j', I j' ∧ True ∧ ([DV.i (ri (rw' [[DV.i 1], [DV.i 1], [DV.i 2], [DV.i 2], [DV.i 2], [DV.i 3], [DV.i 4], [DV.i 5], [DV.i 6], [DV.i 7], [DV.i 2], [DV.i 4]] (tn x)) 0), DV.i x_1, DV.i x_2,
  DV.s (ssub y 0 (xmin (ssz y) 12))] = [DV.i j'.fst.kind, DV.i j'.fst.page, DV.i j'.fst.slot, DV.s j'.fst.data] ∧ [DV.sl cs, DV.i (Int.ofNat p')] = [DV.sl j'.snd.fst, DV.i (Int.ofNat j'.snd.snd)] ∧ [[DV.i 1], [DV.i 1],
  [DV.i 2], [DV.i 2], [DV.i 2], [DV.i 3], [DV.i 4], [DV.i 5], [DV.i 6], [DV.i 7], [DV.i 2], [DV.i 4]] = [[DV.i 1], [DV.i 1], [DV.i 2], [DV.i 2], [DV.i 2], [DV.i 3], [DV.i 4], [DV.i 5], [DV.i 6], [DV.i 7], [DV.i 2], [DV.i
  4]] ∧ [DV.i 0, DV.i 0, DV.i 0, DV.s ⟨#[]⟩] = [DV.i 0, DV.i 0, DV.i 0, DV.s ⟨#[]⟩] ∧ True) ∧ True) False) (∃ j', I j' ∧ True ∧ ([DV.i (ri (rw' [[DV.i 1], [DV.i 1], [DV.i 2], [DV.i 2], [DV.i 2], [DV.i 3], [DV.i 4], [DV.i
  5], [DV.i 6], [DV.i 7], [DV.i 2], [DV.i 4]] (tn x)) 0), DV.i x_1, DV.i x_2, DV.s ⟨#[]⟩] = [DV.i j'.fst.kind, DV.i j'.fst.page, DV.i j'.fst.slot, DV.s j'.fst.data] ∧ [DV.sl cs_2, DV.i (Int.ofNat p')] = [DV.sl
  j'.snd.fst, DV.i (Int.ofNat j'.snd.snd)] ∧ [[DV.i 1], [DV.i 1], [DV.i 2], [DV.i 2], [DV.i 2], [DV.i 3], [DV.i 4], [DV.i 5], [DV.i 6], [DV.i 7], [DV.i 2], [DV.i 4]] = [[DV.i 1], [DV.i 1], [DV.i 2], [DV.i 2], [DV.i 2],
  [DV.i 3], [DV.i 4], [DV.i 5], [DV.i 6], [DV.i 7], [DV.i 2], [DV.i 4]] ∧ [DV.i 0, DV.i 0, DV.i 0, DV.s ⟨#[]⟩] = [DV.i 0, DV.i 0, DV.i 0, DV.s ⟨#[]⟩] ∧ True) ∧ True)) (fk (ieq (ri (rw' [[DV.i 1], [DV.i 1], [DV.i 2],
  [DV.i 2], [DV.i 2], [DV.i 3], [DV.i 4], [DV.i 5], [DV.i 6], [DV.i 7], [DV.i 2], [DV.i 4]] (tn x)) 0) 3) (∃ cs p, NxV cs p (ri [DV.i n] 0) ∧ [DV.sl cs_1, DV.i (Int.ofNat p')] = [DV.sl cs, DV.i (Int.ofNat p)] ∧ ∀ (x_1 :
  Int) (p' : Nat), NxP cs p (ri [DV.i n] 0) x_1 p' → ∃ cs_2 p, NxV cs_2 p (ri [DV.i 2] 0) ∧ [DV.sl cs, DV.i (Int.ofNat p')] = [DV.sl cs_2, DV.i (Int.ofNat p)] ∧ ∀ (x_2 : Int) (p' : Nat), NxP cs_2 p (ri [DV.i 2] 0) x_2 p'
  → fk (ieq (ri (rw' [[DV.i 1], [DV.i 1], [DV.i 2], [DV.i 2], [DV.i 2], [DV.i 3], [DV.i 4], [DV.i 5], [DV.i 6], [DV.i 7], [DV.i 2], [DV.i 4]] (tn x)) 0) 2) (∃ cs p, CdV cs p ∧ [DV.sl cs_2, DV.i (Int.ofNat p')] = [DV.sl
  cs, DV.i (Int.ofNat p)] ∧ ∀ (y : ByteArray) (p' : Nat), DaP cs p y p' → fk (an true (an (ile 0 (xmin (ssz y) 12)) (ile (xmin (ssz y) 12) (ssz y)))) (∃ j', I j' ∧ True ∧ ([DV.i (ri (rw' [[DV.i 1], [DV.i 1], [DV.i 2],
  [DV.i 2], [DV.i 2], [DV.i 3], [DV.i 4], [DV.i 5], [DV.i 6], [DV.i 7], [DV.i 2], [DV.i 4]] (tn x)) 0), DV.i x_1, DV.i x_2, DV.s (ssub y 0 (xmin (ssz y) 12))] = [DV.i j'.fst.kind, DV.i j'.fst.page, DV.i j'.fst.slot, DV.s
  j'.fst.data] ∧ [DV.sl cs, DV.i (Int.ofNat p')] = [DV.sl j'.snd.fst, DV.i (Int.ofNat j'.snd.snd)] ∧ [[DV.i 1], [DV.i 1], [DV.i 2], [DV.i 2], [DV.i 2], [DV.i 3], [DV.i 4], [DV.i 5], [DV.i 6], [DV.i 7], [DV.i 2], [DV.i
  4]] = [[DV.i 1], [DV.i 1], [DV.i 2], [DV.i 2], [DV.i 2], [DV.i 3], [DV.i 4], [DV.i 5], [DV.i 6], [DV.i 7], [DV.i 2], [DV.i 4]] ∧ [DV.i 0, DV.i 0, DV.i 0, DV.s ⟨#[]⟩] = [DV.i 0, DV.i 0, DV.i 0, DV.s ⟨#[]⟩] ∧ True) ∧
  True) False) (∃ j', I j' ∧ True ∧ ([DV.i (ri (rw' [[DV.i 1], [DV.i 1], [DV.i 2], [DV.i 2], [DV.i 2], [DV.i 3], [DV.i 4], [DV.i 5], [DV.i 6], [DV.i 7], [DV.i 2], [DV.i 4]] (tn x)) 0), DV.i x_1, DV.i x_2, DV.s ⟨#[]⟩] =
  [DV.i j'.fst.kind, DV.i j'.fst.page, DV.i j'.fst.slot, DV.s j'.fst.data] ∧ [DV.sl cs_2, DV.i (Int.ofNat p')] = [DV.sl j'.snd.fst, DV.i (Int.ofNat j'.snd.snd)] ∧ [[DV.i 1], [DV.i 1], [DV.i 2], [DV.i 2], [DV.i 2], [DV.i
  3], [DV.i 4], [DV.i 5], [DV.i 6], [DV.i 7], [DV.i 2], [DV.i 4]] = [[DV.i 1], [DV.i 1], [DV.i 2], [DV.i 2], [DV.i 2], [DV.i 3], [DV.i 4], [DV.i 5], [DV.i 6], [DV.i 7], [DV.i 2], [DV.i 4]] ∧ [DV.i 0, DV.i 0, DV.i 0, DV.s
  ⟨#[]⟩] = [DV.i 0, DV.i 0, DV.i 0, DV.s ⟨#[]⟩] ∧ True) ∧ True)) (fk (ieq (ri (rw' [[DV.i 1], [DV.i 1], [DV.i 2], [DV.i 2], [DV.i 2], [DV.i 3], [DV.i 4], [DV.i 5], [DV.i 6], [DV.i 7], [DV.i 2], [DV.i 4]] (tn x)) 0) 7) (∃
  cs p, NxV cs p (ri [DV.i 2] 0) ∧ [DV.sl cs_1, DV.i (Int.ofNat p')] = [DV.sl cs, DV.i (Int.ofNat p)] ∧ ∀ (x_1 : Int) (p' : Nat), NxP cs p (ri [DV.i 2] 0) x_1 p' → ∃ j', I j' ∧ True ∧ ([DV.i (ri (rw' [[DV.i 1], [DV.i 1],
  [DV.i 2], [DV.i 2], [DV.i 2], [DV.i 3], [DV.i 4], [DV.i 5], [DV.i 6], [DV.i 7], [DV.i 2], [DV.i 4]] (tn x)) 0), DV.i 0, DV.i x_1, DV.s ⟨#[]⟩] = [DV.i j'.fst.kind, DV.i j'.fst.page, DV.i j'.fst.slot, DV.s j'.fst.data] ∧
  [DV.sl cs, DV.i (Int.ofNat p')] = [DV.sl j'.snd.fst, DV.i (Int.ofNat j'.snd.snd)] ∧ [[DV.i 1], [DV.i 1], [DV.i 2], [DV.i 2], [DV.i 2], [DV.i 3], [DV.i 4], [DV.i 5], [DV.i 6], [DV.i 7], [DV.i 2], [DV.i 4]] = [[DV.i 1],
  [DV.i 1], [DV.i 2], [DV.i 2], [DV.i 2], [DV.i 3], [DV.i 4], [DV.i 5], [DV.i 6], [DV.i 7], [DV.i 2], [DV.i 4]] ∧ [DV.i 0, DV.i 0, DV.i 0, DV.s ⟨#[]⟩] = [DV.i 0, DV.i 0, DV.i 0, DV.s ⟨#[]⟩] ∧ True) ∧ True) (∃ j', I j' ∧
  True ∧ ([DV.i (ri (rw' [[DV.i 1], [DV.i 1], [DV.i 2], [DV.i 2], [DV.i 2], [DV.i 3], [DV.i 4], [DV.i 5], [DV.i 6], [DV.i 7], [DV.i 2], [DV.i 4]] (tn x)) 0), DV.i 0, DV.i 0, DV.s ⟨#[]⟩] = [DV.i j'.fst.kind, DV.i
  j'.fst.page, DV.i j'.fst.slot, DV.s j'.fst.data] ∧ [DV.sl cs_1, DV.i (Int.ofNat p')] = [DV.sl j'.snd.fst, DV.i (Int.ofNat j'.snd.snd)] ∧ [[DV.i 1], [DV.i 1], [DV.i 2], [DV.i 2], [DV.i 2], [DV.i 3], [DV.i 4], [DV.i 5],
  [DV.i 6], [DV.i 7], [DV.i 2], [DV.i 4]] = [[DV.i 1], [DV.i 1], [DV.i 2], [DV.i 2], [DV.i 2], [DV.i 3], [DV.i 4], [DV.i 5], [DV.i 6], [DV.i 7], [DV.i 2], [DV.i 4]] ∧ [DV.i 0, DV.i 0, DV.i 0, DV.s ⟨#[]⟩] = [DV.i 0, DV.i
  0, DV.i 0, DV.s ⟨#[]⟩] ∧ True) ∧ True)))) ∧ ∀ (j : AcR × List Row × Nat), I j → ∃ (I : AcR × List Row × Nat → Prop), (∃ cs p, NxV cs p (ri [DV.i 40] 0) ∧ [DV.sl j.snd.fst, DV.i (Int.ofNat j.snd.snd)] = [DV.sl cs, DV.i
  (Int.ofNat p)] ∧ ∀ (x : Int) (p' : Nat), NxP cs p (ri [DV.i 40] 0) x p' → fk (ieq x 39) (∃ cs_2 p, CdV cs_2 p ∧ [DV.sl cs, DV.i (Int.ofNat p')] = [DV.sl cs_2, DV.i (Int.ofNat p)] ∧ ∀ (x : Int) (p' : Nat), MvP cs_2 p p'
  → ∃ cs p, CdV cs p ∧ [DV.sl cs_2, DV.i (Int.ofNat p')] = [DV.sl cs, DV.i (Int.ofNat p)] ∧ ∀ (x_1 : Int) (p' : Nat), MvP cs p p' → ∃ j', I j' ∧ True ∧ ([DV.i j.fst.kind, DV.i x, DV.i x_1, DV.s j.fst.data] = [DV.i
  j'.fst.kind, DV.i j'.fst.page, DV.i j'.fst.slot, DV.s j'.fst.data] ∧ [DV.sl cs, DV.i (Int.ofNat p')] = [DV.sl j'.snd.fst, DV.i (Int.ofNat j'.snd.snd)] ∧ [[DV.i 1], [DV.i 1], [DV.i 2], [DV.i 2], [DV.i 2], [DV.i 3],
  [DV.i 4], [DV.i 5], [DV.i 6], [DV.i 7], [DV.i 2], [DV.i 4]] = [[DV.i 1], [DV.i 1], [DV.i 2], [DV.i 2], [DV.i 2], [DV.i 3], [DV.i 4], [DV.i 5], [DV.i 6], [DV.i 7], [DV.i 2], [DV.i 4]] ∧ [DV.i 0, DV.i 0, DV.i 0, DV.s
  ⟨#[]⟩] = [DV.i 0, DV.i 0, DV.i 0, DV.s ⟨#[]⟩] ∧ True) ∧ True) (∃ j', I j' ∧ True ∧ ([DV.i j.fst.kind, DV.i j.fst.page, DV.i j.fst.slot, DV.s j.fst.data] = [DV.i j'.fst.kind, DV.i j'.fst.page, DV.i j'.fst.slot, DV.s
  j'.fst.data] ∧ [DV.sl cs, DV.i (Int.ofNat p')] = [DV.sl j'.snd.fst, DV.i (Int.ofNat j'.snd.snd)] ∧ [[DV.i 1], [DV.i 1], [DV.i 2], [DV.i 2], [DV.i 2], [DV.i 3], [DV.i 4], [DV.i 5], [DV.i 6], [DV.i 7], [DV.i 2], [DV.i
  4]] = [[DV.i 1], [DV.i 1], [DV.i 2], [DV.i 2], [DV.i 2], [DV.i 3], [DV.i 4], [DV.i 5], [DV.i 6], [DV.i 7], [DV.i 2], [DV.i 4]] ∧ [DV.i 0, DV.i 0, DV.i 0, DV.s ⟨#[]⟩] = [DV.i 0, DV.i 0, DV.i 0, DV.s ⟨#[]⟩] ∧ True) ∧
  True)) ∧ ∀ (j : AcR × List Row × Nat), I j → k (.r [.i .i64, .i .i64, .i .i64, .s] [DV.i j.fst.kind, DV.i j.fst.page, DV.i j.fst.slot, DV.s j.fst.data]) [(0, .R [.sl [.i .u8], .i .i64] [DV.sl j.snd.fst, DV.i (Int.ofNat
  j.snd.snd)])] 1) False) False) := by kernel_rfl
theorem vc5 (cs : List Row) (k : KVk) : dbody Tryz.prog (dcall Tryz.prog T11 (fun _ => []) 5) [] false 5 [.c (.sl shU8 cs), .c (.i .i64 300)] [] 0 k = (fk (ilt 300 (ln cs)) (fk (an true (an true (ile 300
  (ln cs)))) (k (.c (.pv 0 0)) [(0, .R [.sl [.i .u8], .i .i64] [DV.sl (lsub cs 0 300), DV.i 0])] 1) False) (k (.c (.pv 0 0)) [(0, .R [.sl [.i .u8], .i .i64] [DV.sl cs, DV.i 0])] 1)) := by kernel_rfl
theorem MvP.rfl' {cs : List Row} {p : Nat} (h : CdV cs p) : MvP cs p p := ⟨Nat.le_refl _, h.le⟩
theorem MvP.trans {cs : List Row} {p q r : Nat} (h : MvP cs p q) (h' : MvP cs q r) : MvP cs p r := ⟨Nat.le_trans h.up h'.up, h'.le⟩
theorem CdV.mv {cs : List Row} {p p' : Nat} (h : CdV cs p) (m : MvP cs p p') : CdV cs p' := ⟨m.le, h.len, h.byt⟩
theorem rem_in {b n : Int} (h0 : 0 ≤ b) (h1 : b ≤ 255) (n1 : 1 ≤ n) : 0 ≤ xrem (wr .i64 b) n ∧ xrem (wr .i64 b) n < n := by
  rw [wr64 (by omega) (by omega)]
  unfold xrem
  exact ⟨Int.tmod_nonneg n h0, Int.tmod_lt_of_pos b (by omega)⟩
theorem ok7 : CtOk Tryz.prog T7 := by
  refine ct_raw (noG_ok ok14 _) fun vs E nx k h => ?_
  unfold g7 at h
  split at h
  · rename_i n s r
    obtain ⟨h1, cs, p, hv, rfl, hk⟩ := fk_yes h
    have := shEq_eq _ _ h1
    subst this
    have hl := hv.v.len
    have hp := hv.v.le
    have n1 := hv.n1
    have n2 := hv.n2
    refine ⟨_, _, _, _, (vc7 cs p n k).mpr (fk_of (fun h0 => ?_) fun h0 => ?_)⟩
    · exact hk 0 p ⟨MvP.rfl' hv.v, by omega, by omega, fun h2 => by have := ile_t h0; unfold ln at this; rw [ofN] at this; omega⟩
    · have h3 := ile_f h0
      unfold ln at h3
      rw [ofN] at h3
      have hb := hv.v.byt (tn (Int.ofNat p))
      have hr := rem_in hb.1 hb.2 n1
      refine fk_n (by (first | rfl | (simp (disch := omega) only [FS, eq_self, List.length_cons, List.length_nil, true_and, and_true, ssz, xadd, xsub, xmul, xmin, xmax] <;> omega) | omega)) (fk_t (by unfold ln; (first | rfl | (simp (disch := omega) only [FS, eq_self, List.length_cons, List.length_nil, true_and, and_true, ssz, xadd, xsub, xmul, xmin, xmax] <;> omega) | omega)) (fk_n (by (first | rfl | (simp (disch := omega) only [FS, eq_self, List.length_cons, List.length_nil, true_and, and_true, ssz, xadd, xsub, xmul, xmin, xmax] <;> omega) | omega)) (fk_n (by (first | rfl | (simp (disch := omega) only [FS, eq_self, List.length_cons, List.length_nil, true_and, and_true, ssz, xadd, xsub, xmul, xmin, xmax] <;> omega) | omega)) ?_)))
      have e : wr .i64 (xadd (Int.ofNat p) 1) = Int.ofNat (p + 1) := by
        rw [ofN, ofN]
        unfold xadd
        rw [wr64 (by omega) (by omega)]
        omega
      rw [e]
      exact hk _ (p + 1) ⟨⟨by omega, by omega⟩, hr.1, hr.2, fun _ => by omega⟩
  · exact h.elim
theorem push_size (l : List Int) : ∀ b : ByteArray, (l.foldl (fun r n => r.push (UInt8.ofNat n.toNat)) b).size = b.size + l.length := by
  induction l with
  | nil => exact fun b => rfl
  | cons x l ih => exact fun b => by rw [List.foldl_cons, ih, ByteArray.size_push, List.length_cons]; omega
theorem bstr_size (l : List Row) : (bstr l).size = l.length := by
  unfold bstr
  rw [push_size, List.length_map]
  exact Nat.zero_add _
theorem ok23 : CtOk Tryz.prog T23 := by
  refine ct_raw ok7 fun vs E nx k h => ?_
  unfold g23 at h
  split at h
  · rename_i s r
    obtain ⟨h1, cs, p, hv, rfl, hk⟩ := fk_yes h
    have := shEq_eq _ _ h1
    subst this
    refine ⟨_, _, _, _, (vc23 cs p k).mpr ⟨cs, p, ⟨hv, by decide, by decide⟩, rfl, fun x p1 m1 => ?_⟩⟩
    have x0 : 0 ≤ x := m1.x0
    have x1 : x < 5 := m1.x1
    have v1 := hv.mv m1.mv
    refine ⟨fun j => (0 ≤ j.1 ∧ j.1 ≤ 20) ∧ j.2.1 = cs ∧ MvP cs p j.2.2, ⟨cs, p1, ⟨v1, by decide, by decide⟩, rfl, fun y p2 m2 => ?_⟩, ?_⟩
    · have v2 := v1.mv m2.mv
      refine fk_of (fun _ => ⟨cs, p2, ⟨v2, by decide, by decide⟩, rfl, fun z p3 m3 => ?_⟩) fun _ => ?_
      · have z0 : 0 ≤ z := m3.x0
        have z1 : z < 14 := m3.x1
        exact ⟨(z, cs, p3), ⟨⟨z0, by omega⟩, rfl, m1.mv.trans (m2.mv.trans m3.mv)⟩, ⟨rfl, trivial⟩, ⟨rfl, trivial⟩, trivial⟩
      · exact ⟨(x, cs, p2), ⟨⟨x0, by omega⟩, rfl, m1.mv.trans m2.mv⟩, ⟨rfl, trivial⟩, ⟨rfl, trivial⟩, trivial⟩
    · rintro ⟨n, cs', q⟩ ⟨⟨n0, n1⟩, e, mq⟩
      have n0 : 0 ≤ n := n0
      have n1 : n ≤ 20 := n1
      have e : cs' = cs := e
      subst e
      refine fk_t (by unfold mkOk; simp; omega) ?_
      refine ⟨fun j => (Int.ofNat j.1 ≤ n) ∧ j.2.1.length = j.1 ∧ j.2.2.1 = cs' ∧ MvP cs' p j.2.2.2, fun j => (n - Int.ofNat j.1).toNat, ⟨(0, lrep 0 [DV.i 0], cs', q), ⟨by rw [ofN]; omega, by unfold lrep; simp, rfl, mq⟩, ⟨rfl, trivial, trivial⟩, ⟨rfl, rfl, trivial⟩, trivial⟩, ?_⟩
      rintro ⟨i, l, c2, t⟩ ⟨h2, h3, e2, mt⟩
      have h2 : (i : Int) ≤ n := h2
      have h3 : l.length = i := h3
      have e2 : c2 = cs' := e2
      subst e2
      refine fk_of (fun h4 => ?_) fun h4 => ?_
      · have h4 : (i : Int) < n := ilt_t h4
        refine ⟨c2, t, ⟨hv.mv mt, by decide, by decide⟩, rfl, fun w u m4 => fk_t (by (first | rfl | (simp (disch := omega) only [FS, eq_self, List.length_cons, List.length_nil, true_and, and_true, ssz, xadd, xsub, xmul, xmin, xmax] <;> omega) | omega)) ?_⟩
        refine ⟨(i + 1, lap l [[DV.i (wr .u8 (wr .i64 (xadd 97 w)))]], c2, u), ⟨by rw [ofN]; omega, by rw [lap_len, h3]; rfl, rfl, mt.trans m4.mv⟩, ?_, ⟨?_, trivial, trivial⟩, ⟨rfl, rfl, trivial⟩, trivial⟩
        · show (n - Int.ofNat (i + 1)).toNat < (n - Int.ofNat i).toNat
          rw [ofN, ofN]
          omega
        · rw [ofN]
          unfold xadd
          rw [wr64 (by omega) (by omega)]
          rfl
      · refine hk _ t ⟨mt, ?_⟩
        show (bstr l).size ≤ 1000
        rw [bstr_size]
        omega
  · exact h.elim
theorem ok24 : CtOk Tryz.prog T24 := by
  refine ct_raw ok23 fun vs E nx k h => ?_
  unfold g24 at h
  split at h
  · rename_i s r
    obtain ⟨h1, cs, p, hv, rfl, hk⟩ := fk_yes h
    have := shEq_eq _ _ h1
    subst this
    refine ⟨_, _, _, _, (vc24 cs p k).mpr ⟨cs, p, ⟨hv, by decide, by decide⟩, rfl, fun x p1 m1 => ?_⟩⟩
    have v1 := hv.mv m1.mv
    refine fk_of (fun _ => ⟨cs, p1, ⟨v1, by decide, by decide⟩, rfl, fun y p2 m2 => ?_⟩) fun _ => fk_of (fun _ => ⟨cs, p1, ⟨v1, by decide, by decide⟩, rfl, fun y p2 m2 => ?_⟩) fun _ => ⟨cs, p1, ⟨v1, by decide, by decide⟩, rfl, fun y p2 m2 => ?_⟩
    · exact hk _ p2 (m1.mv.trans m2.mv)
    · have y0 : 0 ≤ y := m2.x0
      have y1 : y < 16 := m2.x1
      refine fk_t (by (first | rfl | (simp (disch := omega) only [FS, eq_self, List.length_cons, List.length_nil, true_and, and_true, ssz, xadd, xsub, xmul, xmin, xmax] <;> omega) | omega)) (fk_t ?_ (hk _ p2 (m1.mv.trans m2.mv)))
      unfold nlt
      exact decide_eq_true (show y.toNat < 16 by omega)
    · exact hk _ p2 (m1.mv.trans m2.mv)
  · exact h.elim
theorem ok11 : CtOk Tryz.prog T11 := by
  refine ct_raw ok24 fun vs E nx k h => ?_
  unfold g11 at h
  split at h
  · rename_i n s r
    obtain ⟨h1, cs, p, hv, rfl, hk⟩ := fk_yes h
    have := shEq_eq _ _ h1
    subst this
    have n1 := hv.n1
    have n2 := hv.n2
    refine ⟨actL, fun _ => [], 5, false, ?_⟩
    rw [vc11]
    refine ⟨cs, p, ⟨hv.v, by decide, by decide⟩, rfl, fun x p1 m1 => ?_⟩
    have x0 : 0 ≤ x := m1.x0
    have x1 : x < 12 := m1.x1
    have v1 := hv.v.mv m1.mv
    have fin : ∀ (a : AcR) q, MvP cs p1 q → AcP cs p q := fun a q m => ⟨m1.mv.trans m, fun h => Nat.lt_of_lt_of_le (m1.lt h) m.up⟩
    refine fk_t (by rw [inR_T]; exact ⟨x0, x1⟩) ?_
    refine fk_t (by rw [nlt_T]; show x.toNat < 12; omega) ?_
    refine ⟨fun j => j.2.1 = cs ∧ MvP cs p1 j.2.2, ?_, ?_⟩
    · have step : ∀ (q : Nat), MvP cs p1 q → ∀ {a b c : Int} {d : ByteArray} (I : AcR × List Row × Nat → Prop) (hI : ∀ j, (j.2.1 = cs ∧ MvP cs p1 j.2.2) → I j) {X : Prop}, X →
          ∃ j', I j' ∧ True ∧ ([DV.i a, DV.i b, DV.i c, DV.s d] = [DV.i j'.fst.kind, DV.i j'.fst.page, DV.i j'.fst.slot, DV.s j'.fst.data] ∧ [DV.sl cs, DV.i (Int.ofNat q)] = [DV.sl j'.snd.fst, DV.i (Int.ofNat j'.snd.snd)] ∧ X) ∧ True :=
        fun q m a b c d I hI X hX => ⟨(⟨a, b, c, d⟩, cs, q), hI _ ⟨rfl, m⟩, trivial, ⟨rfl, rfl, hX⟩, trivial⟩
      refine fk_of (fun _ => ?A) fun _ => fk_of (fun _ => ?B) fun _ => fk_of (fun _ => ?C) fun _ => fk_of (fun _ => ?D) fun _ => ?E
      case E => exact step p1 (MvP.rfl' v1) _ (fun _ h => h) ⟨rfl, rfl, trivial⟩
      case D => exact ⟨cs, p1, ⟨v1, by decide, by decide⟩, rfl, fun y p2 m2 => step p2 m2.mv _ (fun _ h => h) ⟨rfl, rfl, trivial⟩⟩
      all_goals
        refine ⟨cs, p1, ⟨v1, n1, n2⟩, rfl, fun y p2 m2 => ⟨cs, p2, ⟨v1.mv m2.mv, by decide, by decide⟩, rfl, fun z p3 m3 => fk_of (fun _ => ⟨cs, p3, (v1.mv m2.mv).mv m3.mv, rfl, fun d p4 m4 => fk_t ?_ ?_⟩) fun _ => ?_⟩⟩
        · (first | rfl | (simp (disch := omega) only [FS, eq_self, List.length_cons, List.length_nil, true_and, and_true, ssz, xadd, xsub, xmul, xmin, xmax] <;> omega) | omega)
        · exact step p4 (m2.mv.trans (m3.mv.trans m4.mv)) _ (fun _ h => h) ⟨rfl, rfl, trivial⟩
        · exact step p3 (m2.mv.trans m3.mv) _ (fun _ h => h) ⟨rfl, rfl, trivial⟩
    · rintro ⟨a, c2, q⟩ ⟨e, mq⟩
      have e : c2 = cs := e
      subst e
      have mq : MvP c2 p1 q := mq
      refine ⟨fun j => j.2.1 = c2 ∧ MvP c2 p1 j.2.2, ⟨c2, q, ⟨v1.mv mq, by decide, by decide⟩, rfl, fun y p2 m2 => fk_of (fun _ => ⟨c2, p2, (v1.mv mq).mv m2.mv, rfl, fun y p3 m3 => ⟨c2, p3, ((v1.mv mq).mv m2.mv).mv m3, rfl, fun z p4 m4 => ?_⟩⟩) fun _ => ?_⟩, ?_⟩
      · exact ⟨(⟨a.kind, y, z, a.data⟩, c2, p4), ⟨rfl, mq.trans (m2.mv.trans (m3.trans m4))⟩, trivial, ⟨rfl, rfl, rfl, rfl, trivial⟩, trivial⟩
      · exact ⟨(a, c2, p2), ⟨rfl, mq.trans m2.mv⟩, trivial, ⟨rfl, rfl, rfl, rfl, trivial⟩, trivial⟩
      · rintro ⟨b, c3, t⟩ ⟨e, mt⟩
        have e : c3 = c2 := e
        subst e
        exact hk b t (fin b t mt)
  · exact h.elim
theorem lsub_at (l : List Row) (n : Int) (j : Nat) : rw' (lsub l 0 n) j = rw' l j ∨ rw' (lsub l 0 n) j = [] := by
  unfold lsub rw'
  simp
  by_cases h : j < n.toNat
  · exact Or.inl (by rw [List.getElem?_take_of_lt h])
  · exact Or.inr (by rw [List.getElem?_take_eq_none (by omega)]; rfl)
theorem ok5 : CtOk Tryz.prog T5 := by
  refine ct_raw ok11 fun vs E nx k h => ?_
  unfold g5 at h
  split at h
  · rename_i s cs n
    obtain ⟨h1, hv, hk⟩ := fk_yes h
    obtain ⟨h2, h3⟩ := and2 h1
    have := shEq_eq _ _ h2
    subst this
    have h4 : n = 300 := by
      unfold inB at h3
      simp only [List.any_cons, List.any_nil, Bool.or_false] at h3
      have h3 : 300 = tn n := Nat.eq_of_beq_eq_true h3
      unfold tn at h3
      omega
    subst h4
    refine ⟨[], fun _ => [], 5, false, ?_⟩
    rw [vc5]
    have hl := hv.len
    refine fk_of (fun h5 => ?_) fun h5 => ?_
    · have h6 := ilt_t h5
      unfold ln at h6
      refine fk_t (by unfold ln; (first | rfl | (simp (disch := omega) only [FS, eq_self, List.length_cons, List.length_nil, true_and, and_true, ssz, xadd, xsub, xmul, xmin, xmax] <;> omega) | omega)) (hk _ ⟨Nat.zero_le _, by rw [lsub_len]; omega, fun j => ?_⟩)
      rcases lsub_at cs 300 j with e | e <;> rw [e]
      · exact hv.byt j
      · exact ⟨by decide, by decide⟩
    · have h6 := ilt_f h5
      unfold ln at h6
      exact hk _ ⟨Nat.zero_le _, by omega, hv.byt⟩
  · exact h.elim
end Go.Proofs.YtgjindhjgmplgaaGreat
