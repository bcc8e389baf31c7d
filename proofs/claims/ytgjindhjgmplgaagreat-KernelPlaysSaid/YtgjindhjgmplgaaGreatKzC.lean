/-
  KernelPlays: contracts of page.Valid, pool.find, pool.Valid, pool.Find, pool.Get.
-/
import Derived.Test.YtgjindhjgmplgaaGreatKzB
set_option linter.unusedVariables false
set_option linter.unusedSimpArgs false
set_option maxRecDepth 100000
namespace Go.Proofs.YtgjindhjgmplgaaGreat
open Wp
structure PgV (p : Pg) : Prop where
  v : validPg p = true
  len : p.cells.length = 16
def g154 (rs : List Row) (k : V → Prop) : Prop := ∃ p : Pg, PgV p ∧ rs = [pgR p] ∧ k (.c (.b true))
def g96 (rs : List Row) (k : V → Prop) : Prop := ∃ p : Pg, PgV p ∧ rs = [pgR p] ∧ k (.c (.b true))
def findI (fs : List Fr) (id : Int) : Int := match findFr fs id with | some i => i | none => -1
def g97 (rs : List Row) (k : V → Prop) : Prop := ∃ (size : Int) (fs : List Fr) (hand id : Int), fs.length ≤ 64 ∧ rs = [poolR size fs hand, i1R id] ∧ k (.c (.i .i64 (findI fs id)))
structure PoolV (size : Int) (fs : List Fr) (hand : Int) : Prop where
  v : poolB size hand fs = true
  len : ∀ f ∈ fs, f.pg.cells.length = 16
def g41 (rs : List Row) (k : V → Prop) : Prop := ∃ (size : Int) (fs : List Fr) (hand : Int), PoolV size fs hand ∧ rs = [poolR size fs hand] ∧ k (.c (.b true))
def g69 (rs : List Row) (k : V → Prop) : Prop := ∃ (size : Int) (fs : List Fr) (hand id : Int), PoolV size fs hand ∧ rs = [poolR size fs hand, i1R id] ∧ k (.c (.i .i64 (findI fs id)))
def T154 : Ct := (154, ctF (psF Tryz.prog 154) g154) :: T40
def T96 : Ct := (96, ctF (psF Tryz.prog 96) g96) :: T154
def T97 : Ct := (97, ctF (psF Tryz.prog 97) g97) :: T96
def T41 : Ct := (41, ctF (psF Tryz.prog 41) g41) :: T97
def T69 : Ct := (69, ctF (psF Tryz.prog 69) g69) :: T41
theorem vc154 (p : Pg) (k : KVk) : dbody Tryz.prog (dcall Tryz.prog T40 (fun _ => []) 5) [(3, lpI 7)] true 154 (argVs (psF Tryz.prog 154) [pgR p]) [] 0 k = (∃ (I : Nat → Prop) (μ : Nat → Nat), (∃ j, I j
  ∧ (0 = Int.ofNat j ∧ True) ∧ (pgR p = pgR p ∧ True) ∧ True) ∧ ∀ (j : Nat), I j → fk (ilt (Int.ofNat j) 16) (fk (inR (Int.ofNat j) 16) (fk (ieq (Int.ofNat j) 0) (fk (ilt 12 (ssz (rs (rtk (rdp (pgR p) 2) 32) 1))) (k (.c
  (.b false)) [] 0) (fk (nt (rb (rtk (rdp (pgR p) 2) 32) 0)) (fk (nt (seqB (rs (rtk (rdp (pgR p) 2) 32) 1) ⟨#[]⟩)) (k (.c (.b false)) [] 0) (fk (rb (rtk (rdp (pgR p) 2) 32) 0) (fk (ieq (ri (pgR p) 1) 0) (k (.c (.b
  false)) [] 0) (∃ j', I j' ∧ lessN (μ j') (μ j) ∧ (wr .i64 (xadd (Int.ofNat j) 1) = Int.ofNat j' ∧ True) ∧ (pgR p = pgR p ∧ True) ∧ True)) (∃ j', I j' ∧ lessN (μ j') (μ j) ∧ (wr .i64 (xadd (Int.ofNat j) 1) = Int.ofNat
  j' ∧ True) ∧ (pgR p = pgR p ∧ True) ∧ True))) (fk (rb (rtk (rdp (pgR p) 2) 32) 0) (fk (ieq (ri (pgR p) 1) 0) (k (.c (.b false)) [] 0) (∃ j', I j' ∧ lessN (μ j') (μ j) ∧ (wr .i64 (xadd (Int.ofNat j) 1) = Int.ofNat j' ∧
  True) ∧ (pgR p = pgR p ∧ True) ∧ True)) (∃ j', I j' ∧ lessN (μ j') (μ j) ∧ (wr .i64 (xadd (Int.ofNat j) 1) = Int.ofNat j' ∧ True) ∧ (pgR p = pgR p ∧ True) ∧ True)))) (fk (ieq (Int.ofNat j) 1) (fk (ilt 12 (ssz (rs (rtk
  (rdp (pgR p) 2) 32) 3))) (k (.c (.b false)) [] 0) (fk (nt (rb (rtk (rdp (pgR p) 2) 32) 2)) (fk (nt (seqB (rs (rtk (rdp (pgR p) 2) 32) 3) ⟨#[]⟩)) (k (.c (.b false)) [] 0) (fk (rb (rtk (rdp (pgR p) 2) 32) 2) (fk (ieq (ri
  (pgR p) 1) 0) (k (.c (.b false)) [] 0) (∃ j', I j' ∧ lessN (μ j') (μ j) ∧ (wr .i64 (xadd (Int.ofNat j) 1) = Int.ofNat j' ∧ True) ∧ (pgR p = pgR p ∧ True) ∧ True)) (∃ j', I j' ∧ lessN (μ j') (μ j) ∧ (wr .i64 (xadd
  (Int.ofNat j) 1) = Int.ofNat j' ∧ True) ∧ (pgR p = pgR p ∧ True) ∧ True))) (fk (rb (rtk (rdp (pgR p) 2) 32) 2) (fk (ieq (ri (pgR p) 1) 0) (k (.c (.b false)) [] 0) (∃ j', I j' ∧ lessN (μ j') (μ j) ∧ (wr .i64 (xadd
  (Int.ofNat j) 1) = Int.ofNat j' ∧ True) ∧ (pgR p = pgR p ∧ True) ∧ True)) (∃ j', I j' ∧ lessN (μ j') (μ j) ∧ (wr .i64 (xadd (Int.ofNat j) 1) = Int.ofNat j' ∧ True) ∧ (pgR p = pgR p ∧ True) ∧ True)))) (fk (ieq
  (Int.ofNat j) 2) (fk (ilt 12 (ssz (rs (rtk (rdp (pgR p) 2) 32) 5))) (k (.c (.b false)) [] 0) (fk (nt (rb (rtk (rdp (pgR p) 2) 32) 4)) (fk (nt (seqB (rs (rtk (rdp (pgR p) 2) 32) 5) ⟨#[]⟩)) (k (.c (.b false)) [] 0) (fk
  (rb (rtk (rdp (pgR p) 2) 32) 4) (fk (ieq (ri (pgR p) 1) 0) (k (.c (.b false)) [] 0) (∃ j', I j' ∧ lessN (μ j') (μ j) ∧ (wr .i64 (xadd (Int.ofNat j) 1) = Int.ofNat j' ∧ True) ∧ (pgR p = pgR p ∧ True) ∧ True)) (∃ j', I
  j' ∧ lessN (μ j') (μ j) ∧ (wr .i64 (xadd (Int.ofNat j) 1) = Int.ofNat j' ∧ True) ∧ (pgR p = pgR p ∧ True) ∧ True))) (fk (rb (rtk (rdp (pgR p) 2) 32) 4) (fk (ieq (ri (pgR p) 1) 0) (k (.c (.b false)) [] 0) (∃ j', I j' ∧
  lessN (μ j') (μ j) ∧ (wr .i64 (xadd (Int.ofNat j) 1) = Int.ofNat j' ∧ True) ∧ (pgR p = pgR p ∧ True) ∧ True)) (∃ j', I j' ∧ lessN (μ j') (μ j) ∧ (wr .i64 (xadd (Int.ofNat j) 1) = Int.ofNat j' ∧ True) ∧ (pgR p = pgR p ∧
  True) ∧ True)))) (fk (ieq (Int.ofNat j) 3) (fk (ilt 12 (ssz (rs (rtk (rdp (pgR p) 2) 32) 7))) (k (.c (.b false)) [] 0) (fk (nt (rb (rtk (rdp (pgR p) 2) 32) 6)) (fk (nt (seqB (rs (rtk (rdp (pgR p) 2) 32) 7) ⟨#[]⟩)) (k
  (.c (.b false)) [] 0) (fk (rb (rtk (rdp (pgR p) 2) 32) 6) (fk (ieq (ri (pgR p) 1) 0) (k (.c (.b false)) [] 0) (∃ j', I j' ∧ lessN (μ j') (μ j) ∧ (wr .i64 (xadd (Int.ofNat j) 1) = Int.ofNat j' ∧ True) ∧ (pgR p = pgR p ∧
  True) ∧ True)) (∃ j', I j' ∧ lessN (μ j') (μ j) ∧ (wr .i64 (xadd (Int.ofNat j) 1) = Int.ofNat j' ∧ True) ∧ (pgR p = pgR p ∧ True) ∧ True))) (fk (rb (rtk (rdp (pgR p) 2) 32) 6) (fk (ieq (ri (pgR p) 1) 0) (k (.c (.b
  false)) [] 0) (∃ j', I j' ∧ lessN (μ j') (μ j) ∧ (wr .i64 (xadd (Int.ofNat j) 1) = Int.ofNat j' ∧ True) ∧ (pgR p = pgR p ∧ True) ∧ True)) (∃ j', I j' ∧ lessN (μ j') (μ j) ∧ (wr .i64 (xadd (Int.ofNat j) 1) = Int.ofNat
  j' ∧ True) ∧ (pgR p = pgR p ∧ True) ∧ True)))) (fk (ieq (Int.ofNat j) 4) (fk (ilt 12 (ssz (rs (rtk (rdp (pgR p) 2) 32) 9))) (k (.c (.b false)) [] 0) (fk (nt (rb (rtk (rdp (pgR p) 2) 32) 8)) (fk (nt (seqB (rs (rtk (rdp
  (pgR p) 2) 32) 9) ⟨#[]⟩)) (k (.c (.b false)) [] 0) (fk (rb (rtk (rdp (pgR p) 2) 32) 8) (fk (ieq (ri (pgR p) 1) 0) (k (.c (.b false)) [] 0) (∃ j', I j' ∧ lessN (μ j') (μ j) ∧ (wr .i64 (xadd (Int.ofNat j) 1) = Int.ofNat
  j' ∧ True) ∧ (pgR p = pgR p ∧ True) ∧ True)) (∃ j', I j' ∧ lessN (μ j') (μ j) ∧ (wr .i64 (xadd (Int.ofNat j) 1) = Int.ofNat j' ∧ True) ∧ (pgR p = pgR p ∧ True) ∧ True))) (fk (rb (rtk (rdp (pgR p) 2) 32) 8) (fk (ieq (ri
  (pgR p) 1) 0) (k (.c (.b false)) [] 0) (∃ j', I j' ∧ lessN (μ j') (μ j) ∧ (wr .i64 (xadd (Int.ofNat j) 1) = Int.ofNat j' ∧ True) ∧ (pgR p = pgR p ∧ True) ∧ True)) (∃ j', I j' ∧ lessN (μ j') (μ j) ∧ (wr .i64 (xadd
  (Int.ofNat j) 1) = Int.ofNat j' ∧ True) ∧ (pgR p = pgR p ∧ True) ∧ True)))) (fk (ieq (Int.ofNat j) 5) (fk (ilt 12 (ssz (rs (rtk (rdp (pgR p) 2) 32) 11))) (k (.c (.b false)) [] 0) (fk (nt (rb (rtk (rdp (pgR p) 2) 32)
  10)) (fk (nt (seqB (rs (rtk (rdp (pgR p) 2) 32) 11) ⟨#[]⟩)) (k (.c (.b false)) [] 0) (fk (rb (rtk (rdp (pgR p) 2) 32) 10) (fk (ieq (ri (pgR p) 1) 0) (k (.c (.b false)) [] 0) (∃ j', I j' ∧ lessN (μ j') (μ j) ∧ (wr .i64
  (xadd (Int.ofNat j) 1) = Int.ofNat j' ∧ True) ∧ (pgR p = pgR p ∧ True) ∧ True)) (∃ j', I j' ∧ lessN (μ j') (μ j) ∧ (wr .i64 (xadd (Int.ofNat j) 1) = Int.ofNat j' ∧ True) ∧ (pgR p = pgR p ∧ True) ∧ True))) (fk (rb (rtk
  (rdp (pgR p) 2) 32) 10) (fk (ieq (ri (pgR p) 1) 0) (k (.c (.b false)) [] 0) (∃ j', I j' ∧ lessN (μ j') (μ j) ∧ (wr .i64 (xadd (Int.ofNat j) 1) = Int.ofNat j' ∧ True) ∧ (pgR p = pgR p ∧ True) ∧ True)) (∃ j', I j' ∧
  lessN (μ j') (μ j) ∧ (wr .i64 (xadd (Int.ofNat j) 1) = Int.ofNat j' ∧ True) ∧ (pgR p = pgR p ∧ True) ∧ True)))) (fk (ieq (Int.ofNat j) 6) (fk (ilt 12 (ssz (rs (rtk (rdp (pgR p) 2) 32) 13))) (k (.c (.b false)) [] 0) (fk
  (nt (rb (rtk (rdp (pgR p) 2) 32) 12)) (fk (nt (seqB (rs (rtk (rdp (pgR p) 2) 32) 13) ⟨#[]⟩)) (k (.c (.b false)) [] 0) (fk (rb (rtk (rdp (pgR p) 2) 32) 12) (fk (ieq (ri (pgR p) 1) 0) (k (.c (.b false)) [] 0) (∃ j', I j'
  ∧ lessN (μ j') (μ j) ∧ (wr .i64 (xadd (Int.ofNat j) 1) = Int.ofNat j' ∧ True) ∧ (pgR p = pgR p ∧ True) ∧ True)) (∃ j', I j' ∧ lessN (μ j') (μ j) ∧ (wr .i64 (xadd (Int.ofNat j) 1) = Int.ofNat j' ∧ True) ∧ (pgR p = pgR p
  ∧ True) ∧ True))) (fk (rb (rtk (rdp (pgR p) 2) 32) 12) (fk (ieq (ri (pgR p) 1) 0) (k (.c (.b false)) [] 0) (∃ j', I j' ∧ lessN (μ j') (μ j) ∧ (wr .i64 (xadd (Int.ofNat j) 1) = Int.ofNat j' ∧ True) ∧ (pgR p = pgR p ∧
  True) ∧ True)) (∃ j', I j' ∧ lessN (μ j') (μ j) ∧ (wr .i64 (xadd (Int.ofNat j) 1) = Int.ofNat j' ∧ True) ∧ (pgR p = pgR p ∧ True) ∧ True)))) (fk (ieq (Int.ofNat j) 7) (fk (ilt 12 (ssz (rs (rtk (rdp (pgR p) 2) 32) 15)))
  (k (.c (.b false)) [] 0) (fk (nt (rb (rtk (rdp (pgR p) 2) 32) 14)) (fk (nt (seqB (rs (rtk (rdp (pgR p) 2) 32) 15) ⟨#[]⟩)) (k (.c (.b false)) [] 0) (fk (rb (rtk (rdp (pgR p) 2) 32) 14) (fk (ieq (ri (pgR p) 1) 0) (k (.c
  (.b false)) [] 0) (∃ j', I j' ∧ lessN (μ j') (μ j) ∧ (wr .i64 (xadd (Int.ofNat j) 1) = Int.ofNat j' ∧ True) ∧ (pgR p = pgR p ∧ True) ∧ True)) (∃ j', I j' ∧ lessN (μ j') (μ j) ∧ (wr .i64 (xadd (Int.ofNat j) 1) =
  Int.ofNat j' ∧ True) ∧ (pgR p = pgR p ∧ True) ∧ True))) (fk (rb (rtk (rdp (pgR p) 2) 32) 14) (fk (ieq (ri (pgR p) 1) 0) (k (.c (.b false)) [] 0) (∃ j', I j' ∧ lessN (μ j') (μ j) ∧ (wr .i64 (xadd (Int.ofNat j) 1) =
  Int.ofNat j' ∧ True) ∧ (pgR p = pgR p ∧ True) ∧ True)) (∃ j', I j' ∧ lessN (μ j') (μ j) ∧ (wr .i64 (xadd (Int.ofNat j) 1) = Int.ofNat j' ∧ True) ∧ (pgR p = pgR p ∧ True) ∧ True)))) (fk (ieq (Int.ofNat j) 8) (fk (ilt 12
  (ssz (rs (rtk (rdp (pgR p) 2) 32) 17))) (k (.c (.b false)) [] 0) (fk (nt (rb (rtk (rdp (pgR p) 2) 32) 16)) (fk (nt (seqB (rs (rtk (rdp (pgR p) 2) 32) 17) ⟨#[]⟩)) (k (.c (.b false)) [] 0) (fk (rb (rtk (rdp (pgR p) 2)
  32) 16) (fk (ieq (ri (pgR p) 1) 0) (k (.c (.b false)) [] 0) (∃ j', I j' ∧ lessN (μ j') (μ j) ∧ (wr .i64 (xadd (Int.ofNat j) 1) = Int.ofNat j' ∧ True) ∧ (pgR p = pgR p ∧ True) ∧ True)) (∃ j', I j' ∧ lessN (μ j') (μ j) ∧
  (wr .i64 (xadd (Int.ofNat j) 1) = Int.ofNat j' ∧ True) ∧ (pgR p = pgR p ∧ True) ∧ True))) (fk (rb (rtk (rdp (pgR p) 2) 32) 16) (fk (ieq (ri (pgR p) 1) 0) (k (.c (.b false)) [] 0) (∃ j', I j' ∧ lessN (μ j') (μ j) ∧ (wr
  .i64 (xadd (Int.ofNat j) 1) = Int.ofNat j' ∧ True) ∧ (pgR p = pgR p ∧ True) ∧ True)) (∃ j', I j' ∧ lessN (μ j') (μ j) ∧ (wr .i64 (xadd (Int.ofNat j) 1) = Int.ofNat j' ∧ True) ∧ (pgR p = pgR p ∧ True) ∧ True)))) (fk
  (ieq (Int.ofNat j) 9) (fk (ilt 12 (ssz (rs (rtk (rdp (pgR p) 2) 32) 19))) (k (.c (.b false)) [] 0) (fk (nt (rb (rtk (rdp (pgR p) 2) 32) 18)) (fk (nt (seqB (rs (rtk (rdp (pgR p) 2) 32) 19) ⟨#[]⟩)) (k (.c (.b false)) []
  0) (fk (rb (rtk (rdp (pgR p) 2) 32) 18) (fk (ieq (ri (pgR p) 1) 0) (k (.c (.b false)) [] 0) (∃ j', I j' ∧ lessN (μ j') (μ j) ∧ (wr .i64 (xadd (Int.ofNat j) 1) = Int.ofNat j' ∧ True) ∧ (pgR p = pgR p ∧ True) ∧ True)) (∃
  j', I j' ∧ lessN (μ j') (μ j) ∧ (wr .i64 (xadd (Int.ofNat j) 1) = Int.ofNat j' ∧ True) ∧ (pgR p = pgR p ∧ True) ∧ True))) (fk (rb (rtk (rdp (pgR p) 2) 32) 18) (fk (ieq (ri (pgR p) 1) 0) (k (.c (.b false)) [] 0) (∃ j',
  I j' ∧ lessN (μ j') (μ j) ∧ (wr .i64 (xadd (Int.ofNat j) 1) = Int.ofNat j' ∧ True) ∧ (pgR p = pgR p ∧ True) ∧ True)) (∃ j', I j' ∧ lessN (μ j') (μ j) ∧ (wr .i64 (xadd (Int.ofNat j) 1) = Int.ofNat j' ∧ True) ∧ (pgR p =
  pgR p ∧ True) ∧ True)))) (fk (ieq (Int.ofNat j) 10) (fk (ilt 12 (ssz (rs (rtk (rdp (pgR p) 2) 32) 21))) (k (.c (.b false)) [] 0) (fk (nt (rb (rtk (rdp (pgR p) 2) 32) 20)) (fk (nt (seqB (rs (rtk (rdp (pgR p) 2) 32) 21)
  ⟨#[]⟩)) (k (.c (.b false)) [] 0) (fk (rb (rtk (rdp (pgR p) 2) 32) 20) (fk (ieq (ri (pgR p) 1) 0) (k (.c (.b false)) [] 0) (∃ j', I j' ∧ lessN (μ j') (μ j) ∧ (wr .i64 (xadd (Int.ofNat j) 1) = Int.ofNat j' ∧ True) ∧ (pgR
  p = pgR p ∧ True) ∧ True)) (∃ j', I j' ∧ lessN (μ j') (μ j) ∧ (wr .i64 (xadd (Int.ofNat j) 1) = Int.ofNat j' ∧ True) ∧ (pgR p = pgR p ∧ True) ∧ True))) (fk (rb (rtk (rdp (pgR p) 2) 32) 20) (fk (ieq (ri (pgR p) 1) 0) (k
  (.c (.b false)) [] 0) (∃ j', I j' ∧ lessN (μ j') (μ j) ∧ (wr .i64 (xadd (Int.ofNat j) 1) = Int.ofNat j' ∧ True) ∧ (pgR p = pgR p ∧ True) ∧ True)) (∃ j', I j' ∧ lessN (μ j') (μ j) ∧ (wr .i64 (xadd (Int.ofNat j) 1) =
  Int.ofNat j' ∧ True) ∧ (pgR p = pgR p ∧ True) ∧ True)))) (fk (ieq (Int.ofNat j) 11) (fk (ilt 12 (ssz (rs (rtk (rdp (pgR p) 2) 32) 23))) (k (.c (.b false)) [] 0) (fk (nt (rb (rtk (rdp (pgR p) 2) 32) 22)) (fk (nt (seqB
  (rs (rtk (rdp (pgR p) 2) 32) 23) ⟨#[]⟩)) (k (.c (.b false)) [] 0) (fk (rb (rtk (rdp (pgR p) 2) 32) 22) (fk (ieq (ri (pgR p) 1) 0) (k (.c (.b false)) [] 0) (∃ j', I j' ∧ lessN (μ j') (μ j) ∧ (wr .i64 (xadd (Int.ofNat j)
  1) = Int.ofNat j' ∧ True) ∧ (pgR p = pgR p ∧ True) ∧ True)) (∃ j', I j' ∧ lessN (μ j') (μ j) ∧ (wr .i64 (xadd (Int.ofNat j) 1) = Int.ofNat j' ∧ True) ∧ (pgR p = pgR p ∧ True) ∧ True))) (fk (rb (rtk (rdp (pgR p) 2) 32)
  22) (fk (ieq (ri (pgR p) 1) 0) (k (.c (.b false)) [] 0) (∃ j', I j' ∧ lessN (μ j') (μ j) ∧ (wr .i64 (xadd (Int.ofNat j) 1) = Int.ofNat j' ∧ True) ∧ (pgR p = pgR p ∧ True) ∧ True)) (∃ j', I j' ∧ lessN (μ j') (μ j) ∧ (wr
  .i64 (xadd (Int.ofNat j) 1) = Int.ofNat j' ∧ True) ∧ (pgR p = pgR p ∧ True) ∧ True)))) (fk (ieq (Int.ofNat j) 12) (fk (ilt 12 (ssz (rs (rtk (rdp (pgR p) 2) 32) 25))) (k (.c (.b false)) [] 0) (fk (nt (rb (rtk (rdp (pgR
  p) 2) 32) 24)) (fk (nt (seqB (rs (rtk (rdp (pgR p) 2) 32) 25) ⟨#[]⟩)) (k (.c (.b false)) [] 0) (fk (rb (rtk (rdp (pgR p) 2) 32) 24) (fk (ieq (ri (pgR p) 1) 0) (k (.c (.b false)) [] 0) (∃ j', I j' ∧ lessN (μ j') (μ j) ∧
  (wr .i64 (xadd (Int.ofNat j) 1) = Int.ofNat j' ∧ True) ∧ (pgR p = pgR p ∧ True) ∧ True)) (∃ j', I j' ∧ lessN (μ j') (μ j) ∧ (wr .i64 (xadd (Int.ofNat j) 1) = Int.ofNat j' ∧ True) ∧ (pgR p = pgR p ∧ True) ∧ True))) (fk
  (rb (rtk (rdp (pgR p) 2) 32) 24) (fk (ieq (ri (pgR p) 1) 0) (k (.c (.b false)) [] 0) (∃ j', I j' ∧ lessN (μ j') (μ j) ∧ (wr .i64 (xadd (Int.ofNat j) 1) = Int.ofNat j' ∧ True) ∧ (pgR p = pgR p ∧ True) ∧ True)) (∃ j', I
  j' ∧ lessN (μ j') (μ j) ∧ (wr .i64 (xadd (Int.ofNat j) 1) = Int.ofNat j' ∧ True) ∧ (pgR p = pgR p ∧ True) ∧ True)))) (fk (ieq (Int.ofNat j) 13) (fk (ilt 12 (ssz (rs (rtk (rdp (pgR p) 2) 32) 27))) (k (.c (.b false)) []
  0) (fk (nt (rb (rtk (rdp (pgR p) 2) 32) 26)) (fk (nt (seqB (rs (rtk (rdp (pgR p) 2) 32) 27) ⟨#[]⟩)) (k (.c (.b false)) [] 0) (fk (rb (rtk (rdp (pgR p) 2) 32) 26) (fk (ieq (ri (pgR p) 1) 0) (k (.c (.b false)) [] 0) (∃
  j', I j' ∧ lessN (μ j') (μ j) ∧ (wr .i64 (xadd (Int.ofNat j) 1) = Int.ofNat j' ∧ True) ∧ (pgR p = pgR p ∧ True) ∧ True)) (∃ j', I j' ∧ lessN (μ j') (μ j) ∧ (wr .i64 (xadd (Int.ofNat j) 1) = Int.ofNat j' ∧ True) ∧ (pgR
  p = pgR p ∧ True) ∧ True))) (fk (rb (rtk (rdp (pgR p) 2) 32) 26) (fk (ieq (ri (pgR p) 1) 0) (k (.c (.b false)) [] 0) (∃ j', I j' ∧ lessN (μ j') (μ j) ∧ (wr .i64 (xadd (Int.ofNat j) 1) = Int.ofNat j' ∧ True) ∧ (pgR p =
  pgR p ∧ True) ∧ True)) (∃ j', I j' ∧ lessN (μ j') (μ j) ∧ (wr .i64 (xadd (Int.ofNat j) 1) = Int.ofNat j' ∧ True) ∧ (pgR p = pgR p ∧ True) ∧ True)))) (fk (ieq (Int.ofNat j) 14) (fk (ilt 12 (ssz (rs (rtk (rdp (pgR p) 2)
  32) 29))) (k (.c (.b false)) [] 0) (fk (nt (rb (rtk (rdp (pgR p) 2) 32) 28)) (fk (nt (seqB (rs (rtk (rdp (pgR p) 2) 32) 29) ⟨#[]⟩)) (k (.c (.b false)) [] 0) (fk (rb (rtk (rdp (pgR p) 2) 32) 28) (fk (ieq (ri (pgR p) 1)
  0) (k (.c (.b false)) [] 0) (∃ j', I j' ∧ lessN (μ j') (μ j) ∧ (wr .i64 (xadd (Int.ofNat j) 1) = Int.ofNat j' ∧ True) ∧ (pgR p = pgR p ∧ True) ∧ True)) (∃ j', I j' ∧ lessN (μ j') (μ j) ∧ (wr .i64 (xadd (Int.ofNat j) 1)
  = Int.ofNat j' ∧ True) ∧ (pgR p = pgR p ∧ True) ∧ True))) (fk (rb (rtk (rdp (pgR p) 2) 32) 28) (fk (ieq (ri (pgR p) 1) 0) (k (.c (.b false)) [] 0) (∃ j', I j' ∧ lessN (μ j') (μ j) ∧ (wr .i64 (xadd (Int.ofNat j) 1) =
  Int.ofNat j' ∧ True) ∧ (pgR p = pgR p ∧ True) ∧ True)) (∃ j', I j' ∧ lessN (μ j') (μ j) ∧ (wr .i64 (xadd (Int.ofNat j) 1) = Int.ofNat j' ∧ True) ∧ (pgR p = pgR p ∧ True) ∧ True)))) (fk (ieq (Int.ofNat j) 15) (fk (ilt
  12 (ssz (rs (rtk (rdp (pgR p) 2) 32) 31))) (k (.c (.b false)) [] 0) (fk (nt (rb (rtk (rdp (pgR p) 2) 32) 30)) (fk (nt (seqB (rs (rtk (rdp (pgR p) 2) 32) 31) ⟨#[]⟩)) (k (.c (.b false)) [] 0) (fk (rb (rtk (rdp (pgR p) 2)
  32) 30) (fk (ieq (ri (pgR p) 1) 0) (k (.c (.b false)) [] 0) (∃ j', I j' ∧ lessN (μ j') (μ j) ∧ (wr .i64 (xadd (Int.ofNat j) 1) = Int.ofNat j' ∧ True) ∧ (pgR p = pgR p ∧ True) ∧ True)) (∃ j', I j' ∧ lessN (μ j') (μ j) ∧
  (wr .i64 (xadd (Int.ofNat j) 1) = Int.ofNat j' ∧ True) ∧ (pgR p = pgR p ∧ True) ∧ True))) (fk (rb (rtk (rdp (pgR p) 2) 32) 30) (fk (ieq (ri (pgR p) 1) 0) (k (.c (.b false)) [] 0) (∃ j', I j' ∧ lessN (μ j') (μ j) ∧ (wr
  .i64 (xadd (Int.ofNat j) 1) = Int.ofNat j' ∧ True) ∧ (pgR p = pgR p ∧ True) ∧ True)) (∃ j', I j' ∧ lessN (μ j') (μ j) ∧ (wr .i64 (xadd (Int.ofNat j) 1) = Int.ofNat j' ∧ True) ∧ (pgR p = pgR p ∧ True) ∧ True))))
  False)))))))))))))))) False) (k (.c (.b true)) [] 0)) := by kernel_rfl
theorem vc96 (p : Pg) (k : KVk) : dbody Tryz.prog (dcall Tryz.prog T154 (fun _ => []) 5) [] true 96 (argVs (psF Tryz.prog 96) [pgR p]) [] 0 k = (fk (ile 0 (ri (pgR p) 0)) (fk (ilt (ri (pgR p) 0) 64)
  (fk (ile 0 (ri (pgR p) 1)) (fk (ile (ri (pgR p) 1) 1099511627776) (∃ p_1, PgV p_1 ∧ [pgR p] = [pgR p_1] ∧ k (.c (.b true)) [] 0) (k (.c (.b false)) [] 0)) (k (.c (.b false)) [] 0)) (k (.c (.b false)) [] 0)) (k (.c (.b
  false)) [] 0)) := by kernel_rfl
theorem vc97 (size : Int) (fs : List Fr) (hand id : Int) (k : KVk) : dbody Tryz.prog (dcall Tryz.prog T96 (fun _ => [(3, lpI 8)]) 5) [] true 97 (argVs (psF Tryz.prog 97) [poolR size fs hand, i1R id]) []
  0 k = (∃ (I : Nat → Prop) (μ : Nat → Nat), (∃ j, I j ∧ (0 = Int.ofNat j ∧ True) ∧ ([DV.i id] = [DV.i id] ∧ True) ∧ True) ∧ ∀ (j : Nat), I j → fk (ilt (Int.ofNat j) (ln (frsR fs))) (fk (inR (Int.ofNat j) (ln (frsR fs)))
  (fk (ieq (ri (rw' (frsR fs) (tn (Int.ofNat j))) 0) id) (k (.c (.i .i64 (Int.ofNat j))) [] 0) (∃ j', I j' ∧ lessN (μ j') (μ j) ∧ (wr .i64 (xadd (Int.ofNat j) 1) = Int.ofNat j' ∧ True) ∧ ([DV.i id] = [DV.i id] ∧ True) ∧
  True)) False) (k (.c (.i .i64 (-1))) [] 0)) := by kernel_rfl
theorem vc41 (size : Int) (fs : List Fr) (hand : Int) (k : KVk) : dbody Tryz.prog (dcall Tryz.prog T97 (fun _ => []) 5) [(5, lpI 38)] true 41 (argVs (psF Tryz.prog 41) [poolR size fs hand]) [] 0 k =
  (fk (ilt size 1) (k (.c (.b false)) [] 0) (fk (ilt 64 size) (k (.c (.b false)) [] 0) (fk (ilt size (ln (frsR fs))) (k (.c (.b false)) [] 0) (fk (ilt hand 0) (k (.c (.b false)) [] 0) (fk (ile (xmax 1 (ln (frsR fs)))
  hand) (k (.c (.b false)) [] 0) (∃ (I : Nat → Prop) (μ : Nat → Nat), (∃ j, I j ∧ (0 = Int.ofNat j ∧ True) ∧ ([DV.i size, DV.sl (frsR fs), DV.i hand] = [DV.i size, DV.sl (frsR fs), DV.i hand] ∧ True) ∧ True) ∧ ∀ (j :
  Nat), I j → fk (ilt (Int.ofNat j) (ln (frsR fs))) (fk (inR (Int.ofNat j) (ln (frsR fs))) (∃ p, PgV p ∧ [rtk (rdp (rw' (frsR fs) (tn (Int.ofNat j))) 0) 34] = [pgR p] ∧ ∃ size_1 fs_1 hand_1 id, fs_1.length.le 64 ∧ [[DV.i
  size, DV.sl (frsR fs), DV.i hand], [DV.i (ri (rw' (frsR fs) (tn (Int.ofNat j))) 0)]] = [[DV.i size_1, DV.sl (frsR fs_1), DV.i hand_1], [DV.i id]] ∧ fk (nt (ieq (findI fs_1 id) (Int.ofNat j))) (k (.c (.b false)) [] 0)
  (fk (rb (rw' (frsR fs) (tn (Int.ofNat j))) 34) (fk (ilt (ri (rw' (frsR fs) (tn (Int.ofNat j))) 35) 1) (k (.c (.b false)) [] 0) (fk (ilt (ri (rw' (frsR fs) (tn (Int.ofNat j))) 1) (ri (rw' (frsR fs) (tn (Int.ofNat j)))
  35)) (k (.c (.b false)) [] 0) (fk (nt (rb (rw' (frsR fs) (tn (Int.ofNat j))) 34)) (fk (nt (ieq (ri (rw' (frsR fs) (tn (Int.ofNat j))) 35) 0)) (k (.c (.b false)) [] 0) (∃ j', I j' ∧ lessN (μ j') (μ j) ∧ (wr .i64 (xadd
  (Int.ofNat j) 1) = Int.ofNat j' ∧ True) ∧ ([DV.i size, DV.sl (frsR fs), DV.i hand] = [DV.i size, DV.sl (frsR fs), DV.i hand] ∧ True) ∧ True)) (∃ j', I j' ∧ lessN (μ j') (μ j) ∧ (wr .i64 (xadd (Int.ofNat j) 1) =
  Int.ofNat j' ∧ True) ∧ ([DV.i size, DV.sl (frsR fs), DV.i hand] = [DV.i size, DV.sl (frsR fs), DV.i hand] ∧ True) ∧ True)))) (fk (nt (rb (rw' (frsR fs) (tn (Int.ofNat j))) 34)) (fk (nt (ieq (ri (rw' (frsR fs) (tn
  (Int.ofNat j))) 35) 0)) (k (.c (.b false)) [] 0) (∃ j', I j' ∧ lessN (μ j') (μ j) ∧ (wr .i64 (xadd (Int.ofNat j) 1) = Int.ofNat j' ∧ True) ∧ ([DV.i size, DV.sl (frsR fs), DV.i hand] = [DV.i size, DV.sl (frsR fs), DV.i
  hand] ∧ True) ∧ True)) (∃ j', I j' ∧ lessN (μ j') (μ j) ∧ (wr .i64 (xadd (Int.ofNat j) 1) = Int.ofNat j' ∧ True) ∧ ([DV.i size, DV.sl (frsR fs), DV.i hand] = [DV.i size, DV.sl (frsR fs), DV.i hand] ∧ True) ∧ True))))
  False) (k (.c (.b true)) [] 0))))))) := by kernel_rfl
theorem vc69 (size : Int) (fs : List Fr) (hand id : Int) (k : KVk) : dbody Tryz.prog (dcall Tryz.prog T41 (fun _ => []) 5) [] true 69 (argVs (psF Tryz.prog 69) [poolR size fs hand, i1R id]) [] 0 k = (∃
  size_1 fs_1 hand_1, PoolV size_1 fs_1 hand_1 ∧ [[DV.i size, DV.sl (frsR fs), DV.i hand]] = [[DV.i size_1, DV.sl (frsR fs_1), DV.i hand_1]] ∧ ∃ size_2 fs_2 hand_2 id_1, fs_2.length.le 64 ∧ [[DV.i size, DV.sl (frsR fs),
  DV.i hand], [DV.i id]] = [[DV.i size_2, DV.sl (frsR fs_2), DV.i hand_2], [DV.i id_1]] ∧ k (.c (.i .i64 (findI fs_2 id_1))) [] 0) := by kernel_rfl
theorem PgV.cell {p : Pg} (h : PgV p) {i : Nat} (hi : i < 16) : cellB1 p.lsn (clA p.cells i) = true := by
  have h1 := h.v
  unfold validPg at h1
  rw [Bool.and_eq_true] at h1
  have h2 := List.all_eq_true.1 h1.2
  have hi' : i < p.cells.length := by rw [h.len]; exact hi
  unfold clA
  rw [List.getD_eq_getElem?_getD, List.getElem?_eq_getElem hi']
  exact h2 _ (List.getElem_mem hi')
theorem PgV.num {p : Pg} (h : PgV p) : 0 ≤ p.id ∧ p.id < 64 ∧ 0 ≤ p.lsn ∧ p.lsn ≤ 1099511627776 := by
  have h1 := h.v
  unfold validPg placedB at h1
  simp only [Bool.and_eq_true, decide_eq_true_eq] at h1
  exact ⟨h1.1.1.1.1, h1.1.1.1.2, h1.1.1.2, h1.1.2⟩
theorem ok154 : CtOk Tryz.prog T154 := by
  refine ct_cons ok40 (fz := true) fun rs k h => ?_
  obtain ⟨p, hv, rfl, hk⟩ := h
  refine ⟨_, _, _, (vc154 p k).mpr ?_⟩
  refine ⟨fun j => j ≤ 16 ∧ True, fun j => 16 - j, range_e (n := 16) rfl ⟨rfl, trivial⟩ (by omega) trivial (fun i hi _ nx => ?_) fun _ => hk⟩
  dsimp only
  have nx := nx trivial
  have hc : ∀ i, i < 16 → cellB1 p.lsn (clA p.cells i) = true := fun i hi => hv.cell hi
  have hn := hv.num
  generalize (∃ j', (j' ≤ 16 ∧ True) ∧ lessN (16 - j') (16 - i) ∧ (wr .i64 (xadd (Int.ofNat i) 1) = Int.ofNat j' ∧ True) ∧ (pgR p = pgR p ∧ True) ∧ True) = X at nx ⊢
  have hb : ∀ c : Cl, cellB1 p.lsn c = true → fk (ilt 12 (ssz c.2)) (k (.c (.b false)) [] 0) (fk (nt c.1) (fk (nt (seqB c.2 ⟨#[]⟩)) (k (.c (.b false)) [] 0) (fk c.1 (fk (ieq p.lsn 0) (k (.c (.b false)) [] 0) X) X)) (fk c.1 (fk (ieq p.lsn 0) (k (.c (.b false)) [] 0) X) X)) := by
    intro c hc
    unfold cellB1 validCl at hc
    simp only [Bool.and_eq_true, decide_eq_true_eq, Bool.or_eq_true, Bool.not_eq_true', Bool.and_eq_false_iff] at hc
    obtain ⟨⟨h1, h2⟩, h3⟩ := hc
    repeat (first | (refine fk_t ?_ ?_; focus (first | rfl | (simp (disch := omega) only [FS, eq_self, List.length_cons, List.length_nil, true_and, and_true, ssz, xadd, xsub, xmul, xmin, xmax] <;> omega) | omega)) | (refine fk_n ?_ ?_; focus (first | rfl | (simp (disch := omega) only [FS, eq_self, List.length_cons, List.length_nil, true_and, and_true, ssz, xadd, xsub, xmul, xmin, xmax] <;> omega) | omega)))
    refine fk_of (fun e => ?_) fun e => ?_
    · have e := nt_t e
      rw [e] at h2
      have h2 : c.2 = ⟨#[]⟩ := emp_size (by simpa using h2)
      rw [h2]
      refine fk_n (by rw [seqB_nil]; rfl) ?_
      rw [e]
      exact nx
    · have e := nt_f e
      rw [e]
      rw [e] at h3
      refine fk_t rfl (fk_n ?_ nx)
      rw [ieq_F]
      simpa using h3
  refine fk_of (fun _ => hb (clA p.cells 0) (hc 0 (by decide))) fun e0 => ?_
  refine fk_of (fun _ => hb (clA p.cells 1) (hc 1 (by decide))) fun e1 => ?_
  refine fk_of (fun _ => hb (clA p.cells 2) (hc 2 (by decide))) fun e2 => ?_
  refine fk_of (fun _ => hb (clA p.cells 3) (hc 3 (by decide))) fun e3 => ?_
  refine fk_of (fun _ => hb (clA p.cells 4) (hc 4 (by decide))) fun e4 => ?_
  refine fk_of (fun _ => hb (clA p.cells 5) (hc 5 (by decide))) fun e5 => ?_
  refine fk_of (fun _ => hb (clA p.cells 6) (hc 6 (by decide))) fun e6 => ?_
  refine fk_of (fun _ => hb (clA p.cells 7) (hc 7 (by decide))) fun e7 => ?_
  refine fk_of (fun _ => hb (clA p.cells 8) (hc 8 (by decide))) fun e8 => ?_
  refine fk_of (fun _ => hb (clA p.cells 9) (hc 9 (by decide))) fun e9 => ?_
  refine fk_of (fun _ => hb (clA p.cells 10) (hc 10 (by decide))) fun e10 => ?_
  refine fk_of (fun _ => hb (clA p.cells 11) (hc 11 (by decide))) fun e11 => ?_
  refine fk_of (fun _ => hb (clA p.cells 12) (hc 12 (by decide))) fun e12 => ?_
  refine fk_of (fun _ => hb (clA p.cells 13) (hc 13 (by decide))) fun e13 => ?_
  refine fk_of (fun _ => hb (clA p.cells 14) (hc 14 (by decide))) fun e14 => ?_
  refine fk_of (fun _ => hb (clA p.cells 15) (hc 15 (by decide))) fun e15 => ?_
  exact absurd hi (by simp only [ieq_F, ofN] at *; omega)
theorem ok96 : CtOk Tryz.prog T96 := by
  refine ct_cons ok154 (fz := true) fun rs k h => ?_
  obtain ⟨p, hv, rfl, hk⟩ := h
  refine ⟨_, _, _, (vc96 p k).mpr ?_⟩
  obtain ⟨h1, h2, h3, h4⟩ := hv.num
  rw [pgR_0, pgR_1]
  repeat (first | (refine fk_t ?_ ?_; focus (first | rfl | (simp (disch := omega) only [FS, eq_self, List.length_cons, List.length_nil, true_and, and_true, ssz, xadd, xsub, xmul, xmin, xmax] <;> omega) | omega)) | (refine fk_n ?_ ?_; focus (first | rfl | (simp (disch := omega) only [FS, eq_self, List.length_cons, List.length_nil, true_and, and_true, ssz, xadd, xsub, xmul, xmin, xmax] <;> omega) | omega)))
  exact ⟨p, hv, rfl, hk⟩
theorem findI_at {fs : List Fr} {id : Int} {i : Nat} {f : Fr} (h : fs[i]? = some f) (he : f.pg.id = id) (hb : ∀ (j : Nat) (g : Fr), j < i → fs[j]? = some g → g.pg.id ≠ id) : findI fs id = i := by
  unfold findI findFr
  have hi : i < fs.length := (List.getElem?_eq_some_iff.1 h).1
  have hf : fs[i] = f := (List.getElem?_eq_some_iff.1 h).2
  have : fs.findIdx? (fun f => f.pg.id == id) = some i := by
    rw [List.findIdx?_eq_some_iff_getElem]
    exact ⟨hi, by rw [hf]; simpa using he, fun j hj => by simpa using hb j _ hj (List.getElem?_eq_getElem (by omega))⟩
  rw [this]
theorem findI_no {fs : List Fr} {id : Int} (hb : ∀ (j : Nat) (g : Fr), fs[j]? = some g → g.pg.id ≠ id) : findI fs id = -1 := by
  unfold findI findFr
  have : fs.findIdx? (fun f => f.pg.id == id) = none := by
    rw [List.findIdx?_eq_none_iff]
    intro f hf
    obtain ⟨j, hj⟩ := List.getElem?_of_mem hf
    simpa using hb j f hj
  rw [this]
theorem ok97 : CtOk Tryz.prog T97 := by
  refine ct_cons ok96 (fz := true) fun rs k h => ?_
  obtain ⟨size, fs, hand, id, hl, rfl, hk⟩ := h
  refine ⟨_, _, _, (vc97 size fs hand id k).mpr ?_⟩
  refine ⟨fun j => j ≤ fs.length ∧ ∀ (i : Nat) (g : Fr), i < j → fs[i]? = some g → g.pg.id ≠ id, fun j => fs.length - j, range_e (ln_frs fs) (Inv := fun j => ∀ (i : Nat) (g : Fr), i < j → fs[i]? = some g → g.pg.id ≠ id) ⟨rfl, trivial⟩ (by omega) (fun i g hi => absurd hi (Nat.not_lt_zero _)) (fun i hi hv nx => ?_) fun hv => ?_⟩
  · dsimp only
    obtain ⟨x, hx⟩ := at_lt hi
    rw [tn_ofNat, frs_at hx, frR_0]
    refine fk_of (fun e => ?_) fun e => nx fun j g hj hg => ?_
    · rw [findI_at hx (ieq_t e) hv] at hk
      exact hk
    · rcases Nat.lt_or_eq_of_le (Nat.le_of_lt_succ hj) with h | h
      · exact hv j g h hg
      · subst h; rw [hx] at hg; cases hg; exact ieq_f e
  · rw [findI_no fun j g hg => hv j g (List.getElem?_eq_some_iff.1 hg).1 hg] at hk
    exact hk
theorem PoolV.num {size hand : Int} {fs : List Fr} (h : PoolV size fs hand) : 1 ≤ size ∧ size ≤ 64 ∧ (fs.length : Int) ≤ size ∧ 0 ≤ hand ∧ hand < max 1 (fs.length : Int) := by
  have h1 := h.v
  unfold poolB at h1
  simp only [Bool.and_eq_true, decide_eq_true_eq] at h1
  exact ⟨h1.1.1.1.1.1, h1.1.1.1.1.2, h1.1.1.1.2, h1.1.1.2, h1.1.2⟩
theorem PoolV.fr {size hand : Int} {fs : List Fr} (h : PoolV size fs hand) {i : Nat} {f : Fr} (hf : fs[i]? = some f) : PgV f.pg ∧ findI fs f.pg.id = i ∧ recB f = true := by
  have h1 := h.v
  unfold poolB at h1
  simp only [Bool.and_eq_true] at h1
  have h2 := List.all_eq_true.1 h1.2 i (List.mem_range.2 (List.getElem?_eq_some_iff.1 hf).1)
  unfold frAt at h2
  rw [hf] at h2
  simp only [Bool.and_eq_true, beq_iff_eq] at h2
  exact ⟨⟨h2.1.1, h.len _ (List.mem_of_getElem? hf)⟩, by unfold findI; rw [h2.1.2], h2.2⟩
theorem ok41 : CtOk Tryz.prog T41 := by
  refine ct_cons ok97 (fz := true) fun rs k h => ?_
  obtain ⟨size, fs, hand, hv, rfl, hk⟩ := h
  refine ⟨_, _, _, (vc41 size fs hand k).mpr ?_⟩
  obtain ⟨h1, h2, h3, h4, h5⟩ := hv.num
  repeat (first | (refine fk_t ?_ ?_; focus (first | rfl | (simp (disch := omega) only [FS, eq_self, List.length_cons, List.length_nil, true_and, and_true, ssz, xadd, xsub, xmul, xmin, xmax] <;> omega) | omega)) | (refine fk_n ?_ ?_; focus (first | rfl | (simp (disch := omega) only [FS, eq_self, List.length_cons, List.length_nil, true_and, and_true, ssz, xadd, xsub, xmul, xmin, xmax] <;> omega) | omega)))
  refine ⟨fun j => j ≤ fs.length ∧ True, fun j => fs.length - j, range_e (ln_frs fs) ⟨rfl, trivial⟩ (by omega) trivial (fun i hi _ nx => ?_) fun _ => hk⟩
  dsimp only
  obtain ⟨x, hx⟩ := at_lt hi
  obtain ⟨g1, g2, g3⟩ := hv.fr hx
  have nx := nx trivial
  rw [tn_ofNat, frs_at hx]
  refine ⟨x.pg, g1, rfl, size, fs, hand, x.pg.id, (by omega : fs.length ≤ 64), rfl, fk_n (by rw [g2]; (first | rfl | (simp (disch := omega) only [FS, eq_self, List.length_cons, List.length_nil, true_and, and_true, ssz, xadd, xsub, xmul, xmin, xmax] <;> omega) | omega)) ?_⟩
  rw [frR_34, frR_35, frR_1]
  unfold recB at g3
  cases hd : x.dirty with
  | true =>
    rw [hd] at g3
    simp only [if_true, Bool.and_eq_true, decide_eq_true_eq] at g3
    repeat (first | (refine fk_t ?_ ?_; focus (first | rfl | (simp (disch := omega) only [FS, eq_self, List.length_cons, List.length_nil, true_and, and_true, ssz, xadd, xsub, xmul, xmin, xmax] <;> omega) | omega)) | (refine fk_n ?_ ?_; focus (first | rfl | (simp (disch := omega) only [FS, eq_self, List.length_cons, List.length_nil, true_and, and_true, ssz, xadd, xsub, xmul, xmin, xmax] <;> omega) | omega)))
    exact nx
  | false =>
    rw [hd] at g3
    simp only [Bool.false_eq_true, if_false, beq_iff_eq] at g3
    repeat (first | (refine fk_t ?_ ?_; focus (first | rfl | (simp (disch := omega) only [FS, eq_self, List.length_cons, List.length_nil, true_and, and_true, ssz, xadd, xsub, xmul, xmin, xmax] <;> omega) | omega)) | (refine fk_n ?_ ?_; focus (first | rfl | (simp (disch := omega) only [FS, eq_self, List.length_cons, List.length_nil, true_and, and_true, ssz, xadd, xsub, xmul, xmin, xmax] <;> omega) | omega)))
    exact nx
theorem ok69 : CtOk Tryz.prog T69 := by
  refine ct_cons ok41 (fz := true) fun rs k h => ?_
  obtain ⟨size, fs, hand, id, hv, rfl, hk⟩ := h
  have := hv.num
  exact ⟨_, _, _, (vc69 size fs hand id k).mpr ⟨size, fs, hand, hv, rfl, size, fs, hand, id, (by omega : fs.length ≤ 64), rfl, hk⟩⟩
end Go.Proofs.YtgjindhjgmplgaaGreat
