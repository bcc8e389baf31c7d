/-
  KernelPlays: contracts of the pool's reference (pagemendref10.Get of a page that is not there).
-/
import Derived.Test.YtgjindhjgmplgaaGreatKzS
set_option linter.unusedVariables false
set_option linter.unusedSimpArgs false
set_option maxRecDepth 100000
namespace Go.Proofs.YtgjindhjgmplgaaGreat
open Wp
def g225 (rs : List Row) (k : V → Prop) : Prop := ∃ c : Cl, rs = [[.b c.1, .s c.2]] ∧ ∀ b : Bool, (VCl c → b = true) → k (.c (.b b))
noncomputable def T225 : Ct := (225, ctF (psF Tryz.prog 225) g225) :: T5
def gAny1 (rs : List Row) (k : V → Prop) : Prop := ∃ r : Row, rs = [r] ∧ ∀ b : Bool, k (.c (.b b))
noncomputable def T194 : Ct := (194, ctF (psF Tryz.prog 194) gAny1) :: T225
noncomputable def T195 : Ct := (195, ctF (psF Tryz.prog 195) gAny1) :: T194
noncomputable def T143 : Ct := (143, ctF (psF Tryz.prog 143) gAny1) :: T195
def g78 (rs : List Row) (k : V → Prop) : Prop := ∃ (size : Int) (fs : List Fr) (hand : Int), fs.length ≤ 64 ∧ rs = [poolR size fs hand] ∧ ∀ b : Bool, k (.c (.b b))
noncomputable def T78 : Ct := (78, ctF (psF Tryz.prog 78) g78) :: T143
structure NoF (fs : List Fr) (id : Int) : Prop where
  len : fs.length ≤ 64
  no : findFr fs id = none
def g79 (rs : List Row) (k : V → Prop) : Prop := ∃ (size : Int) (fs : List Fr) (hand id : Int), NoF fs id ∧ rs = [poolR size fs hand, [.i id]] ∧ k (.c (.i .i64 (-1)))
noncomputable def T79 : Ct := (79, ctF (psF Tryz.prog 79) g79) :: T78
noncomputable def T31 : Ct := (31, ctF (psF Tryz.prog 31) g79) :: T79
def g13 (rs : List Row) (k : V → Prop) : Prop := ∃ (size : Int) (fs : List Fr) (hand id : Int), NoF fs id ∧ rs = [poolR size fs hand, [.i id]] ∧ k (.t [.r shPg zPR, .c (.b false)])
noncomputable def T13 : Ct := (13, ctF (psF Tryz.prog 13) g13) :: T31
theorem vc225 (c : Cl) (k : KVk) : dbody Tryz.prog (dcall Tryz.prog T5 (fun _ => []) 5) [] true 225 (argVs (psF Tryz.prog 225) [[.b c.1, .s c.2]]) [] 0 k = (fk (ile (ssz c.snd)
  12) (fk c.fst (k (.c (.b true)) [] 0) (k (.c (.b (seqB c.snd ⟨#[]⟩))) [] 0)) (k (.c (.b false)) [] 0)) := by kernel_rfl
theorem vc194 (r : Row) (k : KVk) : dbody Tryz.prog (dcall Tryz.prog T225 (fun _ => []) 5) [] true 194 (argVs (psF Tryz.prog 194) [r]) [] 0 k = (fk (ile 0 (ri r 0)) (fk (ilt (ri r 0) 64) (fk (ile 0 (ri r 1)) (k (.c (.b
  (ile (ri r 1) 1099511627776))) [] 0) (k (.c (.b false)) [] 0)) (k (.c (.b false)) [] 0)) (k (.c (.b false)) [] 0)) := by kernel_rfl
theorem vc195 (r : Row) (k : KVk) : dbody Tryz.prog (dcall Tryz.prog T194 (fun _ => []) 5) [(3, .u 17), (1004, .e Unit (fun _ => []) (fun _ => []) 0 [])] true 195 (argVs (psF Tryz.prog 195) [r]) [] 0 k = (∃ (I : Unit →
  Prop), (∃ c, [[DV.b (rb r 2), DV.s (rs r 3)]] = [[DV.b c.fst, DV.s c.snd]] ∧ ∀ (b : Bool), (VCl c → b = true) → fk (nt b) (k (.c (.b false)) [] 0) (fk (ieq (ri r 1) 0) (fk (rb r 2) (k (.c (.b false)) [] 0) (∃ j', I j'
  ∧ True ∧ (r = r ∧ True) ∧ True)) (∃ j', I j' ∧ True ∧ (r = r ∧ True) ∧ True))) ∧ ∀ (j : Unit), I j → ∃ (I : Unit → Prop), (∃ c, [[DV.b (rb r 4), DV.s (rs r 5)]] = [[DV.b c.fst, DV.s c.snd]] ∧ ∀ (b : Bool), (VCl c → b =
  true) → fk (nt b) (k (.c (.b false)) [] 0) (fk (ieq (ri r 1) 0) (fk (rb r 4) (k (.c (.b false)) [] 0) (∃ j', I j' ∧ True ∧ (r = r ∧ True) ∧ True)) (∃ j', I j' ∧ True ∧ (r = r ∧ True) ∧ True))) ∧ ∀ (j : Unit), I j → ∃
  (I : Unit → Prop), (∃ c, [[DV.b (rb r 6), DV.s (rs r 7)]] = [[DV.b c.fst, DV.s c.snd]] ∧ ∀ (b : Bool), (VCl c → b = true) → fk (nt b) (k (.c (.b false)) [] 0) (fk (ieq (ri r 1) 0) (fk (rb r 6) (k (.c (.b false)) [] 0)
  (∃ j', I j' ∧ True ∧ (r = r ∧ True) ∧ True)) (∃ j', I j' ∧ True ∧ (r = r ∧ True) ∧ True))) ∧ ∀ (j : Unit), I j → ∃ (I : Unit → Prop), (∃ c, [[DV.b (rb r 8), DV.s (rs r 9)]] = [[DV.b c.fst, DV.s c.snd]] ∧ ∀ (b : Bool),
  (VCl c → b = true) → fk (nt b) (k (.c (.b false)) [] 0) (fk (ieq (ri r 1) 0) (fk (rb r 8) (k (.c (.b false)) [] 0) (∃ j', I j' ∧ True ∧ (r = r ∧ True) ∧ True)) (∃ j', I j' ∧ True ∧ (r = r ∧ True) ∧ True))) ∧ ∀ (j :
  Unit), I j → ∃ (I : Unit → Prop), (∃ c, [[DV.b (rb r 10), DV.s (rs r 11)]] = [[DV.b c.fst, DV.s c.snd]] ∧ ∀ (b : Bool), (VCl c → b = true) → fk (nt b) (k (.c (.b false)) [] 0) (fk (ieq (ri r 1) 0) (fk (rb r 10) (k (.c
  (.b false)) [] 0) (∃ j', I j' ∧ True ∧ (r = r ∧ True) ∧ True)) (∃ j', I j' ∧ True ∧ (r = r ∧ True) ∧ True))) ∧ ∀ (j : Unit), I j → ∃ (I : Unit → Prop), (∃ c, [[DV.b (rb r 12), DV.s (rs r 13)]] = [[DV.b c.fst, DV.s
  c.snd]] ∧ ∀ (b : Bool), (VCl c → b = true) → fk (nt b) (k (.c (.b false)) [] 0) (fk (ieq (ri r 1) 0) (fk (rb r 12) (k (.c (.b false)) [] 0) (∃ j', I j' ∧ True ∧ (r = r ∧ True) ∧ True)) (∃ j', I j' ∧ True ∧ (r = r ∧
  True) ∧ True))) ∧ ∀ (j : Unit), I j → ∃ (I : Unit → Prop), (∃ c, [[DV.b (rb r 14), DV.s (rs r 15)]] = [[DV.b c.fst, DV.s c.snd]] ∧ ∀ (b : Bool), (VCl c → b = true) → fk (nt b) (k (.c (.b false)) [] 0) (fk (ieq (ri r 1)
  0) (fk (rb r 14) (k (.c (.b false)) [] 0) (∃ j', I j' ∧ True ∧ (r = r ∧ True) ∧ True)) (∃ j', I j' ∧ True ∧ (r = r ∧ True) ∧ True))) ∧ ∀ (j : Unit), I j → ∃ (I : Unit → Prop), (∃ c, [[DV.b (rb r 16), DV.s (rs r 17)]] =
  [[DV.b c.fst, DV.s c.snd]] ∧ ∀ (b : Bool), (VCl c → b = true) → fk (nt b) (k (.c (.b false)) [] 0) (fk (ieq (ri r 1) 0) (fk (rb r 16) (k (.c (.b false)) [] 0) (∃ j', I j' ∧ True ∧ (r = r ∧ True) ∧ True)) (∃ j', I j' ∧
  True ∧ (r = r ∧ True) ∧ True))) ∧ ∀ (j : Unit), I j → ∃ (I : Unit → Prop), (∃ c, [[DV.b (rb r 18), DV.s (rs r 19)]] = [[DV.b c.fst, DV.s c.snd]] ∧ ∀ (b : Bool), (VCl c → b = true) → fk (nt b) (k (.c (.b false)) [] 0)
  (fk (ieq (ri r 1) 0) (fk (rb r 18) (k (.c (.b false)) [] 0) (∃ j', I j' ∧ True ∧ (r = r ∧ True) ∧ True)) (∃ j', I j' ∧ True ∧ (r = r ∧ True) ∧ True))) ∧ ∀ (j : Unit), I j → ∃ (I : Unit → Prop), (∃ c, [[DV.b (rb r 20),
  DV.s (rs r 21)]] = [[DV.b c.fst, DV.s c.snd]] ∧ ∀ (b : Bool), (VCl c → b = true) → fk (nt b) (k (.c (.b false)) [] 0) (fk (ieq (ri r 1) 0) (fk (rb r 20) (k (.c (.b false)) [] 0) (∃ j', I j' ∧ True ∧ (r = r ∧ True) ∧
  True)) (∃ j', I j' ∧ True ∧ (r = r ∧ True) ∧ True))) ∧ ∀ (j : Unit), I j → ∃ (I : Unit → Prop), (∃ c, [[DV.b (rb r 22), DV.s (rs r 23)]] = [[DV.b c.fst, DV.s c.snd]] ∧ ∀ (b : Bool), (VCl c → b = true) → fk (nt b) (k
  (.c (.b false)) [] 0) (fk (ieq (ri r 1) 0) (fk (rb r 22) (k (.c (.b false)) [] 0) (∃ j', I j' ∧ True ∧ (r = r ∧ True) ∧ True)) (∃ j', I j' ∧ True ∧ (r = r ∧ True) ∧ True))) ∧ ∀ (j : Unit), I j → ∃ (I : Unit → Prop), (∃
  c, [[DV.b (rb r 24), DV.s (rs r 25)]] = [[DV.b c.fst, DV.s c.snd]] ∧ ∀ (b : Bool), (VCl c → b = true) → fk (nt b) (k (.c (.b false)) [] 0) (fk (ieq (ri r 1) 0) (fk (rb r 24) (k (.c (.b false)) [] 0) (∃ j', I j' ∧ True
  ∧ (r = r ∧ True) ∧ True)) (∃ j', I j' ∧ True ∧ (r = r ∧ True) ∧ True))) ∧ ∀ (j : Unit), I j → ∃ (I : Unit → Prop), (∃ c, [[DV.b (rb r 26), DV.s (rs r 27)]] = [[DV.b c.fst, DV.s c.snd]] ∧ ∀ (b : Bool), (VCl c → b =
  true) → fk (nt b) (k (.c (.b false)) [] 0) (fk (ieq (ri r 1) 0) (fk (rb r 26) (k (.c (.b false)) [] 0) (∃ j', I j' ∧ True ∧ (r = r ∧ True) ∧ True)) (∃ j', I j' ∧ True ∧ (r = r ∧ True) ∧ True))) ∧ ∀ (j : Unit), I j → ∃
  (I : Unit → Prop), (∃ c, [[DV.b (rb r 28), DV.s (rs r 29)]] = [[DV.b c.fst, DV.s c.snd]] ∧ ∀ (b : Bool), (VCl c → b = true) → fk (nt b) (k (.c (.b false)) [] 0) (fk (ieq (ri r 1) 0) (fk (rb r 28) (k (.c (.b false)) []
  0) (∃ j', I j' ∧ True ∧ (r = r ∧ True) ∧ True)) (∃ j', I j' ∧ True ∧ (r = r ∧ True) ∧ True))) ∧ ∀ (j : Unit), I j → ∃ (I : Unit → Prop), (∃ c, [[DV.b (rb r 30), DV.s (rs r 31)]] = [[DV.b c.fst, DV.s c.snd]] ∧ ∀ (b :
  Bool), (VCl c → b = true) → fk (nt b) (k (.c (.b false)) [] 0) (fk (ieq (ri r 1) 0) (fk (rb r 30) (k (.c (.b false)) [] 0) (∃ j', I j' ∧ True ∧ (r = r ∧ True) ∧ True)) (∃ j', I j' ∧ True ∧ (r = r ∧ True) ∧ True))) ∧ ∀
  (j : Unit), I j → ∃ (I : Unit → Prop), (∃ c, [[DV.b (rb r 32), DV.s (rs r 33)]] = [[DV.b c.fst, DV.s c.snd]] ∧ ∀ (b : Bool), (VCl c → b = true) → fk (nt b) (k (.c (.b false)) [] 0) (fk (ieq (ri r 1) 0) (fk (rb r 32) (k
  (.c (.b false)) [] 0) (∃ j', I j' ∧ True ∧ (r = r ∧ True) ∧ True)) (∃ j', I j' ∧ True ∧ (r = r ∧ True) ∧ True))) ∧ ∀ (j : Unit), I j → k (.c (.b true)) [] 0) := by kernel_rfl
theorem vc143 (r : Row) (k : KVk) : dbody Tryz.prog (dcall Tryz.prog T195 (fun _ => []) 5) [] true 143 (argVs (psF Tryz.prog 143) [r]) [] 0 k = (∃ r_1, [r] = [r_1] ∧ ∀ (b : Bool), fk b
  (∃ r_2, [r] = [r_2] ∧ ∀ (b : Bool), k (.c (.b b)) [] 0) (k (.c (.b false)) [] 0)) := by kernel_rfl
theorem vc78 (size : Int) (fs : List Fr) (hand : Int) (k : KVk) : dbody Tryz.prog (dcall Tryz.prog T143 (fun _ => []) 5) [(6, lpI 4), (12, lpI 6), (1011, .e Unit (fun _ => []) (fun _ => []) 0 [])] true
  78 (argVs (psF Tryz.prog 78) [poolR size fs hand]) [] 0 k = (fk (ilt size 1) (k (.c (.b false)) [] 0) (fk (ilt 64 size) (k (.c (.b false)) [] 0) (fk (ilt size (ln (frsR fs))) (k
  (.c (.b false)) [] 0) (fk (ilt hand 0) (k (.c (.b false)) [] 0) (fk (ilt (xmax 0 (wr .i64 (xsub (ln (frsR fs)) 1))) hand) (k (.c (.b false)) [] 0) (∃ (I : Nat → Prop) (μ : Nat → Nat), (∃ j, I j ∧ (0 = Int.ofNat j ∧
  True) ∧ ((poolR size fs hand) = (poolR size fs hand) ∧ True) ∧ True) ∧ ∀ (j : Nat), I j → fk (ilt (Int.ofNat j) (ln (frsR fs))) (fk (inR (Int.ofNat j) (ln (frsR fs))) (∃ (I_1 : Unit → Prop), (∃ r, [rtk (rdp (rw' (frsR
  fs) (tn (Int.ofNat j))) 0) 34] = [r] ∧ ∀ (b : Bool), fk (nt b) (k (.c (.b false)) [] 0) (fk (rb (rw' (frsR fs) (tn (Int.ofNat j))) 34) (fk (ilt (ri (rw' (frsR fs) (tn (Int.ofNat j))) 35) 1) (k (.c (.b false)) [] 0) (fk
  (ilt (ri (rw' (frsR fs) (tn (Int.ofNat j))) 1) (ri (rw' (frsR fs) (tn (Int.ofNat j))) 35)) (k (.c (.b false)) [] 0) (fk (nt (rb (rw' (frsR fs) (tn (Int.ofNat j))) 34)) (fk (nt (ieq (ri (rw' (frsR fs) (tn (Int.ofNat
  j))) 35) 0)) (k (.c (.b false)) [] 0) (∃ j', I_1 j' ∧ True ∧ (rw' (frsR fs) (tn (Int.ofNat j)) = rw' (frsR fs) (tn (Int.ofNat j)) ∧ (poolR size fs hand) = (poolR size fs hand) ∧ True) ∧ True)) (∃ j', I_1 j' ∧ True ∧
  (rw' (frsR fs) (tn (Int.ofNat j)) = rw' (frsR fs) (tn (Int.ofNat j)) ∧ (poolR size fs hand) = (poolR size fs hand) ∧ True) ∧ True)))) (fk (nt (rb (rw' (frsR fs) (tn (Int.ofNat j))) 34)) (fk (nt (ieq (ri (rw' (frsR fs)
  (tn (Int.ofNat j))) 35) 0)) (k (.c (.b false)) [] 0) (∃ j', I_1 j' ∧ True ∧ (rw' (frsR fs) (tn (Int.ofNat j)) = rw' (frsR fs) (tn (Int.ofNat j)) ∧ (poolR size fs hand) = (poolR size fs hand) ∧ True) ∧ True)) (∃ j', I_1
  j' ∧ True ∧ (rw' (frsR fs) (tn (Int.ofNat j)) = rw' (frsR fs) (tn (Int.ofNat j)) ∧ (poolR size fs hand) = (poolR size fs hand) ∧ True) ∧ True)))) ∧ ∀ (j_1 : Unit), I_1 j_1 → ∃ (I_2 : Nat → Prop) (μ_1 : Nat → Nat), (∃
  j_2, I_2 j_2 ∧ (0 = Int.ofNat j_2 ∧ True) ∧ (rw' (frsR fs) (tn (Int.ofNat j)) = rw' (frsR fs) (tn (Int.ofNat j)) ∧ (poolR size fs hand) = (poolR size fs hand) ∧ True) ∧ True) ∧ ∀ (j_2 : Nat), I_2 j_2 → fk (ilt
  (Int.ofNat j_2) (Int.ofNat j)) (fk (inR (Int.ofNat j_2) (ln (frsR fs))) (fk (ieq (ri (rw' (frsR fs) (tn (Int.ofNat j_2))) 0) (ri (rw' (frsR fs) (tn (Int.ofNat j))) 0)) (k (.c (.b false)) [] 0) (∃ j', I_2 j' ∧ lessN
  (μ_1 j') (μ_1 j_2) ∧ (wr .i64 (xadd (Int.ofNat j_2) 1) = Int.ofNat j' ∧ True) ∧ (rw' (frsR fs) (tn (Int.ofNat j)) = rw' (frsR fs) (tn (Int.ofNat j)) ∧ (poolR size fs hand) = (poolR size fs hand) ∧ True) ∧ True)) False)
  (∃ j', I j' ∧ lessN (μ j') (μ j) ∧ (wr .i64 (xadd (Int.ofNat j) 1) = Int.ofNat j' ∧ True) ∧ ((poolR size fs hand) = (poolR size fs hand) ∧ True) ∧ True)) False) (k (.c (.b true)) [] 0))))))) := by kernel_rfl
theorem vc79 (size : Int) (fs : List Fr) (hand id : Int) (k : KVk) : dbody Tryz.prog (dcall Tryz.prog T78 (fun _ => []) 5) [(3, lpI 5)] true 79 (argVs (psF Tryz.prog 79) [poolR size fs
  hand, [.i id]]) [] 0 k = (∃ (I : Nat → Prop) (μ : Nat → Nat), (∃ j, I j ∧ (0 = Int.ofNat j ∧ True) ∧ ((poolR size fs hand) = (poolR size fs hand) ∧ True) ∧ True) ∧ ∀ (j : Nat), I j → fk (ilt (Int.ofNat j) (ln (frsR
  fs))) (fk (inR (Int.ofNat j) (ln (frsR fs))) (fk (ieq (ri (rw' (frsR fs) (tn (Int.ofNat j))) 0) id) (k (.c (.i .i64 (Int.ofNat j))) [] 0) (∃ j', I j' ∧ lessN (μ j') (μ j) ∧ (wr .i64 (xadd (Int.ofNat j) 1) = Int.ofNat
  j' ∧ True) ∧ ((poolR size fs hand) = (poolR size fs hand) ∧ True) ∧ True)) False) (k (.c (.i .i64 (-1))) [] 0)) := by kernel_rfl
theorem vc31 (size : Int) (fs : List Fr) (hand id : Int) (k : KVk) : dbody Tryz.prog (dcall Tryz.prog T79 (fun _ => []) 5) [] true 31 (argVs (psF Tryz.prog 31) [poolR size fs hand, [.i
  id]]) [] 0 k = (∃ size_1 fs_1 hand_1, fs_1.length ≤ 64 ∧ [(poolR size fs hand)] = [(poolR size_1 fs_1 hand_1)] ∧ ∀ (b : Bool), fk (nt b) (k (.c (.i .i64 (-1))) [] 0) (∃ size_2 fs_2 hand_2 id_1, NoF fs_2 id_1 ∧ [(poolR
  size fs hand), [DV.i id]] = [(poolR size_2 fs_2 hand_2), [DV.i id_1]] ∧ k (.c (.i .i64 (-1))) [] 0)) := by kernel_rfl
theorem vc13 (size : Int) (fs : List Fr) (hand id : Int) (k : KVk) : dbody Tryz.prog (dcall Tryz.prog T31 (fun _ => []) 5) [] true 13 (argVs (psF Tryz.prog 13) [poolR size fs hand, [.i
  id]]) [] 0 k = (∃ size_1 fs_1 hand_1 id_1, NoF fs_1 id_1 ∧ [(poolR size fs hand), [DV.i id]] = [(poolR size_1 fs_1 hand_1), [DV.i id_1]] ∧ k (.t [.r shPg zPR, .c (.b false)]) [] 0) := by kernel_rfl
theorem fk_yes' {c : Bool} {a b : Prop} (h : fk c a b) (e : c = true) : a := by subst e; exact h
theorem fk_no' {c : Bool} {a b : Prop} (h : fk c a b) (e : c = false) : b := by subst e; exact h
theorem range_f {n : Nat} {c : Int} (hc : c = n) {Inv : Nat → Prop} {X : Prop} (hX : X) (hl : n ≤ 1048576) (h0 : Inv 0) {Body : Nat → Prop} {B : Prop}
    (hs : ∀ (i : Nat), i < n → Inv i → (Inv (i + 1) → ∃ j', (j' ≤ n ∧ Inv j') ∧ lessN (n - j') (n - i) ∧ (wr .i64 (xadd (Int.ofNat i) 1) = Int.ofNat j' ∧ True) ∧ X ∧ True) → Body i) (he : Inv n → B) :
    (∃ j, (j ≤ n ∧ Inv j) ∧ (0 = Int.ofNat j ∧ True) ∧ X ∧ True) ∧ ∀ j, j ≤ n ∧ Inv j → fk (ilt (Int.ofNat j) c) (Body j) B := by
  obtain ⟨h1, h2⟩ := range_e hc hX hl h0 (Body := Body) (B := B) hs he
  refine ⟨h1, fun j hj => fk_of (fun e => ?_) fun e => ?_⟩
  · have h3 := h2 j hj
    have h4 := fk_yes' h3 e
    subst hc
    exact fk_yes' h4 (by rw [inR_T]; have := ilt_t e; exact ⟨Int.natCast_nonneg _, this⟩)
  · exact fk_no' (h2 j hj) e
theorem ok225 : CtOk Tryz.prog T225 := by
  refine ct_cons ok5 (fz := true) fun rs k h => ?_
  obtain ⟨c, rfl, hk⟩ := h
  refine ⟨_, _, _, (vc225 c k).mpr (fk_of (fun h1 => fk_of (fun h2 => hk _ fun _ => rfl) fun h2 => hk _ fun h3 => ?_) fun h1 => hk _ fun h3 => ?_)⟩
  · rw [h3.2 h2]
    rfl
  · have := ile_f h1
    have := h3.1
    unfold ssz at *
    omega
theorem ok194 : CtOk Tryz.prog T194 := by
  refine ct_cons ok225 (fz := true) fun rs k h => ?_
  obtain ⟨r, rfl, hk⟩ := h
  exact ⟨_, _, _, (vc194 r k).mpr (fk_of (fun _ => fk_of (fun _ => fk_of (fun _ => hk _) fun _ => hk _) fun _ => hk _) fun _ => hk _)⟩
theorem ok195 : CtOk Tryz.prog T195 := by
  refine ct_cons ok194 (fz := true) fun rs k h => ?_
  obtain ⟨r, rfl, hk⟩ := h
  refine ⟨_, _, _, (vc195 r k).mpr ?_⟩
  have step : ∀ {a : Bool} {b : ByteArray} {t : Bool} {X : (Unit → Prop) → Prop} {Y : Prop}, X (fun _ => True) → Y →
      ∃ I : Unit → Prop, (∃ c : Cl, [[DV.b a, DV.s b]] = [[DV.b c.fst, DV.s c.snd]] ∧ ∀ b : Bool, (VCl c → b = true) → fk (nt b) (k (.c (.b false)) [] 0) (fk (ieq (ri r 1) 0) (fk t (k (.c (.b false)) [] 0) (X I)) (X I))) ∧ ∀ j : Unit, I j → Y :=
    fun {a b t X Y} hX hY => ⟨fun _ => True, ⟨(a, b), rfl, fun b _ => fk_of (fun _ => hk _) fun _ => fk_of (fun _ => fk_of (fun _ => hk _) fun _ => hX) fun _ => hX⟩, fun _ _ => hY⟩
  iterate 16 refine step (X := fun I => ∃ j', I j' ∧ True ∧ (r = r ∧ True) ∧ True) ⟨(), trivial, trivial, ⟨rfl, trivial⟩, trivial⟩ ?_
  exact hk _
theorem ok143 : CtOk Tryz.prog T143 := by
  refine ct_cons ok195 (fz := true) fun rs k h => ?_
  obtain ⟨r, rfl, hk⟩ := h
  exact ⟨_, _, _, (vc143 r k).mpr ⟨r, rfl, fun b => fk_of (fun _ => ⟨r, rfl, fun b => hk b⟩) fun _ => hk _⟩⟩
theorem ok78 : CtOk Tryz.prog T78 := by
  refine ct_cons ok143 (fz := true) fun rs k h => ?_
  obtain ⟨size, fs, hand, hl, rfl, hk⟩ := h
  refine ⟨_, _, _, (vc78 size fs hand k).mpr ?_⟩
  refine fk_of (fun _ => hk _) fun _ => fk_of (fun _ => hk _) fun _ => fk_of (fun _ => hk _) fun _ => fk_of (fun _ => hk _) fun _ => fk_of (fun _ => hk _) fun _ => ?_
  refine ⟨fun j => j ≤ fs.length ∧ True, fun j => fs.length - j, range_e (ln_frs fs) ⟨rfl, trivial⟩ (by omega) trivial (fun i hi _ nx => ?_) fun _ => hk _⟩
  dsimp only
  refine ⟨fun _ => True, ⟨_, rfl, fun b => fk_of (fun _ => hk _) fun _ => fk_of (fun _ => fk_of (fun _ => hk _) fun _ => fk_of (fun _ => hk _) fun _ => fk_of (fun _ => fk_of (fun _ => hk _) fun _ => ?_) fun _ => ?_) fun _ => fk_of (fun _ => fk_of (fun _ => hk _) fun _ => ?_) fun _ => ?_⟩, fun _ _ => ?_⟩
  · exact ⟨(), trivial, trivial, ⟨rfl, rfl, trivial⟩, trivial⟩
  · exact ⟨(), trivial, trivial, ⟨rfl, rfl, trivial⟩, trivial⟩
  · exact ⟨(), trivial, trivial, ⟨rfl, rfl, trivial⟩, trivial⟩
  · exact ⟨(), trivial, trivial, ⟨rfl, rfl, trivial⟩, trivial⟩
  · refine ⟨fun j => j ≤ i ∧ True, fun j => i - j, range_f (n := i) rfl ⟨rfl, rfl, trivial⟩ (by omega) trivial (fun m hm _ ny => ?_) fun _ => nx trivial⟩
    dsimp only
    refine fk_t (by rw [inR_T, ln_frs, ofN]; omega) (fk_of (fun _ => hk _) fun _ => ny trivial)
theorem ok79 : CtOk Tryz.prog T79 := by
  refine ct_cons ok78 (fz := true) fun rs k h => ?_
  obtain ⟨size, fs, hand, id, hv, rfl, hk⟩ := h
  have hl := hv.len
  refine ⟨_, _, _, (vc79 size fs hand id k).mpr ?_⟩
  refine ⟨fun j => j ≤ fs.length ∧ True, fun j => fs.length - j, range_e (ln_frs fs) ⟨rfl, trivial⟩ (by omega) trivial (fun i hi _ nx => ?_) fun _ => hk⟩
  dsimp only
  obtain ⟨x, hx⟩ := at_lt hi
  rw [tn_ofNat, frs_at hx, frR_0]
  exact fk_n (by rw [ieq_F]; exact findFr_none hv.no x (List.mem_of_getElem? hx)) (nx trivial)
theorem ok31 : CtOk Tryz.prog T31 := by
  refine ct_cons ok79 (fz := true) fun rs k h => ?_
  obtain ⟨size, fs, hand, id, hv, rfl, hk⟩ := h
  exact ⟨_, _, _, (vc31 size fs hand id k).mpr ⟨size, fs, hand, hv.len, rfl, fun b => fk_of (fun _ => hk) fun _ => ⟨size, fs, hand, id, hv, rfl, hk⟩⟩⟩
theorem ok13 : CtOk Tryz.prog T13 := by
  refine ct_cons ok31 (fz := true) fun rs k h => ?_
  obtain ⟨size, fs, hand, id, hv, rfl, hk⟩ := h
  exact ⟨_, _, _, (vc13 size fs hand id k).mpr ⟨size, fs, hand, id, hv, rfl, hk⟩⟩
end Go.Proofs.YtgjindhjgmplgaaGreat
