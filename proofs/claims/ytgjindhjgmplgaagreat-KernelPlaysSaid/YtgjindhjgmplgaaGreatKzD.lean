/-
  KernelPlays: contracts of the locks' reading functions.
-/
import Derived.Test.YtgjindhjgmplgaaGreatKzC
set_option linter.unusedVariables false
set_option linter.unusedSimpArgs false
set_option maxRecDepth 100000
namespace Go.Proofs.YtgjindhjgmplgaaGreat
open Wp
abbrev validB := validG
abbrev ordX := ordI
abbrev confB := conflictB
abbrev hitX := hitB
abbrev modeX := modeF
abbrev cmpX := cmpI
def orX (a b c : Int) : Int := if a ≠ 0 then a else if b ≠ 0 then b else c
def g157 (rs : List Row) (k : V → Prop) : Prop := ∃ x y : Int, rs = [[.i x], [.i y]] ∧ k (.c (.i .i64 (cmpX x y)))
def g156 (rs : List Row) (k : V → Prop) : Prop := ∃ a b c : Int, rs = [[.sl [[.i a], [.i b], [.i c]]]] ∧ k (.c (.i .i64 (orX a b c)))
def g98 (rs : List Row) (k : V → Prop) : Prop := ∃ g : G, rs = [gR g] ∧ k (.c (.b (validB g)))
def g99 (rs : List Row) (k : V → Prop) : Prop := ∃ a b : G, rs = [gR a, gR b] ∧ k (.c (.i .i64 (ordX a b)))
def g100 (rs : List Row) (k : V → Prop) : Prop := ∃ a b : G, rs = [gR a, gR b] ∧ k (.c (.b (confB a b)))
structure LkS (hs : List G) : Prop where
  srt : hs.Pairwise ltG
  len : hs.length ≤ 1024
def g158 (rs : List Row) (k : V → Prop) : Prop := ∃ (hs : List G) (t : G), LkS hs ∧ rs = [[.sl (gsR hs)], [.i t.tx], [.i t.page, .i t.slot]] ∧ ∀ i, Wp.Found hs t i → k (.t [.c (.i .i64 (Int.ofNat i)), .c (.b (hitX hs t i))])
def g101 (rs : List Row) (k : V → Prop) : Prop := ∃ (hs ws : List G) (t : G), LkS hs ∧ rs = [lkR hs ws, [.i t.tx], [.i t.page, .i t.slot]] ∧ k (.c (.i .i64 (modeX hs t)))
structure LkV (hs ws : List G) : Prop where
  v : validT hs ws = true
def g42 (rs : List Row) (k : V → Prop) : Prop := ∃ (hs ws : List G), LkV hs ws ∧ rs = [lkR hs ws] ∧ k (.c (.b true))
def T157 : Ct := (157, ctF (psF Tryz.prog 157) g157) :: T69
def T156 : Ct := (156, ctF (psF Tryz.prog 156) g156) :: T157
def T98 : Ct := (98, ctF (psF Tryz.prog 98) g98) :: T156
def T99 : Ct := (99, ctF (psF Tryz.prog 99) g99) :: T98
def T100 : Ct := (100, ctF (psF Tryz.prog 100) g100) :: T99
def T158 : Ct := (158, ctF (psF Tryz.prog 158) g158) :: T100
def T101 : Ct := (101, ctF (psF Tryz.prog 101) g101) :: T158
def T42 : Ct := (42, ctF (psF Tryz.prog 42) g42) :: T101
def ixG : Nat → Lp := fun f => bif Nat.beq f 109 then [(3, lpI 8)] else []
def bsF : Nat → Lp := fun f => bif Nat.beq f 203 then [(4, .e (Nat × Nat) (fun j => [(9, .c (.i .i64 (Int.ofNat j.1))), (10, .c (.i .i64 (Int.ofNat j.2)))]) (fun _ => []) 0 [])] else []
theorem vc157 (x y : Int) (k : KVk) : dbody Tryz.prog (dcall Tryz.prog T69 (fun _ => []) 5) [] true 157 (argVs (psF Tryz.prog 157) [[.i x], [.i y]]) [] 0 k = (fk (nt (ieq x x)) (fk (nt (ieq
  y y)) (k (.c (.i .i64 0)) [] 0) (k (.c (.i .i64 (-1))) [] 0)) (fk (nt (ieq y y)) (k (.c (.i .i64 1)) [] 0) (fk (ilt x y) (k (.c (.i .i64 (-1))) [] 0) (fk (ilt y x) (k (.c (.i .i64 1)) [] 0) (k (.c (.i .i64 0)) []
  0))))) := by kernel_rfl
theorem vc156 (a b c : Int) (k : KVk) : dbody Tryz.prog (dcall Tryz.prog T157 (fun _ => []) 5) [(4, .u 4)] true 156 (argVs (psF Tryz.prog 156) [[.sl [[.i a], [.i b], [.i c]]]]) [] 0 k = (fk (ilt 0 (ln
  [[DV.i a], [DV.i b], [DV.i c]])) (fk (inR 0 (ln [[DV.i a], [DV.i b], [DV.i c]])) (fk (nt (ieq (ri (rw' [[DV.i a], [DV.i b], [DV.i c]] 0) 0) 0)) (k (.c (.i .i64 (ri (rw' [[DV.i a], [DV.i b], [DV.i c]] 0) 0))) [] 0) (fk
  (ilt 1 (ln [[DV.i a], [DV.i b], [DV.i c]])) (fk (inR 1 (ln [[DV.i a], [DV.i b], [DV.i c]])) (fk (nt (ieq (ri (rw' [[DV.i a], [DV.i b], [DV.i c]] 1) 0) 0)) (k (.c (.i .i64 (ri (rw' [[DV.i a], [DV.i b], [DV.i c]] 1) 0)))
  [] 0) (fk (ilt 2 (ln [[DV.i a], [DV.i b], [DV.i c]])) (fk (inR 2 (ln [[DV.i a], [DV.i b], [DV.i c]])) (fk (nt (ieq (ri (rw' [[DV.i a], [DV.i b], [DV.i c]] 2) 0) 0)) (k (.c (.i .i64 (ri (rw' [[DV.i a], [DV.i b], [DV.i
  c]] 2) 0))) [] 0) (fk (ilt 3 (ln [[DV.i a], [DV.i b], [DV.i c]])) (fk (inR 3 (ln [[DV.i a], [DV.i b], [DV.i c]])) (fk (nt (ieq (ri (rw' [[DV.i a], [DV.i b], [DV.i c]] 3) 0) 0)) (k (.c (.i .i64 (ri (rw' [[DV.i a], [DV.i
  b], [DV.i c]] 3) 0))) [] 0) False) False) (k (.c (.i .i64 0)) [] 0))) False) (k (.c (.i .i64 0)) [] 0))) False) (k (.c (.i .i64 0)) [] 0))) False) (k (.c (.i .i64 0)) [] 0)) := by kernel_rfl
theorem vc98 (g : G) (k : KVk) : dbody Tryz.prog (dcall Tryz.prog T156 (fun _ => []) 5) [] true 98 (argVs (psF Tryz.prog 98) [gR g]) [] 0 k = (fk (ile 1 g.tx) (fk (ile g.tx 1073741824) (fk (ile 0
  g.page) (fk (ilt g.page 64) (fk (ile 0 g.slot) (fk (ilt g.slot 16) (fk (ieq g.mode 1) (k (.c (.b true)) [] 0) (k (.c (.b (ieq g.mode 2))) [] 0)) (k (.c (.b false)) [] 0)) (k (.c (.b false)) [] 0)) (k (.c (.b false)) []
  0)) (k (.c (.b false)) [] 0)) (k (.c (.b false)) [] 0)) (k (.c (.b false)) [] 0)) := by kernel_rfl
theorem vc99 (a b : G) (k : KVk) : dbody Tryz.prog (dcall Tryz.prog T98 (fun _ => []) 5) [] true 99 (argVs (psF Tryz.prog 99) [gR a, gR b]) [] 0 k = (∃ x y, [[DV.i a.page], [DV.i b.page]] = [[DV.i
  x], [DV.i y]] ∧ ∃ x_1 y_1, [[DV.i a.slot], [DV.i b.slot]] = [[DV.i x_1], [DV.i y_1]] ∧ ∃ x_2 y_2, [[DV.i a.tx], [DV.i b.tx]] = [[DV.i x_2], [DV.i y_2]] ∧ ∃ a b c, [[DV.sl [[DV.i (cmpX x y)], [DV.i (cmpX x_1 y_1)],
  [DV.i (cmpX x_2 y_2)]]]] = [[DV.sl [[DV.i a], [DV.i b], [DV.i c]]]] ∧ k (.c (.i .i64 (orX a b c))) [] 0) := by kernel_rfl
theorem vc100 (a b : G) (k : KVk) : dbody Tryz.prog (dcall Tryz.prog T99 (fun _ => []) 5) [] true 100 (argVs (psF Tryz.prog 100) [gR a, gR b]) [] 0 k = (fk (nt (ieq a.tx b.tx)) (fk (an (ieq a.2
  b.2) (an (ieq a.3 b.3) true)) (fk (ieq a.mode 2) (k (.c (.b true)) [] 0) (k (.c (.b (ieq b.mode 2))) [] 0)) (k (.c (.b false)) [] 0)) (k (.c (.b false)) [] 0)) := by kernel_rfl
theorem vc158 (hs : List G) (t : G) (k : KVk) : dbody Tryz.prog (dcall Tryz.prog T100 bsF 5) [] true 158 (argVs (psF Tryz.prog 158) [[.sl (gsR hs)], [.i t.tx], [.i t.page, .i t.slot]]) [] 0 k = (∃ (I :
  Nat × Nat → Prop) (μ : Nat × Nat → Nat), (∃ j, I j ∧ (0 = Int.ofNat j.fst ∧ ln (gsR hs) = Int.ofNat j.snd ∧ True) ∧ ([DV.i t.tx, DV.i t.page, DV.i t.slot, DV.i 0] = [DV.i t.tx, DV.i t.page, DV.i t.slot, DV.i 0] ∧ True)
  ∧ True) ∧ ∀ (j : Nat × Nat), I j → fk (ilt (Int.ofNat j.fst) (Int.ofNat j.snd)) (fk (inR (wr .i64 (xsh BinOp.shr .u64 (wr .u64 (wr .i64 (xadd (Int.ofNat j.fst) (Int.ofNat j.snd)))) 1)) (ln (gsR hs))) (∃ a b, [rw' (gsR
  hs) (tn (wr .i64 (xsh BinOp.shr .u64 (wr .u64 (wr .i64 (xadd (Int.ofNat j.fst) (Int.ofNat j.snd)))) 1))), [DV.i t.tx, DV.i t.page, DV.i t.slot, DV.i 0]] = [[DV.i a.tx, DV.i a.page, DV.i a.slot, DV.i a.mode], [DV.i
  b.tx, DV.i b.page, DV.i b.slot, DV.i b.mode]] ∧ fk (ilt (ordX a b) 0) (∃ j', I j' ∧ lessN (μ j') (μ j) ∧ (wr .i64 (xadd (wr .i64 (xsh BinOp.shr .u64 (wr .u64 (wr .i64 (xadd (Int.ofNat j.fst) (Int.ofNat j.snd)))) 1)) 1)
  = Int.ofNat j'.fst ∧ Int.ofNat j.snd = Int.ofNat j'.snd ∧ True) ∧ ([DV.i t.tx, DV.i t.page, DV.i t.slot, DV.i 0] = [DV.i t.tx, DV.i t.page, DV.i t.slot, DV.i 0] ∧ True) ∧ True) (∃ j', I j' ∧ lessN (μ j') (μ j) ∧
  (Int.ofNat j.fst = Int.ofNat j'.fst ∧ wr .i64 (xsh BinOp.shr .u64 (wr .u64 (wr .i64 (xadd (Int.ofNat j.fst) (Int.ofNat j.snd)))) 1) = Int.ofNat j'.snd ∧ True) ∧ ([DV.i t.tx, DV.i t.page, DV.i t.slot, DV.i 0] = [DV.i
  t.tx, DV.i t.page, DV.i t.slot, DV.i 0] ∧ True) ∧ True)) False) (fk (ilt (Int.ofNat j.fst) (ln (gsR hs))) (fk (inR (Int.ofNat j.fst) (ln (gsR hs))) (∃ a b, [rw' (gsR hs) (tn (Int.ofNat j.fst)), [DV.i t.tx, DV.i t.page,
  DV.i t.slot, DV.i 0]] = [[DV.i a.tx, DV.i a.page, DV.i a.slot, DV.i a.mode], [DV.i b.tx, DV.i b.page, DV.i b.slot, DV.i b.mode]] ∧ k (.t [.c (.i .i64 (Int.ofNat j.fst)), .c (.b (ieq (ordX a b) 0))]) [] 0) False) (k (.t
  [.c (.i .i64 (Int.ofNat j.fst)), .c (.b false)]) [] 0))) := by kernel_rfl
theorem vc101 (hs ws : List G) (t : G) (k : KVk) : dbody Tryz.prog (dcall Tryz.prog T158 (fun _ => []) 5) [] true 101 (argVs (psF Tryz.prog 101) [lkR hs ws, [.i t.tx], [.i t.page, .i t.slot]]) [] 0 k =
  (∃ hs_1 t_1, LkS hs_1 ∧ [[DV.sl (gsR hs)], [DV.i t.tx], [DV.i t.page, DV.i t.slot]] = [[DV.sl (gsR hs_1)], [DV.i t_1.tx], [DV.i t_1.page, DV.i t_1.slot]] ∧ ∀ (i : Nat), Wp.Found hs_1 t_1 i → fk (hitX hs_1 t_1 i) (fk
  (inR (Int.ofNat i) (ln (gsR hs))) (k (.c (.i .i64 (ri (rw' (gsR hs) (tn (Int.ofNat i))) 3))) [] 0) False) (k (.c (.i .i64 0)) [] 0)) := by kernel_rfl
theorem vc42 (hs ws : List G) (k : KVk) : dbody Tryz.prog (dcall Tryz.prog T101 ixG 5) [(5, lpI 18), (11, lpI 55)] true 42 (argVs (psF Tryz.prog 42) [lkR hs ws]) [] 0 k = (fk (ilt 1024 (wr .i64
  (xadd (ln (gsR hs)) (ln (gsR ws))))) (k (.c (.b false)) [] 0) (∃ (I : Nat → Prop) (μ : Nat → Nat), (∃ j, I j ∧ (0 = Int.ofNat j ∧ True) ∧ ([DV.sl (gsR hs), DV.sl (gsR ws)] = [DV.sl (gsR hs), DV.sl (gsR ws)] ∧ True) ∧
  True) ∧ ∀ (j : Nat), I j → fk (ilt (Int.ofNat j) (ln (gsR hs))) (fk (inR (Int.ofNat j) (ln (gsR hs))) (∃ g, [rw' (gsR hs) (tn (Int.ofNat j))] = [[DV.i g.tx, DV.i g.page, DV.i g.slot, DV.i g.mode]] ∧ fk (nt (validB g))
  (k (.c (.b false)) [] 0) (fk (ilt 0 (Int.ofNat j)) (fk (inR (wr .i64 (xsub (Int.ofNat j) 1)) (ln (gsR hs))) (∃ a b, [rw' (gsR hs) (tn (wr .i64 (xsub (Int.ofNat j) 1))), rw' (gsR hs) (tn (Int.ofNat j))] = [[DV.i a.tx,
  DV.i a.page, DV.i a.slot, DV.i a.mode], [DV.i b.tx, DV.i b.page, DV.i b.slot, DV.i b.mode]] ∧ fk (ile 0 (ordX a b)) (k (.c (.b false)) [] 0) (fk (inR (wr .i64 (xsub (Int.ofNat j) 1)) (ln (gsR hs))) (∃ a b, [rw' (gsR
  hs) (tn (wr .i64 (xsub (Int.ofNat j) 1))), rw' (gsR hs) (tn (Int.ofNat j))] = [[DV.i a.tx, DV.i a.page, DV.i a.slot, DV.i a.mode], [DV.i b.tx, DV.i b.page, DV.i b.slot, DV.i b.mode]] ∧ fk (confB a b) (k (.c (.b false))
  [] 0) (∃ j', I j' ∧ lessN (μ j') (μ j) ∧ (wr .i64 (xadd (Int.ofNat j) 1) = Int.ofNat j' ∧ True) ∧ ([DV.sl (gsR hs), DV.sl (gsR ws)] = [DV.sl (gsR hs), DV.sl (gsR ws)] ∧ True) ∧ True)) False)) False) (∃ j', I j' ∧ lessN
  (μ j') (μ j) ∧ (wr .i64 (xadd (Int.ofNat j) 1) = Int.ofNat j' ∧ True) ∧ ([DV.sl (gsR hs), DV.sl (gsR ws)] = [DV.sl (gsR hs), DV.sl (gsR ws)] ∧ True) ∧ True))) False) (∃ (I : Nat → Prop) (μ : Nat → Nat), (∃ j, I j ∧ (0
  = Int.ofNat j ∧ True) ∧ ([DV.sl (gsR hs), DV.sl (gsR ws)] = [DV.sl (gsR hs), DV.sl (gsR ws)] ∧ True) ∧ True) ∧ ∀ (j : Nat), I j → fk (ilt (Int.ofNat j) (ln (gsR ws))) (fk (inR (Int.ofNat j) (ln (gsR ws))) (∃ g, [rw'
  (gsR ws) (tn (Int.ofNat j))] = [[DV.i g.tx, DV.i g.page, DV.i g.slot, DV.i g.mode]] ∧ fk (nt (validB g)) (k (.c (.b false)) [] 0) (∃ hs_1 ws_1 t, LkS hs_1 ∧ [[DV.sl (gsR hs), DV.sl (gsR ws)], [DV.i (ri (rw' (gsR ws)
  (tn (Int.ofNat j))) 0)], [DV.i (ri (rw' (gsR ws) (tn (Int.ofNat j))) 1), DV.i (ri (rw' (gsR ws) (tn (Int.ofNat j))) 2)]] = [[DV.sl (gsR hs_1), DV.sl (gsR ws_1)], [DV.i t.tx], [DV.i t.page, DV.i t.slot]] ∧ fk (ile (ri
  (rw' (gsR ws) (tn (Int.ofNat j))) 3) (modeX hs_1 t)) (k (.c (.b false)) [] 0) (fk (an true (an (ile 0 (Int.ofNat j)) (ile (Int.ofNat j) (ln (gsR ws))))) (∃ (I_1 : Nat → Prop) (μ_1 : Nat → Nat), (∃ j_1, I_1 j_1 ∧ (0 =
  Int.ofNat j_1 ∧ True) ∧ (rw' (gsR ws) (tn (Int.ofNat j)) = rw' (gsR ws) (tn (Int.ofNat j)) ∧ True) ∧ True) ∧ ∀ (j_1 : Nat), I_1 j_1 → fk (ilt (Int.ofNat j_1) (ln (lsub (gsR ws) 0 (Int.ofNat j)))) (fk (inR (Int.ofNat
  j_1) (ln (lsub (gsR ws) 0 (Int.ofNat j)))) (fk (ieq (ri (rw' (lsub (gsR ws) 0 (Int.ofNat j)) (tn (Int.ofNat j_1))) 0) (ri (rw' (gsR ws) (tn (Int.ofNat j))) 0)) (fk (ile 0 (Int.ofNat j_1)) (k (.c (.b false)) [] 0) (∃
  j', I j' ∧ lessN (μ j') (μ j) ∧ (wr .i64 (xadd (Int.ofNat j) 1) = Int.ofNat j' ∧ True) ∧ ([DV.sl (gsR hs), DV.sl (gsR ws)] = [DV.sl (gsR hs), DV.sl (gsR ws)] ∧ True) ∧ True)) (∃ j', I_1 j' ∧ lessN (μ_1 j') (μ_1 j_1) ∧
  (wr .i64 (xadd (Int.ofNat j_1) 1) = Int.ofNat j' ∧ True) ∧ (rw' (gsR ws) (tn (Int.ofNat j)) = rw' (gsR ws) (tn (Int.ofNat j)) ∧ True) ∧ True)) False) (∃ j', I j' ∧ lessN (μ j') (μ j) ∧ (wr .i64 (xadd (Int.ofNat j) 1) =
  Int.ofNat j' ∧ True) ∧ ([DV.sl (gsR hs), DV.sl (gsR ws)] = [DV.sl (gsR hs), DV.sl (gsR ws)] ∧ True) ∧ True)) False))) False) (k (.c (.b true)) [] 0)))) := by kernel_rfl
theorem ok157 : CtOk Tryz.prog T157 := by
  refine ct_cons ok69 (fz := true) fun rs k h => ?_
  obtain ⟨x, y, rfl, hk⟩ := h
  refine ⟨_, _, _, (vc157 x y k).mpr ?_⟩
  repeat (first | (refine fk_t ?_ ?_; focus (first | rfl | (simp (disch := omega) only [FS, eq_self, List.length_cons, List.length_nil, true_and, and_true, ssz, xadd, xsub, xmul, xmin, xmax] <;> omega) | omega)) | (refine fk_n ?_ ?_; focus (first | rfl | (simp (disch := omega) only [FS, eq_self, List.length_cons, List.length_nil, true_and, and_true, ssz, xadd, xsub, xmul, xmin, xmax] <;> omega) | omega)))
  have hk : k (.c (.i .i64 (if x < y then -1 else if y < x then 1 else 0))) [] 0 := hk
  refine fk_of (fun e => ?_) fun e => fk_of (fun f => ?_) fun f => ?_
  · rw [if_pos (ilt_t e)] at hk; exact hk
  · rw [if_neg (Int.not_lt.2 (ilt_f e)), if_pos (ilt_t f)] at hk; exact hk
  · rw [if_neg (Int.not_lt.2 (ilt_f e)), if_neg (Int.not_lt.2 (ilt_f f))] at hk; exact hk
theorem ok156 : CtOk Tryz.prog T156 := by
  refine ct_cons ok157 (fz := true) fun rs k h => ?_
  obtain ⟨a, b, c, rfl, hk⟩ := h
  refine ⟨_, _, _, (vc156 a b c k).mpr ?_⟩
  have r0 : ri (rw' [[DV.i a], [DV.i b], [DV.i c]] 0) 0 = a := rfl
  have r1 : ri (rw' [[DV.i a], [DV.i b], [DV.i c]] 1) 0 = b := rfl
  have r2 : ri (rw' [[DV.i a], [DV.i b], [DV.i c]] 2) 0 = c := rfl
  rw [r0, r1, r2]
  have hk : k (.c (.i .i64 (if a ≠ 0 then a else if b ≠ 0 then b else c))) [] 0 := hk
  refine fk_t rfl (fk_t rfl (fk_of (fun e => ?_) fun e => fk_t rfl (fk_t rfl (fk_of (fun f => ?_) fun f => fk_t rfl (fk_t rfl (fk_of (fun g => ?_) fun g => fk_n rfl ?_))))))
  · rw [if_pos (ieq_f (nt_t e))] at hk; exact hk
  · rw [if_neg (Decidable.not_not.2 (ieq_t (nt_f e))), if_pos (ieq_f (nt_t f))] at hk; exact hk
  · rw [if_neg (Decidable.not_not.2 (ieq_t (nt_f e))), if_neg (Decidable.not_not.2 (ieq_t (nt_f f)))] at hk; exact hk
  · rw [if_neg (Decidable.not_not.2 (ieq_t (nt_f e))), if_neg (Decidable.not_not.2 (ieq_t (nt_f f))), ieq_t (nt_f g)] at hk; exact hk
theorem ok98 : CtOk Tryz.prog T98 := by
  refine ct_cons ok156 (fz := true) fun rs k h => ?_
  obtain ⟨g, rfl, hk⟩ := h
  refine ⟨_, _, _, (vc98 g k).mpr ?_⟩
  simp only [fk_and, fk_or]
  have e : (ile 1 g.tx && (ile g.tx 1073741824 && (ile 0 g.page && (ilt g.page 64 && (ile 0 g.slot && (ilt g.slot 16 && (ieq g.mode 1 || ieq g.mode 2))))))) = validG g := by
    unfold validG ile ilt ieq
    simp only [Bool.and_assoc]
    rfl
  rw [e]; exact hk
theorem ok99 : CtOk Tryz.prog T99 := by
  refine ct_cons ok98 (fz := true) fun rs k h => ?_
  obtain ⟨a, b, rfl, hk⟩ := h
  refine ⟨[], fun _ => [], 5, ?_⟩
  rw [vc99]
  refine ⟨a.page, b.page, rfl, a.slot, b.slot, rfl, a.tx, b.tx, rfl, cmpI a.page b.page, cmpI a.slot b.slot, cmpI a.tx b.tx, rfl, ?_⟩
  exact hk
theorem ok100 : CtOk Tryz.prog T100 := by
  refine ct_cons ok99 (fz := true) fun rs k h => ?_
  obtain ⟨a, b, rfl, hk⟩ := h
  refine ⟨_, _, _, (vc100 a b k).mpr ?_⟩
  simp only [fk_and, fk_or]
  have e : (nt (ieq a.tx b.tx) && (an (ieq a.page b.page) (an (ieq a.slot b.slot) true) && (ieq a.mode 2 || ieq b.mode 2))) = conflictB a b := by
    unfold conflictB sameLock ieq nt an
    simp only [Bool.and_true, Bool.and_assoc, bne]
    rfl
  exact e ▸ hk
theorem mid_eq {lo hi : Nat} (h : lo + hi ≤ 4096) : wr .i64 (xsh BinOp.shr .u64 (wr .u64 (wr .i64 (xadd (Int.ofNat lo) (Int.ofNat hi)))) 1) = (((lo + hi) / 2 : Nat) : Int) := by
  have e1 : xadd (Int.ofNat lo) (Int.ofNat hi) = ((lo + hi : Nat) : Int) := by unfold xadd; simp
  rw [e1, wr_id (n := ((lo + hi : Nat) : Int)) (by omega) (by omega)]
  have e2 : wr .u64 ((lo + hi : Nat) : Int) = ((lo + hi : Nat) : Int) := by
    unfold wr IntKind.wrap
    simp [IntKind.bits, IntKind.signed]
    omega
  rw [e2]
  have e3 : xsh BinOp.shr .u64 ((lo + hi : Nat) : Int) 1 = (((lo + hi) / 2 : Nat) : Int) := by
    show ((lo + hi : Nat) : Int).fdiv (2 ^ 1) = _
    rw [Int.fdiv_eq_ediv_of_nonneg _ (by omega)]
    omega
  rw [e3, wr_id (by omega) (by omega)]
theorem ok158 : CtOk Tryz.prog T158 := by
  refine ct_cons ok100 (fz := true) fun rs k h => ?_
  obtain ⟨hs, t, hv, rfl, hk⟩ := h
  have hl := hv.len
  refine ⟨_, _, _, (vc158 hs t k).mpr ?_⟩
  refine ⟨fun j => j.1 ≤ j.2 ∧ j.2 ≤ hs.length ∧ (∀ (i : Nat) (x : G), i < j.1 → hs[i]? = some x → ltG x t) ∧ ∀ (i : Nat) (x : G), j.2 ≤ i → hs[i]? = some x → ¬ ltG x t, fun j => j.2 - j.1,
    ⟨(0, hs.length), ⟨Nat.zero_le _, Nat.le_refl _, fun i x h => absurd h (Nat.not_lt_zero _), fun i x h hx => absurd (List.getElem?_eq_some_iff.1 hx).1 (by omega)⟩, ⟨rfl, ln_gs hs, trivial⟩, ⟨rfl, trivial⟩, trivial⟩, ?_⟩
  rintro ⟨lo, hi⟩ ⟨h1, h2, h3, h4⟩
  dsimp only at h1 h2 h3 h4 ⊢
  rw [mid_eq (by omega)]
  refine fk_of (fun e => ?_) fun e => ?_
  · have hlt : lo < hi := by have := ilt_t e; simpa using this
    have hm : (lo + hi) / 2 < hs.length := by omega
    obtain ⟨x, hx⟩ := at_lt hm
    refine fk_t (by (first | rfl | (simp (disch := omega) only [FS, eq_self, List.length_cons, List.length_nil, true_and, and_true, ssz, xadd, xsub, xmul, xmin, xmax] <;> omega) | omega)) ⟨x, ⟨t.tx, t.page, t.slot, 0⟩, by rw [tn_cast, gs_at hx]; rfl, ?_⟩
    refine fk_of (fun e => ?_) fun e => ?_
    · have hlx : ltG x t := ordI_lt.1 (ilt_t e)
      refine ⟨((lo + hi) / 2 + 1, hi), ⟨by omega, h2, fun i y hi' hy => ?_, h4⟩, (by show hi - ((lo + hi) / 2 + 1) < hi - lo; omega), ⟨?_, rfl, trivial⟩, ⟨rfl, trivial⟩, trivial⟩
      · rcases Nat.lt_or_eq_of_le (Nat.le_of_lt_succ hi') with q | q
        · have hq : i < hs.length := by omega
          have := List.pairwise_iff_getElem.1 hv.srt i ((lo + hi) / 2) hq hm q
          rw [(List.getElem?_eq_some_iff.1 hx).2, (List.getElem?_eq_some_iff.1 hy).2] at this
          exact ltG_tr this hlx
        · subst q; rw [hx] at hy; cases hy; exact hlx
      · show wr .i64 ((((lo + hi) / 2 : Nat) : Int) + 1) = _
        rw [wr_id (by omega) (by omega)]
        rfl
    · have hlx : ¬ ltG x t := fun q => by
        have := ordI_lt.2 q
        have e := ilt_f e
        exact absurd this (Int.not_lt.2 e)
      refine ⟨(lo, (lo + hi) / 2), ⟨by omega, by omega, h3, fun i y hi' hy => ?_⟩, (by show (lo + hi) / 2 - lo < hi - lo; omega), ⟨rfl, rfl, trivial⟩, ⟨rfl, trivial⟩, trivial⟩
      rcases Nat.lt_or_eq_of_le hi' with q | q
      · have hq : i < hs.length := (List.getElem?_eq_some_iff.1 hy).1
        have := List.pairwise_iff_getElem.1 hv.srt ((lo + hi) / 2) i hm hq q
        rw [(List.getElem?_eq_some_iff.1 hx).2, (List.getElem?_eq_some_iff.1 hy).2] at this
        exact fun r => hlx (ltG_tr this r)
      · subst q; rw [hx] at hy; cases hy; exact hlx
  · have he : lo = hi := by have := ilt_f e; simp at this; omega
    subst he
    have hF : Wp.Found hs t lo := ⟨h2, h3, h4⟩
    have hk := hk lo hF
    refine fk_of (fun e => ?_) fun e => ?_
    · have hm : lo < hs.length := by have := ilt_t e; rw [ln_gs] at this; simpa using this
      obtain ⟨x, hx⟩ := at_lt hm
      refine fk_t (by (first | rfl | (simp (disch := omega) only [FS, eq_self, List.length_cons, List.length_nil, true_and, and_true, ssz, xadd, xsub, xmul, xmin, xmax] <;> omega) | omega)) ⟨x, ⟨t.tx, t.page, t.slot, 0⟩, by rw [tn_ofNat, gs_at hx]; rfl, ?_⟩
      have : hitB hs t lo = ieq (ordI x ⟨t.tx, t.page, t.slot, 0⟩) 0 := by
        unfold hitB
        rw [hx]
        rfl
      exact this ▸ hk
    · have hm : hs.length ≤ lo := by have := ilt_f e; rw [ln_gs] at this; simpa using this
      have : hitB hs t lo = false := by
        unfold hitB
        rw [List.getElem?_eq_none hm]
      exact this ▸ hk
theorem ok101 : CtOk Tryz.prog T101 := by
  refine ct_cons ok158 (fz := true) fun rs k h => ?_
  obtain ⟨hs, ws, t, hv, rfl, hk⟩ := h
  refine ⟨_, _, _, (vc101 hs ws t k).mpr ⟨hs, t, hv, rfl, fun i hF => ?_⟩⟩
  have hm := found_mode hv.srt hF
  have hk : k (.c (.i .i64 (modeF hs t))) [] 0 := hk
  refine fk_of (fun e => ?_) fun e => ?_
  · have e : hitB hs t i = true := e
    unfold hitB at e
    split at e
    · rename_i x hx
      have hi : i < hs.length := (List.getElem?_eq_some_iff.1 hx).1
      refine fk_t (by (first | rfl | (simp (disch := omega) only [FS, eq_self, List.length_cons, List.length_nil, true_and, and_true, ssz, xadd, xsub, xmul, xmin, xmax] <;> omega) | omega)) ?_
      rw [tn_ofNat, gs_at hx, gR_3]
      rw [hx] at hm
      simp only [beq_iff_eq] at e
      simp only [e, if_true] at hm
      rw [hm] at hk; exact hk
    · cases e
  · have e : hitB hs t i = false := e
    unfold hitB at e
    split at e
    · rename_i x hx
      rw [hx] at hm
      simp only [beq_eq_false_iff_ne] at e
      simp only [if_neg e] at hm
      rw [hm] at hk; exact hk
    · rename_i hx
      rw [hx] at hm
      rw [hm] at hk; exact hk
theorem LkV.tv {hs ws : List G} (h : LkV hs ws) : TV hs ws := TV.of h.v
theorem LkV.len {hs ws : List G} (h : LkV hs ws) : hs.length + ws.length ≤ 1024 := by
  have := h.v
  unfold validT at this
  simp only [Bool.and_eq_true, decide_eq_true_eq] at this
  exact this.1.1
theorem LkV.s {hs ws : List G} (h : LkV hs ws) : LkS hs := ⟨h.tv.srt, by have := h.len; omega⟩
theorem ok42 : CtOk Tryz.prog T42 := by
  refine ct_cons ok101 (fz := true) fun rs k h => ?_
  obtain ⟨hs, ws, hv, rfl, hk⟩ := h
  have hl := hv.len
  have tv := hv.tv
  refine ⟨_, _, _, (vc42 hs ws k).mpr ?_⟩
  repeat (first | (refine fk_t ?_ ?_; focus (first | rfl | (simp (disch := omega) only [FS, eq_self, List.length_cons, List.length_nil, true_and, and_true, ssz, xadd, xsub, xmul, xmin, xmax] <;> omega) | omega)) | (refine fk_n ?_ ?_; focus (first | rfl | (simp (disch := omega) only [FS, eq_self, List.length_cons, List.length_nil, true_and, and_true, ssz, xadd, xsub, xmul, xmin, xmax] <;> omega) | omega)))
  refine ⟨fun j => j ≤ hs.length ∧ True, fun j => hs.length - j, range_e (ln_gs hs) ⟨rfl, trivial⟩ (by omega) trivial (fun i hi _ nx => ?_) fun _ => ⟨fun j => j ≤ ws.length ∧ True, fun j => ws.length - j, range_e (ln_gs ws) ⟨rfl, trivial⟩ (by omega) trivial (fun i hi _ nx => ?_) fun _ => hk⟩⟩
  · obtain ⟨x, hx⟩ := at_lt hi
    have nx := nx trivial
    rw [tn_ofNat, gs_at hx]
    refine ⟨x, rfl, fk_n (by rw [nt_F]; exact tv.vh _ (List.mem_of_getElem? hx)) (fk_of (fun e => ?_) fun _ => nx)⟩
    have h0 : 0 < i := by have := ilt_t e; simpa using this
    obtain ⟨y, hy⟩ := at_lt (show i - 1 < hs.length by omega)
    have e1 : wr .i64 (xsub (Int.ofNat i) 1) = ((i - 1 : Nat) : Int) := by
      unfold xsub
      rw [wr_id (by simp; omega) (by simp; omega)]
      simp; omega
    rw [e1, tn_cast, gs_at hy]
    have hlt := List.pairwise_iff_getElem.1 tv.srt (i - 1) i (by omega) hi (by omega)
    have hcf := List.pairwise_iff_getElem.1 tv.cf (i - 1) i (by omega) hi (by omega)
    rw [(List.getElem?_eq_some_iff.1 hx).2, (List.getElem?_eq_some_iff.1 hy).2] at hlt hcf
    exact fk_t (by (first | rfl | (simp (disch := omega) only [FS, eq_self, List.length_cons, List.length_nil, true_and, and_true, ssz, xadd, xsub, xmul, xmin, xmax] <;> omega) | omega)) ⟨y, x, rfl, fk_n (by rw [ile_F]; exact ordI_lt.2 hlt) (fk_t (by (first | rfl | (simp (disch := omega) only [FS, eq_self, List.length_cons, List.length_nil, true_and, and_true, ssz, xadd, xsub, xmul, xmin, xmax] <;> omega) | omega)) ⟨y, x, rfl, fk_n hcf nx⟩)⟩
  · obtain ⟨x, hx⟩ := at_lt hi
    have nx := nx trivial
    obtain ⟨v1, v2⟩ := tv.vw _ (List.mem_of_getElem? hx)
    rw [tn_ofNat, gs_at hx, gs_sub]
    refine ⟨x, rfl, fk_n (by rw [nt_F]; exact v1) ⟨hs, ws, x, hv.s, rfl, fk_n (by rw [ile_F]; exact v2) (fk_t (by (first | rfl | (simp (disch := omega) only [FS, eq_self, List.length_cons, List.length_nil, true_and, and_true, ssz, xadd, xsub, xmul, xmin, xmax] <;> omega) | omega)) ?_)⟩⟩
    refine ⟨fun j => j ≤ (ws.take i).length ∧ True, fun j => (ws.take i).length - j, range_e (ln_gs _) ⟨rfl, trivial⟩ (by rw [List.length_take]; omega) trivial (fun j hj _ nx2 => ?_) fun _ => nx⟩
    obtain ⟨y, hy⟩ := at_lt hj
    have hji : j < i := by rw [List.length_take] at hj; omega
    rw [tn_ofNat, gs_at hy]
    refine fk_n ?_ (nx2 trivial)
    rw [ieq_F]
    rw [List.getElem?_take_of_lt hji] at hy
    have hn := List.pairwise_iff_getElem.1 (List.nodup_iff_pairwise_ne.1 tv.nd) j i (by rw [List.length_map]; omega) (by rw [List.length_map]; omega) hji
    rw [List.getElem_map, List.getElem_map, (List.getElem?_eq_some_iff.1 hx).2, (List.getElem?_eq_some_iff.1 hy).2] at hn
    exact hn
end Go.Proofs.YtgjindhjgmplgaaGreat
