/-
  KernelPlays: contracts of Clone, Delete, Insert of grants, and of locks.settle.
-/
import Derived.Test.YtgjindhjgmplgaaGreatKzD
set_option linter.unusedVariables false
set_option linter.unusedSimpArgs false
section
set_option maxRecDepth 100000
namespace Go.Proofs.YtgjindhjgmplgaaGreat
open Wp
def wtR (ws : List G) (tx : Int) : Row := match ws.find? fun x => x.tx == tx with | some g => gR g | none => [.i 0, .i 0, .i 0, .i 0]
def wtB (ws : List G) (tx : Int) : Bool := ws.any fun x => x.tx == tx
abbrev blkB := blockedB
abbrev plcX := placeF
def g62 (rs : List Row) (k : V → Prop) : Prop := ∃ (hs ws : List G) (tx : Int), LkV hs ws ∧ rs = [lkR hs ws, [.i tx]] ∧ k (.t [.r shG (wtR ws tx), .c (.b (wtB ws tx))])
structure BlV (hs ws : List G) (i : Nat) : Prop where
  len : hs.length + ws.length ≤ 1024
  lt : i < ws.length
def g168 (rs : List Row) (k : V → Prop) : Prop := ∃ (hs ws : List G) (i : Nat), BlV hs ws i ∧ rs = [lkR hs ws, [.i (Int.ofNat i)]] ∧ k (.c (.b (blkB hs ws i)))
def g121 (rs : List Row) (k : V → Prop) : Prop := ∃ (hs ws : List G) (g : G), LkV hs ws ∧ rs = [lkR hs ws, gR g] ∧ k (.c (.i .i64 (Int.ofNat (plcX hs ws g))))
def T62 : Ct := (62, ctF (psF Tryz.prog 62) g62) :: T42
def T168 : Ct := (168, ctF (psF Tryz.prog 168) g168) :: T62
def T121 : Ct := (121, ctF (psF Tryz.prog 121) g121) :: T168
def T165 : Ct := (165, cloneG shG 32) :: T121
def T169 : Ct := (169, delG shG) :: T165
structure SetV (hs ws : List G) : Prop where
  srt : hs.Pairwise ltG
  len : hs.length + ws.length ≤ 1024
def setH (hs ws : List G) : List G := (Wp.settle hs ws).1
def setW (hs ws : List G) : List G := (Wp.settle hs ws).2
def g122 (vs : List V) (E : Mem) (nx : Nat) (k : KVk) : Prop := match vs, E, nx with
  | [.a [.ow 0, .ow 1]], [(0, .W e hr), (1, .W e' wr)], 2 => fk (shEq shG e && shEq shG e') (∃ hs ws, SetV hs ws ∧ hr = gsR hs ∧ wr = gsR ws ∧ k (.a [.ow 4, .ow 5]) [(4, .W shG (gsR (setH hs ws))), (5, .W shG (gsR (setW hs ws)))] 6) False
  | _, _, _ => False
def T120 : Ct := (120, insG shG 32) :: T169
def T122 : Ct := (122, g122) :: T120
theorem vc62 (hs ws : List G) (tx : Int) (k : KVk) : dbody Tryz.prog (dcall Tryz.prog T42 ixG 5) [] true 62 (argVs (psF Tryz.prog 62) [lkR hs ws, [.i tx]]) [] 0 k = (∃ (I : Nat → Prop) (μ : Nat
  → Nat), (∃ j, I j ∧ (0 = Int.ofNat j ∧ True) ∧ ([DV.i tx] = [DV.i tx] ∧ True) ∧ True) ∧ ∀ (j : Nat), I j → fk (ilt (Int.ofNat j) (ln (gsR ws))) (fk (inR (Int.ofNat j) (ln (gsR ws))) (fk (ieq (ri (rw' (gsR ws) (tn
  (Int.ofNat j))) 0) tx) (fk (ilt (Int.ofNat j) 0) (k (.t [.r [.i .i64, .i .i64, .i .i64, .i .i64] [DV.i 0, DV.i 0, DV.i 0, DV.i 0], .c (.b false)]) [] 0) (∃ hs_1 ws_1, LkV hs_1 ws_1 ∧ [[DV.sl (gsR hs), DV.sl (gsR ws)]]
  = [[DV.sl (gsR hs_1), DV.sl (gsR ws_1)]] ∧ fk (inR (Int.ofNat j) (ln (gsR ws))) (k (.t [.r [.i .i64, .i .i64, .i .i64, .i .i64] (rw' (gsR ws) (tn (Int.ofNat j))), .c (.b true)]) [] 0) False)) (∃ j', I j' ∧ lessN (μ j')
  (μ j) ∧ (wr .i64 (xadd (Int.ofNat j) 1) = Int.ofNat j' ∧ True) ∧ ([DV.i tx] = [DV.i tx] ∧ True) ∧ True)) False) (k (.t [.r [.i .i64, .i .i64, .i .i64, .i .i64] [DV.i 0, DV.i 0, DV.i 0, DV.i 0], .c (.b false)]) [] 0))
  := by kernel_rfl
theorem vc168 (hs ws : List G) (i : Nat) (k : KVk) : dbody Tryz.prog (dcall Tryz.prog T62 ixG 5) [] true 168 (argVs (psF Tryz.prog 168) [lkR hs ws, [.i (Int.ofNat i)]]) [] 0 k = (∃ (I : Nat →
  Prop) (μ : Nat → Nat), (∃ j, I j ∧ (0 = Int.ofNat j ∧ True) ∧ ([DV.sl (gsR hs), DV.sl (gsR ws)] = [DV.sl (gsR hs), DV.sl (gsR ws)] ∧ [DV.i (Int.ofNat i)] = [DV.i (Int.ofNat i)] ∧ True) ∧ True) ∧ ∀ (j : Nat), I j → fk
  (ilt (Int.ofNat j) (ln (gsR hs))) (fk (inR (Int.ofNat j) (ln (gsR hs))) (fk (inR (Int.ofNat i) (ln (gsR ws))) (∃ a b, [rw' (gsR hs) (tn (Int.ofNat j)), rw' (gsR ws) (tn (Int.ofNat i))] = [[DV.i a.tx, DV.i a.page, DV.i
  a.slot, DV.i a.mode], [DV.i b.tx, DV.i b.page, DV.i b.slot, DV.i b.mode]] ∧ fk (confB a b) (fk (ile 0 (Int.ofNat j)) (k (.c (.b true)) [] 0) (fk (an true (an (ile 0 (Int.ofNat i)) (ile (Int.ofNat i) (ln (gsR ws))))) (∃
  (I : Nat → Prop) (μ : Nat → Nat), (∃ j, I j ∧ (0 = Int.ofNat j ∧ True) ∧ ([DV.sl (gsR hs), DV.sl (gsR ws)] = [DV.sl (gsR hs), DV.sl (gsR ws)] ∧ [DV.i (Int.ofNat i)] = [DV.i (Int.ofNat i)] ∧ True) ∧ True) ∧ ∀ (j : Nat),
  I j → fk (ilt (Int.ofNat j) (ln (lsub (gsR ws) 0 (Int.ofNat i)))) (fk (inR (Int.ofNat j) (ln (lsub (gsR ws) 0 (Int.ofNat i)))) (fk (inR (Int.ofNat i) (ln (gsR ws))) (∃ a b, [rw' (lsub (gsR ws) 0 (Int.ofNat i)) (tn
  (Int.ofNat j)), rw' (gsR ws) (tn (Int.ofNat i))] = [[DV.i a.tx, DV.i a.page, DV.i a.slot, DV.i a.mode], [DV.i b.tx, DV.i b.page, DV.i b.slot, DV.i b.mode]] ∧ fk (confB a b) (k (.c (.b (ile 0 (Int.ofNat j)))) [] 0) (∃
  j', I j' ∧ lessN (μ j') (μ j) ∧ (wr .i64 (xadd (Int.ofNat j) 1) = Int.ofNat j' ∧ True) ∧ ([DV.sl (gsR hs), DV.sl (gsR ws)] = [DV.sl (gsR hs), DV.sl (gsR ws)] ∧ [DV.i (Int.ofNat i)] = [DV.i (Int.ofNat i)] ∧ True) ∧
  True)) False) False) (k (.c (.b false)) [] 0)) False)) (∃ j', I j' ∧ lessN (μ j') (μ j) ∧ (wr .i64 (xadd (Int.ofNat j) 1) = Int.ofNat j' ∧ True) ∧ ([DV.sl (gsR hs), DV.sl (gsR ws)] = [DV.sl (gsR hs), DV.sl (gsR ws)] ∧
  [DV.i (Int.ofNat i)] = [DV.i (Int.ofNat i)] ∧ True) ∧ True)) False) False) (fk (an true (an (ile 0 (Int.ofNat i)) (ile (Int.ofNat i) (ln (gsR ws))))) (∃ (I : Nat → Prop) (μ : Nat → Nat), (∃ j, I j ∧ (0 = Int.ofNat j ∧
  True) ∧ ([DV.sl (gsR hs), DV.sl (gsR ws)] = [DV.sl (gsR hs), DV.sl (gsR ws)] ∧ [DV.i (Int.ofNat i)] = [DV.i (Int.ofNat i)] ∧ True) ∧ True) ∧ ∀ (j : Nat), I j → fk (ilt (Int.ofNat j) (ln (lsub (gsR ws) 0 (Int.ofNat
  i)))) (fk (inR (Int.ofNat j) (ln (lsub (gsR ws) 0 (Int.ofNat i)))) (fk (inR (Int.ofNat i) (ln (gsR ws))) (∃ a b, [rw' (lsub (gsR ws) 0 (Int.ofNat i)) (tn (Int.ofNat j)), rw' (gsR ws) (tn (Int.ofNat i))] = [[DV.i a.tx,
  DV.i a.page, DV.i a.slot, DV.i a.mode], [DV.i b.tx, DV.i b.page, DV.i b.slot, DV.i b.mode]] ∧ fk (confB a b) (k (.c (.b (ile 0 (Int.ofNat j)))) [] 0) (∃ j', I j' ∧ lessN (μ j') (μ j) ∧ (wr .i64 (xadd (Int.ofNat j) 1) =
  Int.ofNat j' ∧ True) ∧ ([DV.sl (gsR hs), DV.sl (gsR ws)] = [DV.sl (gsR hs), DV.sl (gsR ws)] ∧ [DV.i (Int.ofNat i)] = [DV.i (Int.ofNat i)] ∧ True) ∧ True)) False) False) (k (.c (.b false)) [] 0)) False)) := by
  kernel_rfl
theorem vc121 (hs ws : List G) (g : G) (k : KVk) : dbody Tryz.prog (dcall Tryz.prog T168 (fun _ => []) 5) [(5, lpI 20)] true 121 (argVs (psF Tryz.prog 121) [lkR hs ws, gR g]) [] 0 k = (∃ hs_1 ws_1 t,
  LkS hs_1 ∧ [[DV.sl (gsR hs), DV.sl (gsR ws)], [DV.i g.tx], [DV.i g.page, DV.i g.slot]] = [[DV.sl (gsR hs_1), DV.sl (gsR ws_1)], [DV.i t.tx], [DV.i t.page, DV.i t.slot]] ∧ fk (ieq (modeX hs_1 t) 0) (k (.c (.i .i64 (ln
  (gsR ws)))) [] 0) (∃ (I : Nat → Prop) (μ : Nat → Nat), (∃ j, I j ∧ (0 = Int.ofNat j ∧ True) ∧ ([DV.i g.tx, DV.i g.page, DV.i g.slot, DV.i g.mode] = [DV.i g.tx, DV.i g.page, DV.i g.slot, DV.i g.mode] ∧ [DV.sl (gsR hs),
  DV.sl (gsR ws)] = [DV.sl (gsR hs), DV.sl (gsR ws)] ∧ True) ∧ True) ∧ ∀ (j : Nat), I j → fk (ilt (Int.ofNat j) (ln (gsR ws))) (fk (inR (Int.ofNat j) (ln (gsR ws))) (fk (nt (ieq (ri (rw' (gsR ws) (tn (Int.ofNat j))) 0)
  g.tx)) (fk (an (ieq (ri (rw' (gsR ws) (tn (Int.ofNat j))) 1) g.2) (an (ieq (ri (rw' (gsR ws) (tn (Int.ofNat j))) 2) g.3) true)) (∃ hs_2 ws_2 t, LkS hs_2 ∧ [[DV.sl (gsR hs), DV.sl (gsR ws)], [DV.i (ri (rw' (gsR ws) (tn
  (Int.ofNat j))) 0)], [DV.i (ri (rw' (gsR ws) (tn (Int.ofNat j))) 1), DV.i (ri (rw' (gsR ws) (tn (Int.ofNat j))) 2)]] = [[DV.sl (gsR hs_2), DV.sl (gsR ws_2)], [DV.i t.tx], [DV.i t.page, DV.i t.slot]] ∧ fk (ieq (modeX
  hs_2 t) 0) (k (.c (.i .i64 (Int.ofNat j))) [] 0) (∃ j', I j' ∧ lessN (μ j') (μ j) ∧ (wr .i64 (xadd (Int.ofNat j) 1) = Int.ofNat j' ∧ True) ∧ ([DV.i g.tx, DV.i g.page, DV.i g.slot, DV.i g.mode] = [DV.i g.tx, DV.i
  g.page, DV.i g.slot, DV.i g.mode] ∧ [DV.sl (gsR hs), DV.sl (gsR ws)] = [DV.sl (gsR hs), DV.sl (gsR ws)] ∧ True) ∧ True)) (∃ j', I j' ∧ lessN (μ j') (μ j) ∧ (wr .i64 (xadd (Int.ofNat j) 1) = Int.ofNat j' ∧ True) ∧
  ([DV.i g.tx, DV.i g.page, DV.i g.slot, DV.i g.mode] = [DV.i g.tx, DV.i g.page, DV.i g.slot, DV.i g.mode] ∧ [DV.sl (gsR hs), DV.sl (gsR ws)] = [DV.sl (gsR hs), DV.sl (gsR ws)] ∧ True) ∧ True)) (∃ j', I j' ∧ lessN (μ j')
  (μ j) ∧ (wr .i64 (xadd (Int.ofNat j) 1) = Int.ofNat j' ∧ True) ∧ ([DV.i g.tx, DV.i g.page, DV.i g.slot, DV.i g.mode] = [DV.i g.tx, DV.i g.page, DV.i g.slot, DV.i g.mode] ∧ [DV.sl (gsR hs), DV.sl (gsR ws)] = [DV.sl (gsR
  hs), DV.sl (gsR ws)] ∧ True) ∧ True)) False) (k (.c (.i .i64 (ln (gsR ws)))) [] 0))) := by kernel_rfl
theorem vc122 (hs ws : List G) (k : KVk) : dbody Tryz.prog (dcall Tryz.prog T120 (fun _ => []) 5) [(3, .e (List G × List G × Bool) (fun j => [(3, .c (.b j.2.2))]) (fun j => [(2, .E [.ow 4, .ow 5]), (4, .W shG (gsR j.1)),
  (5, .W shG (gsR j.2.1))]) 2 [0, 1]), (6, .e (List G × List G × Nat × Bool) (fun j => [(4, .c (.i .i64 (Int.ofNat j.2.2.1))), (3, .c (.b j.2.2.2))]) (fun j => [(2, .E [.ow 6, .ow 7]), (6, .W shG (gsR j.1)), (7, .W shG
  (gsR j.2.1))]) 2 [4, 5])] false 122 [.a [.ow 0, .ow 1]] [(0, .W shG (gsR hs)), (1, .W shG (gsR ws))] 2 k = (∃ (I : List G × List G × Bool → Prop) (μ : List G × List G × Bool → Nat), (∃ j, I j ∧ (true =
  j.snd.snd ∧ True) ∧ ((True ∧ True ∧ True) ∧ gsR hs = gsR j.fst ∧ gsR ws = gsR j.snd.fst ∧ [DV.sl [], DV.sl []] = [DV.sl [], DV.sl []] ∧ True) ∧ True) ∧ ∀ (j : List G × List G × Bool), I j → fk j.snd.snd (∃ (I_1 : List
  G × List G × Nat × Bool → Prop) (μ_1 : List G × List G × Nat × Bool → Nat), (∃ j_1, I_1 j_1 ∧ (0 = Int.ofNat j_1.snd.snd.fst ∧ false = j_1.snd.snd.snd ∧ True) ∧ ((True ∧ True ∧ True) ∧ gsR j.fst = gsR j_1.fst ∧ gsR
  j.snd.fst = gsR j_1.snd.fst ∧ [DV.sl [], DV.sl []] = [DV.sl [], DV.sl []] ∧ True) ∧ True) ∧ ∀ (j_1 : List G × List G × Nat × Bool), I_1 j_1 → fk (ilt (Int.ofNat j_1.snd.snd.fst) (ln (gsR j_1.snd.fst))) (∃ hs ws i, BlV
  hs ws i ∧ [[DV.sl (gsR j_1.fst), DV.sl (gsR j_1.snd.fst)], [DV.i (Int.ofNat j_1.snd.snd.fst)]] = [[DV.sl (gsR hs), DV.sl (gsR ws)], [DV.i (Int.ofNat i)]] ∧ fk (blkB hs ws i) (∃ j', I_1 j' ∧ lessN (μ_1 j') (μ_1 j_1) ∧
  (wr .i64 (xadd (Int.ofNat j_1.snd.snd.fst) 1) = Int.ofNat j'.snd.snd.fst ∧ j_1.snd.snd.snd = j'.snd.snd.snd ∧ True) ∧ ((True ∧ True ∧ True) ∧ gsR j_1.fst = gsR j'.fst ∧ gsR j_1.snd.fst = gsR j'.snd.fst ∧ [DV.sl [],
  DV.sl []] = [DV.sl [], DV.sl []] ∧ True) ∧ True) (fk (inR (Int.ofNat j_1.snd.snd.fst) (ln (gsR j_1.snd.fst))) (fk (nlt (tn (Int.ofNat j_1.snd.snd.fst)) (gsR j_1.snd.fst)) (fk (an (ile 0 (Int.ofNat j_1.snd.snd.fst)) (an
  (ilt (Int.ofNat j_1.snd.snd.fst) (wr .i64 (xadd (Int.ofNat j_1.snd.snd.fst) 1))) (ile (wr .i64 (xadd (Int.ofNat j_1.snd.snd.fst) 1)) (ln (gsR j_1.snd.fst))))) (∃ hs t, LkS hs ∧ [[DV.sl (gsR j_1.fst)], [DV.i (ri (rw'
  (gsR j_1.snd.fst) (tn (Int.ofNat j_1.snd.snd.fst))) 0)], [DV.i (ri (rw' (gsR j_1.snd.fst) (tn (Int.ofNat j_1.snd.snd.fst))) 1), DV.i (ri (rw' (gsR j_1.snd.fst) (tn (Int.ofNat j_1.snd.snd.fst))) 2)]] = [[DV.sl (gsR
  hs)], [DV.i t.tx], [DV.i t.page, DV.i t.slot]] ∧ ∀ (i : Nat), Wp.Found hs t i → fk (hitX hs t i) (fk (inR (Int.ofNat i) (ln (gsR j_1.fst))) (fk (nlt (tn (Int.ofNat i)) (gsR j_1.fst)) (∃ j', I_1 j' ∧ lessN (μ_1 j') (μ_1
  j_1) ∧ (Int.ofNat j_1.snd.snd.fst = Int.ofNat j'.snd.snd.fst ∧ true = j'.snd.snd.snd ∧ True) ∧ ((True ∧ True ∧ True) ∧ lst (gsR j_1.fst) (tn (Int.ofNat i)) [DV.i (ri (rw' (gsR j_1.fst) (tn (Int.ofNat i))) 0), DV.i (ri
  (rw' (gsR j_1.fst) (tn (Int.ofNat i))) 1), DV.i (ri (rw' (gsR j_1.fst) (tn (Int.ofNat i))) 2), DV.i (ri (rw' (gsR j_1.snd.fst) (tn (Int.ofNat j_1.snd.snd.fst))) 3)] = gsR j'.fst ∧ ldel (gsR j_1.snd.fst) (Int.ofNat
  j_1.snd.snd.fst) (wr .i64 (xadd (Int.ofNat j_1.snd.snd.fst) 1)) = gsR j'.snd.fst ∧ [DV.sl [], DV.sl []] = [DV.sl [], DV.sl []] ∧ True) ∧ True) False) False) (fk (an (ile 0 (Int.ofNat i)) (ile (Int.ofNat i) (ln (gsR
  j_1.fst)))) (fk (apOk 32 (gsR j_1.fst) [[DV.i (ri (rw' (gsR j_1.snd.fst) (tn (Int.ofNat j_1.snd.snd.fst))) 0), DV.i (ri (rw' (gsR j_1.snd.fst) (tn (Int.ofNat j_1.snd.snd.fst))) 1), DV.i (ri (rw' (gsR j_1.snd.fst) (tn
  (Int.ofNat j_1.snd.snd.fst))) 2), DV.i (ri (rw' (gsR j_1.snd.fst) (tn (Int.ofNat j_1.snd.snd.fst))) 3)]]) (∃ j', I_1 j' ∧ lessN (μ_1 j') (μ_1 j_1) ∧ (Int.ofNat j_1.snd.snd.fst = Int.ofNat j'.snd.snd.fst ∧ true =
  j'.snd.snd.snd ∧ True) ∧ ((True ∧ True ∧ True) ∧ lins (gsR j_1.fst) (Int.ofNat i) [DV.i (ri (rw' (gsR j_1.snd.fst) (tn (Int.ofNat j_1.snd.snd.fst))) 0), DV.i (ri (rw' (gsR j_1.snd.fst) (tn (Int.ofNat j_1.snd.snd.fst)))
  1), DV.i (ri (rw' (gsR j_1.snd.fst) (tn (Int.ofNat j_1.snd.snd.fst))) 2), DV.i (ri (rw' (gsR j_1.snd.fst) (tn (Int.ofNat j_1.snd.snd.fst))) 3)] = gsR j'.fst ∧ ldel (gsR j_1.snd.fst) (Int.ofNat j_1.snd.snd.fst) (wr .i64
  (xadd (Int.ofNat j_1.snd.snd.fst) 1)) = gsR j'.snd.fst ∧ [DV.sl [], DV.sl []] = [DV.sl [], DV.sl []] ∧ True) ∧ True) False) False)) False) False) False)) (∃ j', I j' ∧ lessN (μ j') (μ j) ∧ (j_1.snd.snd.snd = j'.snd.snd
  ∧ True) ∧ ((True ∧ True ∧ True) ∧ gsR j_1.fst = gsR j'.fst ∧ gsR j_1.snd.fst = gsR j'.snd.fst ∧ [DV.sl [], DV.sl []] = [DV.sl [], DV.sl []] ∧ True) ∧ True)) (k (.a [.ow 4, .ow 5]) [(4, .W [.i .i64, .i .i64, .i .i64, .i
  .i64] (gsR j.fst)), (5, .W [.i .i64, .i .i64, .i .i64, .i .i64] (gsR j.snd.fst))] 6)) := by kernel_rfl
theorem find_at {α : Type} {l : List α} {p : α → Bool} {i : Nat} {x : α} (hx : l[i]? = some x) (hp : p x = true) (hb : ∀ (j : Nat) (y : α), j < i → l[j]? = some y → p y = false) : l.find? p = some x := by
  rw [List.find?_eq_some_iff_getElem]
  refine ⟨hp, i, (List.getElem?_eq_some_iff.1 hx).1, (List.getElem?_eq_some_iff.1 hx).2, fun j hj => ?_⟩
  rw [hb j _ hj (List.getElem?_eq_getElem _)]
  rfl
theorem find_no {α : Type} {l : List α} {p : α → Bool} (hb : ∀ (j : Nat) (y : α), l[j]? = some y → p y = false) : l.find? p = none := by
  rw [List.find?_eq_none]
  intro x hx
  obtain ⟨j, hj⟩ := List.getElem?_of_mem hx
  simp [hb j x hj]
theorem any_no {α : Type} {l : List α} {p : α → Bool} (hb : ∀ (j : Nat) (y : α), l[j]? = some y → p y = false) : l.any p = false := by
  rw [List.any_eq_false]
  intro x hx
  obtain ⟨j, hj⟩ := List.getElem?_of_mem hx
  simp [hb j x hj]
theorem up_to {α : Type} {l : List α} {p : α → Bool} {i : Nat} {x : α} (hx : l[i]? = some x) (hp : p x = false) (hb : ∀ (j : Nat) (y : α), j < i → l[j]? = some y → p y = false) : ∀ (j : Nat) (y : α), j < i + 1 → l[j]? = some y → p y = false := fun j y hj hy => by
  rcases Nat.lt_or_eq_of_le (Nat.le_of_lt_succ hj) with h | h
  · exact hb j y h hy
  · subst h; rw [hx] at hy; cases hy; exact hp
theorem all_of {α : Type} {l : List α} {p : α → Bool} (hb : ∀ (j : Nat) (y : α), j < l.length → l[j]? = some y → p y = false) : ∀ (j : Nat) (y : α), l[j]? = some y → p y = false := fun j y hy => hb j y (List.getElem?_eq_some_iff.1 hy).1 hy
theorem ok62 : CtOk Tryz.prog T62 := by
  refine ct_cons ok42 (fz := true) fun rs k h => ?_
  obtain ⟨hs, ws, tx, hv, rfl, hk⟩ := h
  have hl := hv.len
  refine ⟨_, _, _, (vc62 hs ws tx k).mpr ?_⟩
  refine ⟨fun j => j ≤ ws.length ∧ _, fun j => ws.length - j, range_e (ln_gs ws) (Inv := fun j => ∀ (i : Nat) (x : G), i < j → ws[i]? = some x → (x.tx == tx) = false) ⟨rfl, trivial⟩ (by omega) (fun i x h => absurd h (Nat.not_lt_zero _)) (fun i hi hb nx => ?_) fun hb => ?_⟩
  · obtain ⟨x, hx⟩ := at_lt hi
    rw [tn_ofNat, gs_at hx, gR_0]
    refine fk_of (fun e => ?_) fun e => nx (up_to hx (by simpa using ieq_f e) hb)
    refine fk_n (by (first | rfl | (simp (disch := omega) only [FS, eq_self, List.length_cons, List.length_nil, true_and, and_true, ssz, xadd, xsub, xmul, xmin, xmax] <;> omega) | omega)) ⟨hs, ws, hv, rfl, fk_t (by (first | rfl | (simp (disch := omega) only [FS, eq_self, List.length_cons, List.length_nil, true_and, and_true, ssz, xadd, xsub, xmul, xmin, xmax] <;> omega) | omega)) ?_⟩
    have e1 : wtR ws tx = gR x := by unfold wtR; rw [find_at hx (by simpa using ieq_t e) hb]
    have e2 : wtB ws tx = true := List.any_eq_true.2 ⟨x, List.mem_of_getElem? hx, by simpa using ieq_t e⟩
    rw [e1, e2] at hk; exact hk
  · have e1 : wtR ws tx = [.i 0, .i 0, .i 0, .i 0] := by unfold wtR; rw [find_no (all_of hb)]
    have e2 : wtB ws tx = false := any_no (all_of hb)
    rw [e1, e2] at hk; exact hk
theorem ok168 : CtOk Tryz.prog T168 := by
  refine ct_cons ok62 (fz := true) fun rs k h => ?_
  obtain ⟨hs, ws, i, hv, rfl, hk⟩ := h
  have hl := hv.len
  have hi := hv.lt
  obtain ⟨g, hg⟩ := at_lt hi
  refine ⟨_, _, _, (vc168 hs ws i k).mpr ?_⟩
  have hk : k (.c (.b (blockedB hs ws i))) [] 0 := hk
  unfold blockedB at hk
  rw [hg] at hk
  dsimp only at hk
  rw [gs_sub, tn_ofNat, gs_at hg]
  refine ⟨fun j => j ≤ hs.length ∧ _, fun j => hs.length - j, range_e (ln_gs hs) (Inv := fun j => ∀ (i : Nat) (x : G), i < j → hs[i]? = some x → conflictB x g = false) ⟨rfl, rfl, trivial⟩ (by omega) (fun i x h => absurd h (Nat.not_lt_zero _)) (fun j hj hb nx => ?_) fun hb => ?_⟩
  · obtain ⟨x, hx⟩ := at_lt hj
    rw [tn_ofNat, gs_at hx]
    refine fk_t (by (first | rfl | (simp (disch := omega) only [FS, eq_self, List.length_cons, List.length_nil, true_and, and_true, ssz, xadd, xsub, xmul, xmin, xmax] <;> omega) | omega)) ⟨x, g, rfl, fk_of (fun e => fk_t (by (first | rfl | (simp (disch := omega) only [FS, eq_self, List.length_cons, List.length_nil, true_and, and_true, ssz, xadd, xsub, xmul, xmin, xmax] <;> omega) | omega)) ?_) fun e => nx (up_to hx e hb)⟩
    rw [List.any_eq_true.2 ⟨x, List.mem_of_getElem? hx, e⟩] at hk; exact hk
  · rw [any_no (all_of hb)] at hk
    refine fk_t (by (first | rfl | (simp (disch := omega) only [FS, eq_self, List.length_cons, List.length_nil, true_and, and_true, ssz, xadd, xsub, xmul, xmin, xmax] <;> omega) | omega)) ?_
    refine ⟨fun j => j ≤ (ws.take i).length ∧ _, fun j => (ws.take i).length - j, range_e (ln_gs _) (Inv := fun j => ∀ (q : Nat) (x : G), q < j → (ws.take i)[q]? = some x → conflictB x g = false) ⟨rfl, rfl, trivial⟩ (by rw [List.length_take]; omega) (fun i x h => absurd h (Nat.not_lt_zero _)) (fun j hj hb nx => ?_) fun hb => ?_⟩
    · obtain ⟨x, hx⟩ := at_lt hj
      rw [tn_ofNat, gs_at hx]
      refine fk_t (by (first | rfl | (simp (disch := omega) only [FS, eq_self, List.length_cons, List.length_nil, true_and, and_true, ssz, xadd, xsub, xmul, xmin, xmax] <;> omega) | omega)) ⟨x, g, rfl, fk_of (fun e => ?_) fun e => nx (up_to hx e hb)⟩
      rw [List.any_eq_true.2 ⟨x, List.mem_of_getElem? hx, e⟩] at hk
      rw [show ile 0 (Int.ofNat j) = true by (first | rfl | (simp (disch := omega) only [FS, eq_self, List.length_cons, List.length_nil, true_and, and_true, ssz, xadd, xsub, xmul, xmin, xmax] <;> omega) | omega)]; exact hk
    · rw [any_no (all_of hb)] at hk; exact hk
theorem ok121 : CtOk Tryz.prog T121 := by
  refine ct_cons ok168 (fz := true) fun rs k h => ?_
  obtain ⟨hs, ws, g, hv, rfl, hk⟩ := h
  have hl := hv.len
  refine ⟨_, _, _, (vc121 hs ws g k).mpr ?_⟩
  have hk : k (.c (.i .i64 (Int.ofNat (placeF hs ws g)))) [] 0 := hk
  unfold placeF at hk
  refine ⟨hs, ws, g, hv.s, rfl, fk_of (fun e => ?_) fun e => ?_⟩
  · have e : modeF hs g = 0 := ieq_t e
    rw [if_pos e] at hk
    rw [ln_gs]; exact hk
  · have e : modeF hs g ≠ 0 := ieq_f e
    rw [if_neg e] at hk
    refine ⟨fun j => j ≤ ws.length ∧ _, fun j => ws.length - j, range_e (ln_gs ws) (Inv := fun j => ∀ (i : Nat) (x : G), i < j → ws[i]? = some x → placeP hs g x = false) ⟨rfl, rfl, trivial⟩ (by omega) (fun i x h => absurd h (Nat.not_lt_zero _)) (fun j hj hb nx => ?_) fun hb => ?_⟩
    · obtain ⟨x, hx⟩ := at_lt hj
      rw [tn_ofNat, gs_at hx]
      have no : placeP hs g x = false → _ := fun h => nx (up_to hx h hb)
      refine fk_of (fun e1 => fk_of (fun e2 => ⟨hs, ws, x, hv.s, rfl, fk_of (fun e3 => ?_) fun e3 => no ?_⟩) fun e2 => no ?_) fun e1 => no ?_
      · have hp : placeP hs g x = true := by
          unfold placeP sameLock
          simp only [gR_0, gR_1, gR_2, nt_T, ieq_F, an_T, ieq_T] at e1 e2
          have e3 : modeF hs x = 0 := ieq_t e3
          simp [e1, e2.1, e2.2.1, e3]
        have : ws.findIdx? (placeP hs g) = some j := by
          rw [List.findIdx?_eq_some_iff_getElem]
          refine ⟨hj, by rw [(List.getElem?_eq_some_iff.1 hx).2]; exact hp, fun q hq => ?_⟩
          rw [hb q _ hq (List.getElem?_eq_getElem _)]
          simp
        rw [this] at hk; exact hk
      · have e3 : modeF hs x ≠ 0 := ieq_f e3
        unfold placeP; simp [e3]
      · unfold placeP sameLock
        simp only [gR_0, gR_1, gR_2, an_F, ieq_F, Bool.true_eq_false, or_false] at e2
        rcases e2 with e2 | e2 <;> simp [e2]
      · unfold placeP
        simp only [gR_0, nt_F, ieq_T] at e1
        simp [e1]
    · have : ws.findIdx? (placeP hs g) = none := by
        rw [List.findIdx?_eq_none_iff]
        intro x hx
        obtain ⟨q, hq⟩ := List.getElem?_of_mem hx
        exact all_of hb q x hq
      rw [this] at hk
      rw [ln_gs]; exact hk
end Go.Proofs.YtgjindhjgmplgaaGreat
end
section
set_option maxRecDepth 100000
namespace Go.Proofs.YtgjindhjgmplgaaGreat
open Wp
theorem ok165 : CtOk Tryz.prog T165 := ok121.cons (clone_ok (dcall_ok ok121 (LT := fun _ => []) 5) (e := shG) (by_ := 32) fun gs k => by kernel_rfl)
theorem ok169 : CtOk Tryz.prog T169 := ok165.cons (del_ok (dcall_ok ok165 (LT := fun _ => []) 5) (e := shG) (by_ := 32) (zr := [.i 0, .i 0, .i 0, .i 0]) fun gs i j k => by kernel_rfl)
theorem ok120 : CtOk Tryz.prog T120 := ok169.cons (ins_okG (dcall_ok ok169 (LT := fun _ => []) 5) (e := shG) (by_ := 32) (zr := [.i 0, .i 0, .i 0, .i 0]) fun gs i g k => by kernel_rfl)
theorem ct_raw {P : Program} {T : Ct} (hT : CtOk P T) {f : Nat} {g : List V → Mem → Nat → KVk → Prop} (h : ∀ vs E nx k, g vs E nx k → ∃ lp LT n fz, dbody P (dcall P T LT n) lp fz f vs E nx k) : CtOk P ((f, g) :: T) := by
  refine hT.cons fun vs E nx k hk => ?_
  obtain ⟨lp, LT, n, fz, h⟩ := h vs E nx k hk
  exact dbody_ok (dcall_ok hT n) h
theorem gs_del (l : List G) (i : Nat) (hi : i < 1048576) : ldel (gsR l) (Int.ofNat i) (wr .i64 (xadd (Int.ofNat i) 1)) = gsR (l.eraseIdx i) := by
  have e : wr .i64 (xadd (Int.ofNat i) 1) = ((i + 1 : Nat) : Int) := by
    unfold xadd
    rw [wr_id (by simp; omega) (by simp; omega)]
    simp
  rw [e]
  unfold ldel gsR
  rw [List.eraseIdx_eq_take_drop_succ, List.map_append, List.map_take, List.map_drop]
  rfl
theorem gs_set (l : List G) (i : Nat) (g : G) : lst (gsR l) i (gR g) = gsR (l.set i g) := by
  unfold lst gsR
  rw [List.map_set]
theorem gs_ins (l : List G) (i : Nat) (g : G) : lins (gsR l) (Int.ofNat i) (gR g) = gsR (l.take i ++ g :: l.drop i) := by
  unfold lins gsR
  rw [List.map_append, List.map_cons, List.map_take, List.map_drop]
  rfl
theorem ok122 : CtOk Tryz.prog T122 := by
  refine ct_raw ok120 fun vs E nx k h => ?_
  unfold g122 at h
  split at h
  · rename_i e hr e' wr
    obtain ⟨h1, hs, ws, hv, rfl, rfl, hk⟩ := fk_yes h
    obtain ⟨h2, h3⟩ := and2 h1
    have := shEq_eq _ _ h2
    subst this
    have := shEq_eq _ _ h3
    subst this
    refine ⟨_, _, _, _, (vc122 hs ws k).mpr ?_⟩
    refine ⟨fun j => j.1.Pairwise ltG ∧ j.1.length + j.2.1.length ≤ 1024 ∧ ∃ n, j.2.1.length + 1 ≤ n ∧ Wp.settle hs ws = if j.2.2 then settleF n j.1 j.2.1 else (j.1, j.2.1), fun j => if j.2.2 then j.2.1.length + 1 else 0,
      ⟨(hs, ws, true), ⟨hv.srt, hv.len, ws.length + 1, Nat.le_refl _, rfl⟩, ⟨rfl, trivial⟩, ⟨⟨trivial, trivial, trivial⟩, rfl, rfl, rfl, trivial⟩, trivial⟩, ?_⟩
    rintro ⟨h0, w0, c0⟩ ⟨hsrt, hlen, n, hn, hset⟩
    dsimp only at hsrt hlen hn hset ⊢
    refine fk_of (fun e => ?_) fun e => ?_
    · subst e
      rw [if_pos rfl] at hset
      refine ⟨fun j => j.1.Pairwise ltG ∧ j.1.length + j.2.1.length ≤ 1024 ∧ j.2.1.length ≤ w0.length ∧ (j.2.2.2 = true → j.2.1.length < w0.length) ∧ ∃ q, j.2.1.length ≤ q + j.2.2.1 ∧ passF w0.length h0 w0 0 false = passF q j.1 j.2.1 j.2.2.1 j.2.2.2, fun j => j.2.1.length - j.2.2.1,
        ⟨(h0, w0, 0, false), ⟨hsrt, hlen, Nat.le_refl _, (fun h => (by cases h)), w0.length, Nat.le_refl _, rfl⟩, ⟨rfl, rfl, trivial⟩, ⟨⟨trivial, trivial, trivial⟩, rfl, rfl, rfl, trivial⟩, trivial⟩, ?_⟩
      rintro ⟨h, w, i, c⟩ ⟨hsr, hl, hw0, hc, q, hq, hp⟩
      dsimp only at hsr hl hw0 hc hq hp ⊢
      refine fk_of (fun e => ?_) fun e => ?_
      · have hi : i < w.length := by have := ilt_t e; rw [ln_gs] at this; simpa using this
        obtain ⟨g, hg⟩ := at_lt hi
        obtain ⟨q, rfl⟩ : ∃ r, q = r + 1 := ⟨q - 1, by omega⟩
        rw [passF, hg] at hp
        dsimp only at hp
        refine ⟨h, w, i, ⟨hl, hi⟩, rfl, fk_of (fun e => ?_) fun e => ?_⟩
        · have e : blockedB h w i = true := e
          rw [if_pos e] at hp
          refine ⟨(h, w, i + 1, c), ⟨hsr, hl, hw0, hc, q, by dsimp only; omega, hp⟩, (by show w.length - (i + 1) < w.length - i; omega), ⟨?_, rfl, trivial⟩, ⟨⟨trivial, trivial, trivial⟩, rfl, rfl, rfl, trivial⟩, trivial⟩
          exact wr_id (n := (i : Int) + 1) (by omega) (by omega)
        · have e : blockedB h w i = false := e
          rw [if_neg (by rw [e]; exact Bool.false_ne_true)] at hp
          rw [gs_del _ _ (by omega), tn_ofNat, gs_at hg]
          have hle : (w.eraseIdx i).length = w.length - 1 := by rw [List.length_eraseIdx, if_pos hi]
          refine fk_t (by (first | rfl | (simp (disch := omega) only [FS, eq_self, List.length_cons, List.length_nil, true_and, and_true, ssz, xadd, xsub, xmul, xmin, xmax] <;> omega) | omega)) (fk_t (by unfold nlt; rw [gs_len]; exact decide_eq_true hi) (fk_t (by (first | rfl | (simp (disch := omega) only [FS, eq_self, List.length_cons, List.length_nil, true_and, and_true, ssz, xadd, xsub, xmul, xmin, xmax] <;> omega) | omega)) ⟨h, g, ⟨hsr, by omega⟩, rfl, fun a hF => ?_⟩))
          rw [tn_ofNat]
          refine fk_of (fun e => ?_) fun e => ?_
          · have e : hitB h g a = true := e
            have hput := put_hit hF e
            unfold hitB at e
            split at e
            · rename_i x hx
              have ha : a < h.length := (List.getElem?_eq_some_iff.1 hx).1
              have e := ordI_z.1 (by simpa using e : ordI x g = 0)
              rw [gs_at hx]
              refine fk_t (by (first | rfl | (simp (disch := omega) only [FS, eq_self, List.length_cons, List.length_nil, true_and, and_true, ssz, xadd, xsub, xmul, xmin, xmax] <;> omega) | omega)) (fk_t (by unfold nlt; rw [gs_len]; exact decide_eq_true ha) ?_)
              refine ⟨(putF g h, w.eraseIdx i, i, true), ⟨put_srt hsr, by dsimp only; rw [hput, List.length_set, hle]; omega, by dsimp only; rw [hle]; omega, fun _ => by dsimp only; rw [hle]; omega, q, by dsimp only; rw [hle]; omega, hp⟩, (by show (w.eraseIdx i).length - i < w.length - i; omega), ⟨rfl, rfl, trivial⟩, ⟨⟨trivial, trivial, trivial⟩, ?_, rfl, rfl, trivial⟩, trivial⟩
              dsimp only
              rw [hput, ← gs_set]
              congr 1
              show [DV.i x.tx, DV.i x.page, DV.i x.slot, DV.i g.mode] = [DV.i g.tx, DV.i g.page, DV.i g.slot, DV.i g.mode]
              rw [e.1, e.2.1, e.2.2]
            · cases e
          · have e : hitB h g a = false := e
            have hput := put_new hF e
            have hl2 : (putF g h).length = h.length + 1 := by
              have := hF.le
              rw [hput, List.length_append, List.length_cons, List.length_take, List.length_drop]
              omega
            have := hF.le
            refine fk_t (by (first | rfl | (simp (disch := omega) only [FS, eq_self, List.length_cons, List.length_nil, true_and, and_true, ssz, xadd, xsub, xmul, xmin, xmax] <;> omega) | omega)) (fk_t ?_ ?_)
            · unfold apOk
              rw [gs_len]
              simp only [Bool.and_eq_true, decide_eq_true_eq, List.length_cons, List.length_nil]
              omega
            · refine ⟨(putF g h, w.eraseIdx i, i, true), ⟨put_srt hsr, by dsimp only; rw [hl2, hle]; omega, by dsimp only; rw [hle]; omega, fun _ => by dsimp only; rw [hle]; omega, q, by dsimp only; rw [hle]; omega, hp⟩, (by show (w.eraseIdx i).length - i < w.length - i; omega), ⟨rfl, rfl, trivial⟩, ⟨⟨trivial, trivial, trivial⟩, ?_, rfl, rfl, trivial⟩, trivial⟩
              dsimp only
              rw [hput, ← gs_ins]
              rfl
      · have hi : w.length ≤ i := by have := ilt_f e; rw [ln_gs] at this; simpa using this
        have hp : passF w0.length h0 w0 0 false = (h, w, c) := by
          rw [hp]
          cases q with
          | zero => rfl
          | succ q => rw [passF, List.getElem?_eq_none hi]
        obtain ⟨n, rfl⟩ : ∃ r, n = r + 1 := ⟨n - 1, by omega⟩
        rw [settleF, hp] at hset
        dsimp only at hset
        refine ⟨(h, w, c), ⟨hsr, hl, ?_⟩, ?_, ⟨rfl, trivial⟩, ⟨⟨trivial, trivial, trivial⟩, rfl, rfl, rfl, trivial⟩, trivial⟩
        · cases c with
          | true => exact ⟨n, by have := hc rfl; dsimp only; omega, hset⟩
          | false => exact ⟨w.length + 1, Nat.le_refl _, hset⟩
        · show (if c then w.length + 1 else 0) < if true then w0.length + 1 else 0
          cases c with
          | true => have := hc rfl; simp; omega
          | false => simp
    · subst e
      have e1 : setH hs ws = h0 := by unfold setH; rw [hset]; rfl
      have e2 : setW hs ws = w0 := by unfold setW; rw [hset]; rfl
      rw [e1, e2] at hk
      exact hk
  · exact h.elim
end Go.Proofs.YtgjindhjgmplgaaGreat
end
