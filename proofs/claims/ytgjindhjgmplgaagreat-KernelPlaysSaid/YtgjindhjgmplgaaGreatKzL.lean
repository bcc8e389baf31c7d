/-
  KernelPlays: contracts of transactions.Find, place, Begin, Remove, with, Note, active, Save.
-/
import Derived.Test.YtgjindhjgmplgaaGreatKzK
set_option linter.unusedVariables false
set_option linter.unusedSimpArgs false
set_option maxRecDepth 100000
namespace Go.Proofs.YtgjindhjgmplgaaGreat
open Wp
def findT (ts : List TxR) (id : Int) : Int := match ts.findIdx? fun t => t.id == id with | some i => i | none => -1
def ixT : Nat → Lp := fun f => bif Nat.beq f 107 then [(3, lpI 8)] else []
def g55 (rs : List Row) (k : V → Prop) : Prop := ∃ (ts : List TxR) (id : Int), ts.length ≤ 64 ∧ rs = [[.sl (txsR ts)], [.i id]] ∧ k (.c (.i .i64 (findT ts id)))
def T55 : Ct := (55, ctF (psF Tryz.prog 55) g55) :: T43
structure PlV (ts : List TxR) (id : Int) : Prop where
  lt : ∀ t ∈ ts, t.id < id
  len : ts.length ≤ 64
def g58 (rs : List Row) (k : V → Prop) : Prop := ∃ (ts : List TxR) (id : Int), PlV ts id ∧ rs = [[.sl (txsR ts)], [.i id]] ∧ k (.c (.i .i64 (ln (txsR ts))))
def T58 : Ct := (58, ctF (psF Tryz.prog 58) g58) :: T55
def seF : Nat → Lp := fun f => bif Nat.beq f 116 then [(3, .e (Nat × Nat) (fun j => [(5, .c (.i .i64 (Int.ofNat j.1))), (6, .c (.i .i64 (Int.ofNat j.2)))]) (fun _ => []) 0 [])] else []
def insF : Nat → Lp := fun f => bif inB f [210] then [(0, .u 0)] else []
def T57 : Ct := (57, cloneG shTx 80) :: T58
def T56 : Ct := (56, insG shTx 80) :: T57
structure BgV (ts : List TxR) (id : Int) : Prop where
  v : TxsV ts
  lt : ∀ t ∈ ts, t.id < id
  i1 : 1 ≤ id
  i2 : id ≤ 1073741824
  len : ts.length < 64
def g22 (rs : List Row) (k : V → Prop) : Prop := ∃ (ts : List TxR) (id : Int), BgV ts id ∧ rs = [[.sl (txsR ts)], [.i id]] ∧ k (.t [.c (.sl shTx (txsR (ts ++ [newT id]))), .c (.i .i64 0)])
def T22 : Ct := (22, ctF (psF Tryz.prog 22) g22) :: T56
def gTxT (vs : List V) (E : Mem) (nx : Nat) (k : KVk) : Prop := match vs, E, nx with
  | [.r s r, .c (.pv 0 0)], [(0, .R s' c)], 1 => fk (shEq s shTx && shEq s' shInt) (∃ t, r = txR t ∧ k (.c (.b (ieq t.id (ri c 0)))) [(0, .R shInt c)] 1) False
  | _, _, _ => False
def T211 : Ct := (211, gTxT) :: T22
def dfT : Lp := [(6, .e (List TxR × Nat × Nat) (fun j => [(6, .c (.i .i64 (Int.ofNat j.2.2))), (5, .c (.i .i64 (Int.ofNat j.2.1)))]) (fun j => [(0, .W shTx (txsR j.1))]) 0 [])]
def clT : Nat → Lp := fun f => bif inB f [211] then [(0, .u 0)] else ixT f
def g210 (vs : List V) (E : Mem) (nx : Nat) (k : KVk) : Prop := match vs, E, nx with
  | [.c (.ow 0), .c (.fn f [1])], [(0, .W e r), (1, .R s c)], 2 => fk (inB f [211] && (shEq e shTx && shEq s shInt)) (∃ ts : List TxR, ts.length ≤ 64 ∧ r = txsR ts ∧ k (.c (.ow 2)) [(2, .W shTx (txsR (rmT ts (ri c 0)))), (1, .R shInt c)] 3) False
  | _, _, _ => False
def T210 : Ct := (210, g210) :: T211
def g178 (rs : List Row) (k : V → Prop) : Prop := ∃ (ts : List TxR) (id : Int), ts.length ≤ 64 ∧ rs = [[.sl (txsR ts)], [.i id]] ∧ k (.c (.sl shTx (txsR (rmT ts id))))
def T178 : Ct := (178, ctF (psF Tryz.prog 178) g178) :: T210
structure WiV (ts : List TxR) (t : TxR) : Prop where
  srt : ts.Pairwise fun a b => a.id < b.id
  len : ts.length ≤ 64
  has : ∃ s ∈ ts, s.id = t.id
def g141 (rs : List Row) (k : V → Prop) : Prop := ∃ (ts : List TxR) (t : TxR), WiV ts t ∧ rs = [[.sl (txsR ts)], txR t] ∧ k (.c (.sl shTx (txsR (setT ts t))))
def T141 : Ct := (141, ctF (psF Tryz.prog 141) g141) :: T178
def g182 (rs : List Row) (k : V → Prop) : Prop := ∃ (l : List Int) (x : Int), l.length ≤ 2048 ∧ rs = [[.sl (isR l)], [.i x]] ∧ ∀ (a : Int) (b : Bool), k (.t [.c (.i .i64 a), .c (.b b)])
def T182 : Ct := (182, ctF (psF Tryz.prog 182) g182) :: T141
def noG (vs : List V) (E : Mem) (nx : Nat) (k : KVk) : Prop := False
def T142 : Ct := (125, noG) :: (142, noG) :: (183, noG) :: T182
def noteL : Lp := [(1015, .e Unit (fun _ => []) (fun _ => []) 0 [])]
def noteT (ts : List TxR) (n : Int) (e : En) : List TxR := if e.tx = 0 then ts else if e.kind = 3 then rmT ts e.tx else match ts.find? fun t => t.id == e.tx with
  | none => ts
  | some t => if e.kind = 1 then setT ts { t with last := n, pend := t.pend ++ [n] } else setT ts { t with state := 3, last := n, saves := [] }
def svT (ts : List TxR) (t : TxR) : List TxR := setT ts { t with saves := t.saves ++ [t.last] }
structure NoV (ts : List TxR) (n : Int) (e : En) : Prop where
  v : TxsV ts
  ev : EnV n e
  pl : ∀ t ∈ ts, t.pend.length < 2048
  k : e.kind = 1 ∨ e.kind = 3 ∨ e.kind = 4 ∨ e.kind = 7
  has : e.tx ≠ 0 → ∃ t ∈ ts, t.id = e.tx ∧ t.state = 1 ∧ e.ptx = t.last
def g133 (rs : List Row) (k : V → Prop) : Prop := ∃ (ts : List TxR) (n : Int) (e : En), NoV ts n e ∧ rs = [[.sl (txsR ts)], enR n e] ∧ k (.t [.c (.sl shTx (txsR (noteT ts n e))), .c (.i .i64 0)])
def T133 : Ct := (133, ctF (psF Tryz.prog 133) g133) :: T142
structure SvV (ts : List TxR) (t : TxR) : Prop where
  v : TxsV ts
  m : t ∈ ts
  a : t.state = 1
def g139 (rs : List Row) (k : V → Prop) : Prop := ∃ (ts : List TxR) (t : TxR), SvV ts t ∧ rs = [[.sl (txsR ts)], [.i t.id]] ∧ k (.t [.r shTx (txR t), .c (.i .i64 0)])
def T139 : Ct := (139, ctF (psF Tryz.prog 139) g139) :: T133
def g76 (rs : List Row) (k : V → Prop) : Prop := ∃ (ts : List TxR) (t : TxR), SvV ts t ∧ rs = [[.sl (txsR ts)], [.i t.id]] ∧ fk (ieq (ln (isR t.saves)) 8) (k (.t [.c (.sl shTx []), .c (.i .i64 21)])) (k (.t [.c (.sl shTx (txsR (svT ts t))), .c (.i .i64 0)]))
def T76 : Ct := (76, ctF (psF Tryz.prog 76) g76) :: T139
theorem vc55 (ts : List TxR) (id : Int) (k : KVk) : dbody Tryz.prog (dcall Tryz.prog T43 ixT 5) [] true 55 (argVs (psF Tryz.prog 55) [[.sl (txsR ts)], [.i id]]) [] 0 k = (∃ (I : Nat →
  Prop) (μ : Nat → Nat), (∃ j, I j ∧ (0 = Int.ofNat j ∧ True) ∧ ([DV.i id] = [DV.i id] ∧ True) ∧ True) ∧ ∀ (j : Nat), I j → fk (ilt (Int.ofNat j) (ln (txsR ts))) (fk (inR (Int.ofNat j) (ln (txsR ts))) (fk (ieq (ri (rw'
  (txsR ts) (tn (Int.ofNat j))) 0) id) (k (.c (.i .i64 (Int.ofNat j))) [] 0) (∃ j', I j' ∧ lessN (μ j') (μ j) ∧ (wr .i64 (xadd (Int.ofNat j) 1) = Int.ofNat j' ∧ True) ∧ ([DV.i id] = [DV.i id] ∧ True) ∧ True)) False) (k
  (.c (.i .i64 (-1))) [] 0)) := by kernel_rfl
theorem vc58 (ts : List TxR) (id : Int) (k : KVk) : dbody Tryz.prog (dcall Tryz.prog T55 seF 5) [] true 58 (argVs (psF Tryz.prog 58) [[.sl (txsR ts)], [.i id]]) [] 0 k = (∃ (I : Nat ×
  Nat → Prop) (μ : Nat × Nat → Nat), (∃ j, I j ∧ (0 = Int.ofNat j.fst ∧ ln (txsR ts) = Int.ofNat j.snd ∧ True) ∧ ([DV.sl (txsR ts)] = [DV.sl (txsR ts)] ∧ [DV.i id] = [DV.i id] ∧ True) ∧ True) ∧ ∀ (j : Nat × Nat), I j →
  fk (ilt (Int.ofNat j.fst) (Int.ofNat j.snd)) (fk (inR (wr .i64 (xsh BinOp.shr .u64 (wr .u64 (wr .i64 (xadd (Int.ofNat j.fst) (Int.ofNat j.snd)))) 1)) (ln (txsR ts))) (fk (nt (ile id (ri (rw' (txsR ts) (tn (wr .i64 (xsh
  BinOp.shr .u64 (wr .u64 (wr .i64 (xadd (Int.ofNat j.fst) (Int.ofNat j.snd)))) 1)))) 0))) (∃ j', I j' ∧ lessN (μ j') (μ j) ∧ (wr .i64 (xadd (wr .i64 (xsh BinOp.shr .u64 (wr .u64 (wr .i64 (xadd (Int.ofNat j.fst)
  (Int.ofNat j.snd)))) 1)) 1) = Int.ofNat j'.fst ∧ Int.ofNat j.snd = Int.ofNat j'.snd ∧ True) ∧ ([DV.sl (txsR ts)] = [DV.sl (txsR ts)] ∧ [DV.i id] = [DV.i id] ∧ True) ∧ True) (∃ j', I j' ∧ lessN (μ j') (μ j) ∧ (Int.ofNat
  j.fst = Int.ofNat j'.fst ∧ wr .i64 (xsh BinOp.shr .u64 (wr .u64 (wr .i64 (xadd (Int.ofNat j.fst) (Int.ofNat j.snd)))) 1) = Int.ofNat j'.snd ∧ True) ∧ ([DV.sl (txsR ts)] = [DV.sl (txsR ts)] ∧ [DV.i id] = [DV.i id] ∧
  True) ∧ True)) False) (k (.c (.i .i64 (Int.ofNat j.fst))) [] 0)) := by kernel_rfl
theorem vc22 (ts : List TxR) (id : Int) (k : KVk) : dbody Tryz.prog (dcall Tryz.prog T56 (fun _ => []) 5) [] true 22 (argVs (psF Tryz.prog 22) [[.sl (txsR ts)], [.i id]]) [] 0 k = (∃
  ts_1, TxsV ts_1 ∧ [[DV.sl (txsR ts)]] = [[DV.sl (txsR ts_1)]] ∧ fk (ilt id 1) (k (.t [.c (.sl [.i .i64, .i .i64, .i .i64, .i .i64, .sl [.i .i64], .sl [.i .i64]] []), .c (.i .i64 1)]) [] 0) (fk (ilt 1073741824 id) (k
  (.t [.c (.sl [.i .i64, .i .i64, .i .i64, .i .i64, .sl [.i .i64], .sl [.i .i64]] []), .c (.i .i64 1)]) [] 0) (∃ ts_2 id_1, ts_2.length.le 64 ∧ [[DV.sl (txsR ts)], [DV.i id]] = [[DV.sl (txsR ts_2)], [DV.i id_1]] ∧ fk
  (ile 0 (findT ts_2 id_1)) (k (.t [.c (.sl [.i .i64, .i .i64, .i .i64, .i .i64, .sl [.i .i64], .sl [.i .i64]] []), .c (.i .i64 25)]) [] 0) (fk (ieq (ln (txsR ts)) 64) (k (.t [.c (.sl [.i .i64, .i .i64, .i .i64, .i .i64,
  .sl [.i .i64], .sl [.i .i64]] []), .c (.i .i64 21)]) [] 0) (fk (apOk 80 [] (txsR ts)) (∃ ts_3 id_2, PlV ts_3 id_2 ∧ [[DV.sl (txsR ts)], [DV.i id]] = [[DV.sl (txsR ts_3)], [DV.i id_2]] ∧ fk (an (ile 0 (ln (txsR ts_3)))
  (ile (ln (txsR ts_3)) (ln (txsR ts)))) (fk (apOk 80 (txsR ts) [[DV.i id, DV.i 1, DV.i 0, DV.i 0, DV.sl [], DV.sl []]]) (k (.t [.c (.sl [.i .i64, .i .i64, .i .i64, .i .i64, .sl [.i .i64], .sl [.i .i64]] (lins (txsR ts)
  (ln (txsR ts_3)) [DV.i id, DV.i 1, DV.i 0, DV.i 0, DV.sl [], DV.sl []])), .c (.i .i64 0)]) [] 0) False) False) False))))) := by kernel_rfl
theorem vc211 (t : TxR) (c : Row) (k : KVk) : dbody Tryz.prog (dcall Tryz.prog T22 (fun _ => []) 5) [] false 211 [.r shTx (txR t), .c (.pv 0 0)] [(0, .R shInt c)] 1 k = (k (.c (.b (ieq t.id (ri c
  0)))) [(0, .R [.i .i64] c)] 1) := by kernel_rfl
theorem vc178 (ts : List TxR) (id : Int) (k : KVk) : dbody Tryz.prog (dcall Tryz.prog T210 insF 5) [] true 178 (argVs (psF Tryz.prog 178) [[.sl (txsR ts)], [.i id]]) [] 0 k = (fk (apOk
  80 [] (txsR ts)) (∃ ts_1, ts_1.length.le 64 ∧ txsR ts = txsR ts_1 ∧ k (.c (.sl [.i .i64, .i .i64, .i .i64, .i .i64, .sl [.i .i64], .sl [.i .i64]] (txsR (Wp.rmT ts_1 (ri ((fun d => [d]) (DV.i (ri [DV.i id] 0))) 0)))))
  [] 0) False) := by kernel_rfl
theorem vc141 (ts : List TxR) (t : TxR) (k : KVk) : dbody Tryz.prog (dcall Tryz.prog T178 (fun _ => []) 5) [] true 141 (argVs (psF Tryz.prog 141) [[.sl (txsR ts)], txR t]) [] 0 k = (fk
  (apOk 80 [] (txsR ts)) (∃ ts_1 id, ts_1.length.le 64 ∧ [[DV.sl (txsR ts)], [DV.i t.id]] = [[DV.sl (txsR ts_1)], [DV.i id]] ∧ fk (inR (findT ts_1 id) (ln (txsR ts))) (fk (nlt (tn (findT ts_1 id)) (txsR ts)) (k (.c (.sl
  [.i .i64, .i .i64, .i .i64, .i .i64, .sl [.i .i64], .sl [.i .i64]] (lst (txsR ts) (tn (findT ts_1 id)) [DV.i t.id, DV.i t.state, DV.i t.last, DV.i 0, DV.sl (isR t.pend), DV.sl (isR t.saves)]))) [] 0) False) False)
  False) := by kernel_rfl
theorem vc182 (l : List Int) (x : Int) (k : KVk) : dbody Tryz.prog (dcall Tryz.prog T141 (fun _ => []) 5) [(4, .e (Nat × Nat) (fun j => [(7, .c (.i .i64 (Int.ofNat j.1))), (8, .c (.i .i64 (Int.ofNat j.2)))]) (fun _ =>
  []) 0 [])] true 182 (argVs (psF Tryz.prog 182) [[.sl (isR l)], [.i x]]) [] 0 k = (∃ (I : Nat × Nat → Prop) (μ : Nat × Nat → Nat), (∃ j, I j ∧ (0 = Int.ofNat
  j.fst ∧ ln (isR l) = Int.ofNat j.snd ∧ True) ∧ True ∧ True) ∧ ∀ (j : Nat × Nat), I j → fk (ilt (Int.ofNat j.fst) (Int.ofNat j.snd)) (fk (inR (wr .i64 (xsh BinOp.shr .u64 (wr .u64 (wr .i64 (xadd (Int.ofNat j.fst)
  (Int.ofNat j.snd)))) 1)) (ln (isR l))) (fk (nt (ieq (ri (rw' (isR l) (tn (wr .i64 (xsh BinOp.shr .u64 (wr .u64 (wr .i64 (xadd (Int.ofNat j.fst) (Int.ofNat j.snd)))) 1)))) 0) (ri (rw' (isR l) (tn (wr .i64 (xsh BinOp.shr
  .u64 (wr .u64 (wr .i64 (xadd (Int.ofNat j.fst) (Int.ofNat j.snd)))) 1)))) 0))) (fk (nt (nt (ieq x x))) (∃ j', I j' ∧ lessN (μ j') (μ j) ∧ (wr .i64 (xadd (wr .i64 (xsh BinOp.shr .u64 (wr .u64 (wr .i64 (xadd (Int.ofNat
  j.fst) (Int.ofNat j.snd)))) 1)) 1) = Int.ofNat j'.fst ∧ Int.ofNat j.snd = Int.ofNat j'.snd ∧ True) ∧ True ∧ True) (fk (ilt (ri (rw' (isR l) (tn (wr .i64 (xsh BinOp.shr .u64 (wr .u64 (wr .i64 (xadd (Int.ofNat j.fst)
  (Int.ofNat j.snd)))) 1)))) 0) x) (∃ j', I j' ∧ lessN (μ j') (μ j) ∧ (wr .i64 (xadd (wr .i64 (xsh BinOp.shr .u64 (wr .u64 (wr .i64 (xadd (Int.ofNat j.fst) (Int.ofNat j.snd)))) 1)) 1) = Int.ofNat j'.fst ∧ Int.ofNat j.snd
  = Int.ofNat j'.snd ∧ True) ∧ True ∧ True) (∃ j', I j' ∧ lessN (μ j') (μ j) ∧ (Int.ofNat j.fst = Int.ofNat j'.fst ∧ wr .i64 (xsh BinOp.shr .u64 (wr .u64 (wr .i64 (xadd (Int.ofNat j.fst) (Int.ofNat j.snd)))) 1) =
  Int.ofNat j'.snd ∧ True) ∧ True ∧ True))) (fk (ilt (ri (rw' (isR l) (tn (wr .i64 (xsh BinOp.shr .u64 (wr .u64 (wr .i64 (xadd (Int.ofNat j.fst) (Int.ofNat j.snd)))) 1)))) 0) x) (∃ j', I j' ∧ lessN (μ j') (μ j) ∧ (wr
  .i64 (xadd (wr .i64 (xsh BinOp.shr .u64 (wr .u64 (wr .i64 (xadd (Int.ofNat j.fst) (Int.ofNat j.snd)))) 1)) 1) = Int.ofNat j'.fst ∧ Int.ofNat j.snd = Int.ofNat j'.snd ∧ True) ∧ True ∧ True) (∃ j', I j' ∧ lessN (μ j') (μ
  j) ∧ (Int.ofNat j.fst = Int.ofNat j'.fst ∧ wr .i64 (xsh BinOp.shr .u64 (wr .u64 (wr .i64 (xadd (Int.ofNat j.fst) (Int.ofNat j.snd)))) 1) = Int.ofNat j'.snd ∧ True) ∧ True ∧ True))) False) (fk (ilt (Int.ofNat j.fst) (ln
  (isR l))) (fk (inR (Int.ofNat j.fst) (ln (isR l))) (fk (ieq (ri (rw' (isR l) (tn (Int.ofNat j.fst))) 0) x) (k (.t [.c (.i .i64 (Int.ofNat j.fst)), .c (.b true)]) [] 0) (fk (inR (Int.ofNat j.fst) (ln (isR l))) (fk (nt
  (ieq (ri (rw' (isR l) (tn (Int.ofNat j.fst))) 0) (ri (rw' (isR l) (tn (Int.ofNat j.fst))) 0))) (k (.t [.c (.i .i64 (Int.ofNat j.fst)), .c (.b (nt (ieq x x)))]) [] 0) (k (.t [.c (.i .i64 (Int.ofNat j.fst)), .c (.b
  false)]) [] 0)) False)) False) (k (.t [.c (.i .i64 (Int.ofNat j.fst)), .c (.b false)]) [] 0))) := by kernel_rfl
theorem vc133 (ts : List TxR) (n : Int) (e : En) (k : KVk) : dbody Tryz.prog (dcall Tryz.prog T142 (fun _ => []) 5) noteL true 133 (argVs (psF Tryz.prog 133) [[.sl (txsR ts)], enR n e]) []
  0 k = (∃ ts_1, TxsV ts_1 ∧ [[DV.sl (txsR ts)]] = [[DV.sl (txsR ts_1)]] ∧ ∃ n_1 e_1, EnV n_1 e_1 ∧ [[DV.i n, DV.i e.kind, DV.i e.tx, DV.i e.ptx, DV.i e.pp, DV.i e.ref, DV.i e.page, DV.i e.slot, DV.b e.b.fst, DV.s
  e.b.snd, DV.b e.a.fst, DV.s e.a.snd, DV.s ⟨#[]⟩]] = [[DV.i n_1, DV.i e_1.kind, DV.i e_1.tx, DV.i e_1.ptx, DV.i e_1.pp, DV.i e_1.ref, DV.i e_1.page, DV.i e_1.slot, DV.b e_1.b.fst, DV.s e_1.b.snd, DV.b e_1.a.fst, DV.s
  e_1.a.snd, DV.s ⟨#[]⟩]] ∧ fk (ieq e.tx 0) (k (.t [.c (.sl [.i .i64, .i .i64, .i .i64, .i .i64, .sl [.i .i64], .sl [.i .i64]] (txsR ts)), .c (.i .i64 0)]) [] 0) (∃ ts_2 id, ts_2.length.le 64 ∧ [[DV.sl (txsR ts)], [DV.i
  e.tx]] = [[DV.sl (txsR ts_2)], [DV.i id]] ∧ fk (ilt (findT ts_2 id) 0) (k (.t [.c (.sl [.i .i64, .i .i64, .i .i64, .i .i64, .sl [.i .i64], .sl [.i .i64]] []), .c (.i .i64 16)]) [] 0) (fk (inR (findT ts_2 id) (ln (txsR
  ts))) (∃ l x, l.length.le 2048 ∧ [[DV.sl (rl (rw' (txsR ts) (tn (findT ts_2 id))) 4)], [DV.i e.ref]] = [[DV.sl (isR l)], [DV.i x]] ∧ ∀ (a : Int) (b : Bool), ∃ (I : Unit → Prop), fk (nt (ieq e.ptx (ri (rw' (txsR ts) (tn
  (findT ts_2 id))) 2))) (k (.t [.c (.sl [.i .i64, .i .i64, .i .i64, .i .i64, .sl [.i .i64], .sl [.i .i64]] []), .c (.i .i64 13)]) [] 0) (fk (ieq e.kind 2) (fk (nt b) (k (.t [.c (.sl [.i .i64, .i .i64, .i .i64, .i .i64,
  .sl [.i .i64], .sl [.i .i64]] []), .c (.i .i64 13)]) [] 0) (∃ j', I j' ∧ True ∧ (rw' (txsR ts) (tn (findT ts_2 id)) = rw' (txsR ts) (tn (findT ts_2 id)) ∧ [DV.i n, DV.i e.kind, DV.i e.tx, DV.i e.ptx, DV.i e.pp, DV.i
  e.ref, DV.i e.page, DV.i e.slot, DV.b e.b.fst, DV.s e.b.snd, DV.b e.a.fst, DV.s e.a.snd, DV.s ⟨#[]⟩] = [DV.i n, DV.i e.kind, DV.i e.tx, DV.i e.ptx, DV.i e.pp, DV.i e.ref, DV.i e.page, DV.i e.slot, DV.b e.b.fst, DV.s
  e.b.snd, DV.b e.a.fst, DV.s e.a.snd, DV.s ⟨#[]⟩] ∧ True) ∧ True)) (∃ j', I j' ∧ True ∧ (rw' (txsR ts) (tn (findT ts_2 id)) = rw' (txsR ts) (tn (findT ts_2 id)) ∧ [DV.i n, DV.i e.kind, DV.i e.tx, DV.i e.ptx, DV.i e.pp,
  DV.i e.ref, DV.i e.page, DV.i e.slot, DV.b e.b.fst, DV.s e.b.snd, DV.b e.a.fst, DV.s e.a.snd, DV.s ⟨#[]⟩] = [DV.i n, DV.i e.kind, DV.i e.tx, DV.i e.ptx, DV.i e.pp, DV.i e.ref, DV.i e.page, DV.i e.slot, DV.b e.b.fst,
  DV.s e.b.snd, DV.b e.a.fst, DV.s e.a.snd, DV.s ⟨#[]⟩] ∧ True) ∧ True)) ∧ ∀ (j : Unit), I j → fk (ieq e.kind 1) (fk (an true (an (ile 0 (ln (rl (rw' (txsR ts) (tn (findT ts_2 id))) 4))) (an (ile (ln (rl (rw' (txsR ts)
  (tn (findT ts_2 id))) 4)) (ln (rl (rw' (txsR ts) (tn (findT ts_2 id))) 4))) (ieq (ln (rl (rw' (txsR ts) (tn (findT ts_2 id))) 4)) (ln (rl (rw' (txsR ts) (tn (findT ts_2 id))) 4)))))) (fk (true && (nlt 0 [[DV.i n]] &&
  apOk 8 (lsub (rl (rw' (txsR ts) (tn (findT ts_2 id))) 4) 0 (ln (rl (rw' (txsR ts) (tn (findT ts_2 id))) 4))) [[DV.i n]])) (fk (ieq (ri (rw' (txsR ts) (tn (findT ts_2 id))) 1) 2) False (∃ ts_3 t, WiV ts_3 t ∧ [[DV.sl
  (txsR ts)], [DV.i (ri (rw' (txsR ts) (tn (findT ts_2 id))) 0), DV.i (ri (rw' (txsR ts) (tn (findT ts_2 id))) 1), DV.i n, DV.i (ri (rw' (txsR ts) (tn (findT ts_2 id))) 3), DV.sl (lap (lsub (rl (rw' (txsR ts) (tn (findT
  ts_2 id))) 4) 0 (ln (rl (rw' (txsR ts) (tn (findT ts_2 id))) 4))) [[DV.i n]]), DV.sl (rl (rw' (txsR ts) (tn (findT ts_2 id))) 5)]] = [[DV.sl (txsR ts_3)], [DV.i t.id, DV.i t.state, DV.i t.last, DV.i 0, DV.sl (isR
  t.pend), DV.sl (isR t.saves)]] ∧ k (.t [.c (.sl [.i .i64, .i .i64, .i .i64, .i .i64, .sl [.i .i64], .sl [.i .i64]] (txsR (Wp.setT ts_3 t))), .c (.i .i64 0)]) [] 0)) False) False) (fk (ieq e.kind 2) False (fk (ieq
  e.kind 4) (fk (ieq 3 2) False (∃ ts_3 t, WiV ts_3 t ∧ [[DV.sl (txsR ts)], [DV.i (ri (rw' (txsR ts) (tn (findT ts_2 id))) 0), DV.i 3, DV.i n, DV.i 0, DV.sl (rl (rw' (txsR ts) (tn (findT ts_2 id))) 4), DV.sl []]] =
  [[DV.sl (txsR ts_3)], [DV.i t.id, DV.i t.state, DV.i t.last, DV.i 0, DV.sl (isR t.pend), DV.sl (isR t.saves)]] ∧ k (.t [.c (.sl [.i .i64, .i .i64, .i .i64, .i .i64, .sl [.i .i64], .sl [.i .i64]] (txsR (Wp.setT ts_3
  t))), .c (.i .i64 0)]) [] 0)) (fk (ieq e.kind 3) (∃ ts_3 id, ts_3.length.le 64 ∧ [[DV.sl (txsR ts)], [DV.i e.tx]] = [[DV.sl (txsR ts_3)], [DV.i id]] ∧ k (.t [.c (.sl [.i .i64, .i .i64, .i .i64, .i .i64, .sl [.i .i64],
  .sl [.i .i64]] (txsR (Wp.rmT ts_3 id))), .c (.i .i64 0)]) [] 0) (fk (ieq e.kind 5) (∃ ts_3 id, ts_3.length.le 64 ∧ [[DV.sl (txsR ts)], [DV.i e.tx]] = [[DV.sl (txsR ts_3)], [DV.i id]] ∧ k (.t [.c (.sl [.i .i64, .i .i64,
  .i .i64, .i .i64, .sl [.i .i64], .sl [.i .i64]] (txsR (Wp.rmT ts_3 id))), .c (.i .i64 0)]) [] 0) (fk (ieq (ri (rw' (txsR ts) (tn (findT ts_2 id))) 1) 2) False (∃ ts_3 t, WiV ts_3 t ∧ [[DV.sl (txsR ts)], [DV.i (ri (rw'
  (txsR ts) (tn (findT ts_2 id))) 0), DV.i (ri (rw' (txsR ts) (tn (findT ts_2 id))) 1), DV.i n, DV.i (ri (rw' (txsR ts) (tn (findT ts_2 id))) 3), DV.sl (rl (rw' (txsR ts) (tn (findT ts_2 id))) 4), DV.sl (rl (rw' (txsR
  ts) (tn (findT ts_2 id))) 5)]] = [[DV.sl (txsR ts_3)], [DV.i t.id, DV.i t.state, DV.i t.last, DV.i 0, DV.sl (isR t.pend), DV.sl (isR t.saves)]] ∧ k (.t [.c (.sl [.i .i64, .i .i64, .i .i64, .i .i64, .sl [.i .i64], .sl
  [.i .i64]] (txsR (Wp.setT ts_3 t))), .c (.i .i64 0)]) [] 0))))))) False))) := by kernel_rfl
theorem vc139 (ts : List TxR) (t : TxR) (k : KVk) : dbody Tryz.prog (dcall Tryz.prog T133 (fun _ => []) 5) [] true 139 (argVs (psF Tryz.prog 139) [[.sl (txsR ts)], [.i t.id]]) [] 0 k =
  (∃ ts_1, TxsV ts_1 ∧ [[DV.sl (txsR ts)]] = [[DV.sl (txsR ts_1)]] ∧ ∃ ts_2 id, ts_2.length.le 64 ∧ [[DV.sl (txsR ts)], [DV.i t.id]] = [[DV.sl (txsR ts_2)], [DV.i id]] ∧ fk (ilt (findT ts_2 id) 0) (k (.t [.r [.i .i64, .i
  .i64, .i .i64, .i .i64, .sl [.i .i64], .sl [.i .i64]] [DV.i 0, DV.i 0, DV.i 0, DV.i 0, DV.sl [], DV.sl []], .c (.i .i64 16)]) [] 0) (fk (inR (findT ts_2 id) (ln (txsR ts))) (fk (nt (ieq (ri (rw' (txsR ts) (tn (findT
  ts_2 id))) 1) 1)) (k (.t [.r [.i .i64, .i .i64, .i .i64, .i .i64, .sl [.i .i64], .sl [.i .i64]] [DV.i 0, DV.i 0, DV.i 0, DV.i 0, DV.sl [], DV.sl []], .c (.i .i64 15)]) [] 0) (fk (inR (findT ts_2 id) (ln (txsR ts))) (k
  (.t [.r [.i .i64, .i .i64, .i .i64, .i .i64, .sl [.i .i64], .sl [.i .i64]] (rw' (txsR ts) (tn (findT ts_2 id))), .c (.i .i64 0)]) [] 0) False)) False)) := by kernel_rfl
theorem vc76 (ts : List TxR) (t : TxR) (k : KVk) : dbody Tryz.prog (dcall Tryz.prog T139 (fun _ => []) 5) [] true 76 (argVs (psF Tryz.prog 76) [[.sl (txsR ts)], [.i t.id]]) [] 0 k = (∃
  ts_1 t_1, SvV ts_1 t_1 ∧ [[DV.sl (txsR ts)], [DV.i t.id]] = [[DV.sl (txsR ts_1)], [DV.i t_1.id]] ∧ fk (ieq (ln (isR t_1.saves)) 8) (k (.t [.c (.sl [.i .i64, .i .i64, .i .i64, .i .i64, .sl [.i .i64], .sl [.i .i64]] []),
  .c (.i .i64 21)]) [] 0) (fk (an true (an (ile 0 (ln (isR t_1.saves))) (an (ile (ln (isR t_1.saves)) (ln (isR t_1.saves))) (ieq (ln (isR t_1.saves)) (ln (isR t_1.saves)))))) (fk (true && (nlt 0 [[DV.i t_1.last]] && apOk
  8 (lsub (isR t_1.saves) 0 (ln (isR t_1.saves))) [[DV.i t_1.last]])) (∃ ts_2 t, WiV ts_2 t ∧ [[DV.sl (txsR ts)], [DV.i t_1.id, DV.i t_1.state, DV.i t_1.last, DV.i 0, DV.sl (isR t_1.pend), DV.sl (lap (lsub (isR
  t_1.saves) 0 (ln (isR t_1.saves))) [[DV.i t_1.last]])]] = [[DV.sl (txsR ts_2)], [DV.i t.id, DV.i t.state, DV.i t.last, DV.i 0, DV.sl (isR t.pend), DV.sl (isR t.saves)]] ∧ k (.t [.c (.sl [.i .i64, .i .i64, .i .i64, .i
  .i64, .sl [.i .i64], .sl [.i .i64]] (txsR (Wp.setT ts_2 t))), .c (.i .i64 0)]) [] 0) False) False)) := by kernel_rfl
theorem findT_of {ts : List TxR} {id : Int} {i : Nat} {t : TxR} (h : ts[i]? = some t) (e : t.id = id) (hv : ∀ (j : Nat) (x : TxR), j < i → ts[j]? = some x → x.id ≠ id) : findT ts id = i := by
  have : ts.findIdx? (fun t => t.id == id) = some i := by
    rw [List.findIdx?_eq_some_iff_getElem]
    obtain ⟨hi, rfl⟩ := List.getElem?_eq_some_iff.1 h
    exact ⟨hi, by simpa using e, fun j hj => by simpa using hv j _ hj (List.getElem?_eq_getElem (by omega))⟩
  unfold findT
  rw [this]
theorem findT_no {ts : List TxR} {id : Int} (hv : ∀ x ∈ ts, x.id ≠ id) : findT ts id = -1 := by
  unfold findT
  rw [List.findIdx?_eq_none_iff.2 fun x hx => by simpa using hv x hx]
theorem srt_lt {ts : List TxR} (h : ts.Pairwise fun a b => a.id < b.id) {j i : Nat} {x y : TxR} (hj : j < i) (hx : ts[j]? = some x) (hy : ts[i]? = some y) : x.id < y.id := by
  obtain ⟨h1, rfl⟩ := List.getElem?_eq_some_iff.1 hx
  obtain ⟨h2, rfl⟩ := List.getElem?_eq_some_iff.1 hy
  exact List.pairwise_iff_getElem.1 h j i h1 h2 hj
theorem findT_at {ts : List TxR} (h : ts.Pairwise fun a b => a.id < b.id) {i : Nat} {t : TxR} (hi : ts[i]? = some t) : findT ts t.id = i :=
  findT_of hi rfl fun j x hj hx => by have := srt_lt h hj hx hi; omega
theorem setT_set {ts : List TxR} (h : ts.Pairwise fun a b => a.id < b.id) {i : Nat} {s t : TxR} (hi : ts[i]? = some s) (e : s.id = t.id) : setT ts t = ts.set i t := by
  apply List.ext_getElem?
  intro j
  unfold setT
  rw [List.getElem?_map, List.getElem?_set]
  by_cases hj : i = j
  · subst hj
    rw [if_pos rfl, if_pos (List.getElem?_eq_some_iff.1 hi).1, hi]
    simp [e]
  · rw [if_neg hj]
    cases hx : ts[j]? with
    | none => rfl
    | some x =>
      have : x.id ≠ t.id := by
        rcases Nat.lt_or_gt_of_ne hj with k | k
        · have := srt_lt h k hi hx; omega
        · have := srt_lt h k hx hi; omega
      simp [this]
theorem lst_txs (ts : List TxR) (i : Nat) (t : TxR) : lst (txsR ts) i (txR t) = txsR (ts.set i t) := by unfold lst txsR; rw [List.map_set]
theorem lap_is (l : List Int) (n : Int) : lap (isR l) [[.i n]] = isR (l ++ [n]) := by unfold lap isR; rw [List.map_append]; rfl
theorem ok55 : CtOk Tryz.prog T55 := by
  refine ct_cons ok43 (fz := true) fun rs k h => ?_
  obtain ⟨ts, id, hl, rfl, hk⟩ := h
  refine ⟨_, _, _, (vc55 ts id k).mpr ⟨fun j => j ≤ ts.length ∧ ∀ (i : Nat) (x : TxR), i < j → ts[i]? = some x → x.id ≠ id, fun j => ts.length - j, range_e (ln_txs ts) ⟨rfl, trivial⟩ (by omega) (fun i x h => absurd h (Nat.not_lt_zero _)) (fun i hi hv nx => ?_) fun hv => ?_⟩⟩
  · obtain ⟨x, hx⟩ := at_lt hi
    rw [tn_ofNat, txs_at hx, txR_0]
    refine fk_of (fun e => ?_) fun e => nx fun j y hj hy => ?_
    · rw [findT_of hx (ieq_t e) hv] at hk; exact hk
    · rcases Nat.lt_or_eq_of_le (Nat.le_of_lt_succ hj) with h | rfl
      · exact hv j y h hy
      · rw [hx] at hy; cases hy; exact ieq_f e
  · rw [findT_no fun x hx => by
      obtain ⟨i, hi⟩ := List.getElem?_of_mem hx
      exact hv i x (List.getElem?_eq_some_iff.1 hi).1 hi] at hk
    exact hk
theorem ok58 : CtOk Tryz.prog T58 := by
  refine ct_cons ok55 (fz := true) fun rs k h => ?_
  obtain ⟨ts, id, hv, rfl, hk⟩ := h
  have hl := hv.len
  refine ⟨_, _, _, (vc58 ts id k).mpr ⟨fun j => j.1 ≤ j.2 ∧ j.2 = ts.length, fun j => j.2 - j.1, ⟨(0, ts.length), ⟨Nat.zero_le _, rfl⟩, ⟨rfl, ln_txs ts, trivial⟩, ⟨rfl, rfl, trivial⟩, trivial⟩, ?_⟩⟩
  rintro ⟨i, j⟩ ⟨h1, h2⟩
  dsimp only at h1 h2 ⊢
  subst h2
  refine fk_of (fun e => ?_) fun e => ?_
  · have hi : i < ts.length := by have := ilt_t e; simpa using this
    rw [mid_eq (by omega)]
    obtain ⟨x, hx⟩ := at_lt (show (i + ts.length) / 2 < ts.length by omega)
    have := hv.lt x (List.mem_of_getElem? hx)
    rw [tn_cast, txs_at hx, txR_0]
    refine fk_t (by (first | rfl | (simp (disch := omega) only [FS, eq_self, List.length_cons, List.length_nil, true_and, and_true, ssz, xadd, xsub, xmul, xmin, xmax] <;> omega) | omega)) (fk_t (by (first | rfl | (simp (disch := omega) only [FS, eq_self, List.length_cons, List.length_nil, true_and, and_true, ssz, xadd, xsub, xmul, xmin, xmax] <;> omega) | omega)) ⟨((i + ts.length) / 2 + 1, ts.length), ⟨by dsimp only; omega, rfl⟩, (by show ts.length - ((i + ts.length) / 2 + 1) < ts.length - i; omega), ⟨?_, rfl, trivial⟩, ⟨rfl, rfl, trivial⟩, trivial⟩)
    exact wr_id (n := (((i + ts.length) / 2 : Nat) : Int) + 1) (by omega) (by omega)
  · have : i = ts.length := by have := ilt_f e; simp at this; omega
    subst this
    rw [ln_txs] at hk; exact hk
theorem ok57 : CtOk Tryz.prog T57 := ok58.cons (clone_ok (dcall_ok ok58 (LT := fun _ => []) 5) (e := shTx) (by_ := 80) fun gs k => by kernel_rfl)
theorem ok56 : CtOk Tryz.prog T56 := ok57.cons (ins_okG (dcall_ok ok57 (LT := fun _ => []) 5) (e := shTx) (by_ := 80) (zr := [.i 0, .i 0, .i 0, .i 0, .sl [], .sl []]) fun gs i g k => by kernel_rfl)
theorem ok22 : CtOk Tryz.prog T22 := by
  refine ct_cons ok56 (fz := true) fun rs k h => ?_
  obtain ⟨ts, id, hv, rfl, hk⟩ := h
  have a1 := hv.i1; have a2 := hv.i2; have a3 := hv.len
  have hf : findT ts id = -1 := findT_no fun x hx => by have := hv.lt x hx; omega
  refine ⟨_, _, _, (vc22 ts id k).mpr ⟨ts, hv.v, rfl, ?_⟩⟩
  repeat (first | (refine fk_t ?_ ?_; focus (first | rfl | (simp (disch := omega) only [FS, eq_self, List.length_cons, List.length_nil, true_and, and_true, ssz, xadd, xsub, xmul, xmin, xmax] <;> omega) | omega)) | (refine fk_n ?_ ?_; focus (first | rfl | (simp (disch := omega) only [FS, eq_self, List.length_cons, List.length_nil, true_and, and_true, ssz, xadd, xsub, xmul, xmin, xmax] <;> omega) | omega)))
  refine ⟨ts, id, hv.v.len, rfl, ?_⟩
  rw [hf]
  repeat (first | (refine fk_t ?_ ?_; focus (first | rfl | (simp (disch := omega) only [FS, eq_self, List.length_cons, List.length_nil, true_and, and_true, ssz, xadd, xsub, xmul, xmin, xmax] <;> omega) | omega)) | (refine fk_n ?_ ?_; focus (first | rfl | (simp (disch := omega) only [FS, eq_self, List.length_cons, List.length_nil, true_and, and_true, ssz, xadd, xsub, xmul, xmin, xmax] <;> omega) | omega)))
  refine ⟨ts, id, ⟨hv.lt, hv.v.len⟩, rfl, ?_⟩
  repeat (first | (refine fk_t ?_ ?_; focus (first | rfl | (simp (disch := omega) only [FS, eq_self, List.length_cons, List.length_nil, true_and, and_true, ssz, xadd, xsub, xmul, xmin, xmax] <;> omega) | omega)) | (refine fk_n ?_ ?_; focus (first | rfl | (simp (disch := omega) only [FS, eq_self, List.length_cons, List.length_nil, true_and, and_true, ssz, xadd, xsub, xmul, xmin, xmax] <;> omega) | omega)))
  have e : lins (txsR ts) (ln (txsR ts)) [.i id, .i 1, .i 0, .i 0, .sl [], .sl []] = txsR (ts ++ [newT id]) := by
    rw [ln_txs]
    show List.take ts.length (ts.map txR) ++ [.i id, .i 1, .i 0, .i 0, .sl [], .sl []] :: List.drop ts.length (ts.map txR) = (ts ++ [newT id]).map txR
    have hl : (ts.map txR).length = ts.length := List.length_map ..
    rw [List.take_of_length_le (by omega), List.drop_of_length_le (by omega), List.map_append]
    rfl
  rw [e]; exact hk
theorem ok211 : CtOk Tryz.prog T211 := by
  refine ct_raw ok22 fun vs E nx k h => ?_
  unfold gTxT at h
  split at h
  · rename_i s r s' c
    obtain ⟨h1, t, rfl, hk⟩ := fk_yes h
    obtain ⟨h2, h3⟩ := and2 h1
    have := shEq_eq _ _ h2
    subst this
    have := shEq_eq _ _ h3
    subst this
    exact ⟨_, _, _, _, (vc211 t c k).mpr hk⟩
  · exact h.elim
theorem vcDfT (ts : List TxR) (c : Row) (k : KVk) : dbody Tryz.prog (dcall Tryz.prog T211 clT 5) dfT false 210 [.c (.ow 0), .c (.fn 211 [1])] [(0, .W shTx (txsR ts)), (1, .R shInt c)] 2 k =
  dfVC txR [.i 0, .i 0, .i 0, .i 0, .sl [], .sl []] (fun t => ieq t.id (ri c 0)) (c = c ∧ True) ts (k (.c (.ow 0)) [(1, .R shInt c), (0, .W shTx (txsR ts))] 2) (k (.c (.ow 0)) [(0, .W shTx (txsR ts)), (1, .R shInt c)] 2) fun l => k (.c (.ow 2)) [(2, .W shTx l), (1, .R shInt c)] 3 := by kernel_rfl
theorem rmT_df (ts : List TxR) (id : Int) : ts.filter (fun t => !ieq t.id id) = rmT ts id := List.filter_congr fun t _ => by unfold ieq; by_cases h : t.id = id <;> simp [h]
theorem ok210 : CtOk Tryz.prog T210 := by
  refine ok211.cons fun vs E nx k h => ?_
  unfold g210 at h
  split at h
  · rename_i f e r s c
    obtain ⟨h1, ts, hl, rfl, hk⟩ := fk_yes h
    obtain ⟨h2, h3⟩ := and2 h1
    obtain ⟨h3, h4⟩ := and2 h3
    have := shEq_eq _ _ h3
    subst this
    have := shEq_eq _ _ h4
    subst this
    have h2 := inB_iff.1 h2
    simp only [List.mem_cons, List.not_mem_nil, or_false] at h2
    subst h2
    refine CallG.fresh (dbody_ok (dcall_ok ok211 (LT := clT) 5) (lp := dfT) (fz := false) ?_)
    rw [vcDfT]
    rw [← rmT_df] at hk
    refine dfVC_ok ⟨rfl, trivial⟩ (by omega) (fun e => ?_) (.inl hk)
    rw [e] at hk
    exact .inr ⟨0, shTx, txsR ts, [(1, .R shInt c)], rfl, rfl, (fun y B hy => by
      by_cases h : y = 1
      · subst h; exact ⟨by decide, hy⟩
      · rw [look_ne (fun e => h e.symm)] at hy; cases hy), hk⟩
  · exact h.elim
theorem ok178 : CtOk Tryz.prog T178 := by
  refine ct_cons ok210 (fz := true) fun rs k h => ?_
  obtain ⟨ts, id, hl, rfl, hk⟩ := h
  refine ⟨_, _, _, (vc178 ts id k).mpr ?_⟩
  repeat (first | (refine fk_t ?_ ?_; focus (first | rfl | (simp (disch := omega) only [FS, eq_self, List.length_cons, List.length_nil, true_and, and_true, ssz, xadd, xsub, xmul, xmin, xmax] <;> omega) | omega)) | (refine fk_n ?_ ?_; focus (first | rfl | (simp (disch := omega) only [FS, eq_self, List.length_cons, List.length_nil, true_and, and_true, ssz, xadd, xsub, xmul, xmin, xmax] <;> omega) | omega)))
  exact ⟨ts, hl, rfl, hk⟩
theorem ok141 : CtOk Tryz.prog T141 := by
  refine ct_cons ok178 (fz := true) fun rs k h => ?_
  obtain ⟨ts, t, hv, rfl, hk⟩ := h
  have hl := hv.len
  obtain ⟨s, hs, e⟩ := hv.has
  obtain ⟨i, hi⟩ := List.getElem?_of_mem hs
  have hil := (List.getElem?_eq_some_iff.1 hi).1
  refine ⟨_, _, _, (vc141 ts t k).mpr ?_⟩
  repeat (first | (refine fk_t ?_ ?_; focus (first | rfl | (simp (disch := omega) only [FS, eq_self, List.length_cons, List.length_nil, true_and, and_true, ssz, xadd, xsub, xmul, xmin, xmax] <;> omega) | omega)) | (refine fk_n ?_ ?_; focus (first | rfl | (simp (disch := omega) only [FS, eq_self, List.length_cons, List.length_nil, true_and, and_true, ssz, xadd, xsub, xmul, xmin, xmax] <;> omega) | omega)))
  refine ⟨ts, t.id, hl, rfl, ?_⟩
  rw [show findT ts t.id = i from e ▸ findT_at hv.srt hi]
  repeat (first | (refine fk_t ?_ ?_; focus (first | rfl | (simp (disch := omega) only [FS, eq_self, List.length_cons, List.length_nil, true_and, and_true, ssz, xadd, xsub, xmul, xmin, xmax] <;> omega) | omega)) | (refine fk_n ?_ ?_; focus (first | rfl | (simp (disch := omega) only [FS, eq_self, List.length_cons, List.length_nil, true_and, and_true, ssz, xadd, xsub, xmul, xmin, xmax] <;> omega) | omega)))
  rw [setT_set hv.srt hi e, ← lst_txs] at hk
  exact hk
theorem ok182 : CtOk Tryz.prog T182 := by
  refine ct_cons ok141 (fz := true) fun rs k h => ?_
  obtain ⟨l, x, hl, rfl, hk⟩ := h
  refine ⟨_, _, _, (vc182 l x k).mpr ⟨fun j => j.1 ≤ j.2 ∧ j.2 ≤ l.length, fun j => j.2 - j.1, ⟨(0, l.length), ⟨Nat.zero_le _, Nat.le_refl _⟩, ⟨rfl, ln_is l, trivial⟩, trivial, trivial⟩, ?_⟩⟩
  rintro ⟨i, j⟩ ⟨h1, h2⟩
  dsimp only at h1 h2 ⊢
  refine fk_of (fun e => ?_) fun e => ?_
  · have hi : i < j := by have := ilt_t e; simpa using this
    rw [mid_eq (by omega)]
    have up : ∃ j' : Nat × Nat, (j'.1 ≤ j'.2 ∧ j'.2 ≤ l.length) ∧ lessN (j'.2 - j'.1) (j - i) ∧ (wr .i64 (xadd (((i + j) / 2 : Nat) : Int) 1) = Int.ofNat j'.1 ∧ Int.ofNat j = Int.ofNat j'.2 ∧ True) ∧ True ∧ True :=
      ⟨((i + j) / 2 + 1, j), ⟨by dsimp only; omega, h2⟩, (by show j - ((i + j) / 2 + 1) < j - i; omega), ⟨wr_id (n := (((i + j) / 2 : Nat) : Int) + 1) (by omega) (by omega), rfl, trivial⟩, trivial, trivial⟩
    have dn : ∃ j' : Nat × Nat, (j'.1 ≤ j'.2 ∧ j'.2 ≤ l.length) ∧ lessN (j'.2 - j'.1) (j - i) ∧ (Int.ofNat i = Int.ofNat j'.1 ∧ (((i + j) / 2 : Nat) : Int) = Int.ofNat j'.2 ∧ True) ∧ True ∧ True :=
      ⟨(i, (i + j) / 2), ⟨by dsimp only; omega, by dsimp only; omega⟩, (by show (i + j) / 2 - i < j - i; omega), ⟨rfl, rfl, trivial⟩, trivial, trivial⟩
    exact fk_t (by (first | rfl | (simp (disch := omega) only [FS, eq_self, List.length_cons, List.length_nil, true_and, and_true, ssz, xadd, xsub, xmul, xmin, xmax] <;> omega) | omega)) (fk_of (fun _ => fk_of (fun _ => up) fun _ => fk_of (fun _ => up) fun _ => dn) fun _ => fk_of (fun _ => up) fun _ => dn)
  · refine fk_of (fun e => ?_) fun _ => hk _ _
    have hi : i < l.length := by have := ilt_t e; rw [ln_is] at this; simpa using this
    exact fk_t (by (first | rfl | (simp (disch := omega) only [FS, eq_self, List.length_cons, List.length_nil, true_and, and_true, ssz, xadd, xsub, xmul, xmin, xmax] <;> omega) | omega)) (fk_of (fun _ => hk _ _) fun _ => fk_t (by (first | rfl | (simp (disch := omega) only [FS, eq_self, List.length_cons, List.length_nil, true_and, and_true, ssz, xadd, xsub, xmul, xmin, xmax] <;> omega) | omega)) (fk_of (fun _ => hk _ _) fun _ => hk _ _))
theorem noG_ok {T : Ct} (h : CtOk Tryz.prog T) (f : Nat) : CtOk Tryz.prog ((f, noG) :: T) := h.cons fun vs E nx k h => False.elim h
theorem ok142 : CtOk Tryz.prog T142 := noG_ok (noG_ok (noG_ok ok182 _) _) _
theorem ok133 : CtOk Tryz.prog T133 := by
  refine ct_cons ok142 (fz := true) fun rs k h => ?_
  obtain ⟨ts, n, e, hv, rfl, hk⟩ := h
  refine ⟨_, _, _, (vc133 ts n e k).mpr ⟨ts, hv.v, rfl, n, e, hv.ev, rfl, fk_of (fun h0 => ?_) fun h0 => ?_⟩⟩
  · rw [show noteT ts n e = ts by unfold noteT; rw [if_pos (ieq_t h0)]] at hk
    exact hk
  · have h0 := ieq_f h0
    obtain ⟨t, ht, e1, ha, hp⟩ := hv.has h0
    obtain ⟨i, hi⟩ := List.getElem?_of_mem ht
    have hil := (List.getElem?_eq_some_iff.1 hi).1
    have hpl := hv.pl t ht
    have hll := hv.v.len
    have hfd : ts.find? (fun t => t.id == e.tx) = some t := by
      rw [List.find?_eq_some_iff_getElem]
      refine ⟨by simpa using e1, i, hil, (List.getElem?_eq_some_iff.1 hi).2, fun j hj => ?_⟩
      have := srt_lt hv.v.srt hj (List.getElem?_eq_getElem (by omega)) hi
      simp; omega
    refine ⟨ts, e.tx, hll, rfl, ?_⟩
    rw [show findT ts e.tx = i from e1 ▸ findT_at hv.v.srt hi, tn_cast, txs_at hi]
    repeat (first | (refine fk_t ?_ ?_; focus (first | rfl | (simp (disch := omega) only [FS, eq_self, List.length_cons, List.length_nil, true_and, and_true, ssz, xadd, xsub, xmul, xmin, xmax] <;> omega) | omega)) | (refine fk_n ?_ ?_; focus (first | rfl | (simp (disch := omega) only [FS, eq_self, List.length_cons, List.length_nil, true_and, and_true, ssz, xadd, xsub, xmul, xmin, xmax] <;> omega) | omega)))
    refine ⟨t.pend, e.ref, Nat.le_of_lt hpl, rfl, fun a b => ⟨fun _ => True, ?_, fun _ _ => ?_⟩⟩
    · rw [txR_2]
      have hk2 : e.kind ≠ 2 := by rcases hv.k with h | h | h | h <;> omega
      repeat (first | (refine fk_t ?_ ?_; focus (first | rfl | (simp (disch := omega) only [FS, eq_self, List.length_cons, List.length_nil, true_and, and_true, ssz, xadd, xsub, xmul, xmin, xmax] <;> omega) | omega)) | (refine fk_n ?_ ?_; focus (first | rfl | (simp (disch := omega) only [FS, eq_self, List.length_cons, List.length_nil, true_and, and_true, ssz, xadd, xsub, xmul, xmin, xmax] <;> omega) | omega)))
      exact ⟨(), trivial, trivial, ⟨rfl, rfl, trivial⟩, trivial⟩
    · rcases hv.k with h | h | h | h
      · repeat (first | (refine fk_t ?_ ?_; focus (first | rfl | (simp (disch := omega) only [FS, eq_self, List.length_cons, List.length_nil, true_and, and_true, ssz, xadd, xsub, xmul, xmin, xmax] <;> omega) | omega)) | (refine fk_n ?_ ?_; focus (first | rfl | (simp (disch := omega) only [FS, eq_self, List.length_cons, List.length_nil, true_and, and_true, ssz, xadd, xsub, xmul, xmin, xmax] <;> omega) | omega)))
        refine ⟨ts, { t with last := n, pend := t.pend ++ [n] }, ⟨hv.v.srt, hll, t, ht, rfl⟩, ?_, ?_⟩
        · rw [lsub_all, txR_4, lap_is]; rfl
        · rw [show noteT ts n e = setT ts { t with last := n, pend := t.pend ++ [n] } by unfold noteT; rw [if_neg h0, if_neg (by omega), hfd]; simp only; rw [if_pos h]] at hk
          exact hk
      · repeat (first | (refine fk_t ?_ ?_; focus (first | rfl | (simp (disch := omega) only [FS, eq_self, List.length_cons, List.length_nil, true_and, and_true, ssz, xadd, xsub, xmul, xmin, xmax] <;> omega) | omega)) | (refine fk_n ?_ ?_; focus (first | rfl | (simp (disch := omega) only [FS, eq_self, List.length_cons, List.length_nil, true_and, and_true, ssz, xadd, xsub, xmul, xmin, xmax] <;> omega) | omega)))
        refine ⟨ts, e.tx, hll, rfl, ?_⟩
        rw [show noteT ts n e = rmT ts e.tx by unfold noteT; rw [if_neg h0, if_pos h]] at hk
        exact hk
      · repeat (first | (refine fk_t ?_ ?_; focus (first | rfl | (simp (disch := omega) only [FS, eq_self, List.length_cons, List.length_nil, true_and, and_true, ssz, xadd, xsub, xmul, xmin, xmax] <;> omega) | omega)) | (refine fk_n ?_ ?_; focus (first | rfl | (simp (disch := omega) only [FS, eq_self, List.length_cons, List.length_nil, true_and, and_true, ssz, xadd, xsub, xmul, xmin, xmax] <;> omega) | omega)))
        refine ⟨ts, { t with state := 3, last := n, saves := [] }, ⟨hv.v.srt, hll, t, ht, rfl⟩, rfl, ?_⟩
        rw [show noteT ts n e = setT ts { t with state := 3, last := n, saves := [] } by unfold noteT; rw [if_neg h0, if_neg (by omega), hfd]; simp only; rw [if_neg (by omega)]] at hk
        exact hk
      · have r := hv.ev.en
        rcases r.2.2.2.2.2.2.2.2 with q | q | q
        · omega
        · omega
        · exact absurd q.2.1 h0
theorem ok139 : CtOk Tryz.prog T139 := by
  refine ct_cons ok133 (fz := true) fun rs k h => ?_
  obtain ⟨ts, t, hv, rfl, hk⟩ := h
  obtain ⟨i, hi⟩ := List.getElem?_of_mem hv.m
  have hil := (List.getElem?_eq_some_iff.1 hi).1
  have ha := hv.a
  refine ⟨_, _, _, (vc139 ts t k).mpr ⟨ts, hv.v, rfl, ts, t.id, hv.v.len, rfl, ?_⟩⟩
  rw [findT_at hv.v.srt hi, tn_cast, txs_at hi]
  repeat (first | (refine fk_t ?_ ?_; focus (first | rfl | (simp (disch := omega) only [FS, eq_self, List.length_cons, List.length_nil, true_and, and_true, ssz, xadd, xsub, xmul, xmin, xmax] <;> omega) | omega)) | (refine fk_n ?_ ?_; focus (first | rfl | (simp (disch := omega) only [FS, eq_self, List.length_cons, List.length_nil, true_and, and_true, ssz, xadd, xsub, xmul, xmin, xmax] <;> omega) | omega)))
  exact hk
theorem ok76 : CtOk Tryz.prog T76 := by
  refine ct_cons ok139 (fz := true) fun rs k h => ?_
  obtain ⟨ts, t, hv, rfl, hk⟩ := h
  have h8 := (hv.v.each t hv.m).sl
  refine ⟨_, _, _, (vc76 ts t k).mpr ⟨ts, t, hv, rfl, fk_of (fun e => ?_) fun e => ?_⟩⟩
  · rw [e] at hk; exact hk
  · rw [e] at hk
    repeat (first | (refine fk_t ?_ ?_; focus (first | rfl | (simp (disch := omega) only [FS, eq_self, List.length_cons, List.length_nil, true_and, and_true, ssz, xadd, xsub, xmul, xmin, xmax] <;> omega) | omega)) | (refine fk_n ?_ ?_; focus (first | rfl | (simp (disch := omega) only [FS, eq_self, List.length_cons, List.length_nil, true_and, and_true, ssz, xadd, xsub, xmul, xmin, xmax] <;> omega) | omega)))
    refine ⟨ts, { t with saves := t.saves ++ [t.last] }, ⟨hv.v.srt, hv.v.len, t, hv.m, rfl⟩, ?_, hk⟩
    rw [lsub_all]
    show _ = [[DV.sl (txsR ts)], [DV.i t.id, DV.i t.state, DV.i t.last, DV.i 0, DV.sl (isR t.pend), DV.sl (isR (t.saves ++ [t.last]))]]
    rw [← lap_is]
end Go.Proofs.YtgjindhjgmplgaaGreat
