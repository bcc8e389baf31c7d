/-
  KernelPlays: an action that is carried out: its parts as rows; contracts of kernel.needs, wrong, doing.own, gone, drop, abort.
-/
import Derived.Test.YtgjindhjgmplgaaGreatKzW
set_option linter.unusedVariables false
set_option linter.unusedSimpArgs false
set_option maxRecDepth 100000
namespace Go.Proofs.YtgjindhjgmplgaaGreat
open Wp
structure AcR where
  kind : Int
  page : Int
  slot : Int
  data : ByteArray
structure NeR where
  mode : Int
  cell : Bool
  dat : Bool
  sav : Bool
structure RsR where
  st : Int
  tx : Int
  page : Int
  c : Cl
  err : Int
structure Dg where
  q : KV
  wr : List Pg
  tx : Int
  a : AcR
  nd : NeR
  r : RsR
abbrev shAc : Sh := [.i .i64, .i .i64, .i .i64, .s]
abbrev shNe : Sh := [.i .i64, .b, .b, .b]
abbrev shRs : Sh := [.i .i64, .i .i64, .i .i64, .b, .s, .i .i64]
abbrev shDo : Sh := [.i .i64, .i .i64, .i .i64, .sl shEn, .i .i64, .i .i64, .sl shFr, .i .i64, .sl shG, .sl shG, .sl shTx, .sl shRw, .sl shRw, .i .i64, .i .i64, .i .i64, .i .i64, .s, .i .i64, .b, .b, .b, .i .i64, .i .i64, .i .i64, .b, .s, .i .i64]
def acR (a : AcR) : Row := [.i a.kind, .i a.page, .i a.slot, .s a.data]
def neR (n : NeR) : Row := [.i n.mode, .b n.cell, .b n.dat, .b n.sav]
def rsR (r : RsR) : Row := [.i r.st, .i r.tx, .i r.page, .b r.c.1, .s r.c.2, .i r.err]
def dgT (tx : Int) (a : AcR) (n : NeR) (r : RsR) : Row := [.i tx, .i a.kind, .i a.page, .i a.slot, .s a.data, .i n.mode, .b n.cell, .b n.dat, .b n.sav, .i r.st, .i r.tx, .i r.page, .b r.c.1, .s r.c.2, .i r.err]
def dgX (q : KV) (tx : Int) (a : AcR) (n : NeR) (r : RsR) : Row := kR q ++ dgT tx a n r
def dgR (d : Dg) : Row := dgX d.q d.tx d.a d.nd d.r
noncomputable def needL : List (Row × Row) := mput (mput (mput (mput (mput (mput (mput [] [.i 1] [.i 1, .b true, .b false, .b false]) [.i 2] [.i 2, .b true, .b true, .b false]) [.i 3] [.i 2, .b true, .b false, .b false]) [.i 4] [.i 0, .b false, .b false, .b false]) [.i 5] [.i 0, .b false, .b false, .b false]) [.i 6] [.i 0, .b false, .b false, .b false]) [.i 7] [.i 0, .b false, .b false, .b true]
def needF (kind : Int) : NeR := if kind = 1 then ⟨1, true, false, false⟩ else if kind = 2 then ⟨2, true, true, false⟩ else if kind = 3 then ⟨2, true, false, false⟩ else if kind = 7 then ⟨0, false, false, true⟩ else ⟨0, false, false, false⟩
structure OkA (a : AcR) : Prop where
  k1 : 1 ≤ a.kind
  k7 : a.kind ≤ 7
  cell : a.kind ≤ 3 → 0 ≤ a.page ∧ a.page < 3 ∧ 0 ≤ a.slot ∧ a.slot < 16
  data : a.data.size ≤ 12
  no : a.kind ≠ 2 → a.data = ⟨#[]⟩
noncomputable def g61 (vs : List V) (E : Mem) (nx : Nat) (k : KVk) : Prop := match vs, E, nx with
  | [], [], 0 => k (.c (.mp 0)) [(0, .P false true [.i .i64] shNe needL)] 1
  | _, _, _ => False
noncomputable def T61 : Ct := (61, g61) :: T68
structure WrP (a : AcR) (e : Int) : Prop where
  ok : e = 0 → OkA a
def g60 (rs : List Row) (k : V → Prop) : Prop := ∃ (q : KV) (a : AcR), rs = [kR q, acR a] ∧ ∀ e, WrP a e → k (.c (.i .i64 e))
noncomputable def T60 : Ct := (60, ctF (psF Tryz.prog 60) g60) :: T61
def wroL : Lp := [(1006, .e (Int × Int) (fun j => [(7, .c (.i .i64 j.1)), (8, .c (.i .i64 j.2))]) (fun _ => []) 0 []), (1008, .e (Int × Int) (fun j => [(7, .c (.i .i64 j.1)), (8, .c (.i .i64 j.2))]) (fun _ => []) 0 [])]
structure OwV (d : Dg) (t : TxR) : Prop where
  inv : KInv d.q d.wr
  m : t ∈ d.q.ts
  id : t.id = d.tx
def g127 (vs : List V) (E : Mem) (nx : Nat) (k : KVk) : Prop := match vs, E, nx with
  | [.c (.pv 0 0)], [(0, .R s r)], 1 => fk (shEq s shDo) (∃ (d : Dg) (t : TxR), OwV d t ∧ r = dgR d ∧ k (.r shTx (txR t)) [(0, .R shDo (dgR d))] 1) False
  | _, _, _ => False
noncomputable def T127 : Ct := (127, g127) :: T60
structure LkD (q : KV) (wr : List Pg) (hs ws : List G) : Prop where
  inv : KInv ⟨q.n, q.l, q.dur, q.size, q.hand, q.fs, hs, ws, q.ts, q.rows⟩ wr
def setLk (q : KV) (hs ws : List G) : KV := ⟨q.n, q.l, q.dur, q.size, q.hand, q.fs, hs, ws, q.ts, q.rows⟩
structure DpV (d : Dg) (t : TxR) : Prop where
  own : OwV d t
  len : d.q.l.length ≤ 2000
def g129 (vs : List V) (E : Mem) (nx : Nat) (k : KVk) : Prop := match vs, E, nx with
  | [.c (.pv 0 0)], [(0, .R s r)], 1 => fk (shEq s shDo) (∃ (d : Dg) (t : TxR), DpV d t ∧ r = dgR d ∧ ∀ hs ws, LkD d.q d.wr hs ws → k (.t []) [(0, .R shDo (dgX (setLk d.q hs ws) d.tx d.a d.nd d.r))] 1) False
  | _, _, _ => False
noncomputable def T129 : Ct := (129, g129) :: T127
def drL (d : Dg) : Lp := [(3, .e (Nat × List (Row × Row)) (fun j => [(14, .c (.i .i64 (Int.ofNat j.1)))]) (fun j => [(1, .P true false [.i .i64, .i .i64] [.b] j.2)]) 0 []),
  (10, .e (Nat × List G × List G) (fun j => [(46, .c (.i .i64 (Int.ofNat j.1)))]) (fun j => [(0, .R shDo (dgX (setLk d.q j.2.1 j.2.2) d.tx d.a d.nd d.r))]) 0 [])]
structure AbV (d : Dg) (t : TxR) : Prop where
  own : OwV d t
  act : t.state = 1
  len : d.q.l.length ≤ 1990
structure AbP (d : Dg) (q' : KV) : Prop where
  inv : KInv q' d.wr
  len : q'.l.length ≤ d.q.l.length + 1
  n : q'.n = d.q.n
def g66 (vs : List V) (E : Mem) (nx : Nat) (k : KVk) : Prop := match vs, E, nx with
  | [.c (.pv 0 0), .c (.i .i64 st)], [(0, .R s r)], 1 => fk (shEq s shDo) (∃ (d : Dg) (t : TxR), AbV d t ∧ r = dgR d ∧ ∀ q', AbP d q' → k (.c (.b true)) [(0, .R shDo (dgX q' d.tx d.a d.nd ⟨st, 0, 0, (false, ⟨#[]⟩), 0⟩))] 1) False
  | _, _, _ => False
noncomputable def T66 : Ct := (66, g66) :: T129
theorem vc61  (k : KVk) : dbody Tryz.prog (dcall Tryz.prog T68 (fun _ => []) 5) [] false 61 [] [] 0 k = (k (.c (.mp 0)) [(0, .P false true [.i .i64] [.i .i64, .b, .b, .b] (mput (mput (mput (mput (mput (mput
  (mput [] [DV.i 1] [DV.i 1, DV.b true, DV.b false, DV.b false]) [DV.i 2] [DV.i 2, DV.b true, DV.b true, DV.b false]) [DV.i 3] [DV.i 2, DV.b true, DV.b false, DV.b false]) [DV.i 4] [DV.i 0, DV.b false, DV.b false, DV.b
  false]) [DV.i 5] [DV.i 0, DV.b false, DV.b false, DV.b false]) [DV.i 6] [DV.i 0, DV.b false, DV.b false, DV.b false]) [DV.i 7] [DV.i 0, DV.b false, DV.b false, DV.b true]))] 1) := by kernel_rfl
theorem vc60 (q : KV) (a : AcR) (k : KVk) : dbody Tryz.prog (dcall Tryz.prog T61 (fun _ => []) 5) wroL true 60 (argVs (psF Tryz.prog 60) [kR q, acR a]) [] 0 k = (∃ (I : Int × Int → Prop), fk (rb
  (mget needL [DV.i a.kind] [DV.i 0, DV.b false, DV.b false, DV.b false]) 1) (∃ j', I j' ∧ (wr .i64 (xsub 3 1) = j'.fst ∧ 15 = j'.snd ∧ True) ∧ (mget needL [DV.i a.kind] [DV.i 0, DV.b false, DV.b false, DV.b false] =
  mget needL [DV.i a.kind] [DV.i 0, DV.b false, DV.b false, DV.b false] ∧ needL = needL ∧ [DV.i a.kind, DV.i a.page, DV.i a.slot, DV.s a.data] = [DV.i a.kind, DV.i a.page, DV.i a.slot, DV.s a.data] ∧ (kR q) = (kR q) ∧
  True) ∧ True) (∃ j', I j' ∧ (0 = j'.fst ∧ 0 = j'.snd ∧ True) ∧ (mget needL [DV.i a.kind] [DV.i 0, DV.b false, DV.b false, DV.b false] = mget needL [DV.i a.kind] [DV.i 0, DV.b false, DV.b false, DV.b false] ∧ needL =
  needL ∧ [DV.i a.kind, DV.i a.page, DV.i a.slot, DV.s a.data] = [DV.i a.kind, DV.i a.page, DV.i a.slot, DV.s a.data] ∧ (kR q) = (kR q) ∧ True) ∧ True) ∧ ∀ (j : Int × Int), I j → ∃ (I : Int × Int → Prop), fk (rb (mget
  needL [DV.i a.kind] [DV.i 0, DV.b false, DV.b false, DV.b false]) 3) (∃ j', I j' ∧ (j.fst = j'.fst ∧ 7 = j'.snd ∧ True) ∧ (mget needL [DV.i a.kind] [DV.i 0, DV.b false, DV.b false, DV.b false] = mget needL [DV.i
  a.kind] [DV.i 0, DV.b false, DV.b false, DV.b false] ∧ needL = needL ∧ [DV.i a.kind, DV.i a.page, DV.i a.slot, DV.s a.data] = [DV.i a.kind, DV.i a.page, DV.i a.slot, DV.s a.data] ∧ (kR q) = (kR q) ∧ True) ∧ True) (∃
  j', I j' ∧ (j.fst = j'.fst ∧ j.snd = j'.snd ∧ True) ∧ (mget needL [DV.i a.kind] [DV.i 0, DV.b false, DV.b false, DV.b false] = mget needL [DV.i a.kind] [DV.i 0, DV.b false, DV.b false, DV.b false] ∧ needL = needL ∧
  [DV.i a.kind, DV.i a.page, DV.i a.slot, DV.s a.data] = [DV.i a.kind, DV.i a.page, DV.i a.slot, DV.s a.data] ∧ (kR q) = (kR q) ∧ True) ∧ True) ∧ ∀ (j : Int × Int), I j → fk (nt (mhas needL [DV.i a.kind])) (k (.c (.i
  .i64 1)) [] 0) (fk (ile 0 a.page) (fk (nt (ile a.page j.fst)) (k (.c (.i .i64 1)) [] 0) (fk (ile 0 a.slot) (fk (nt (ile a.slot j.snd)) (k (.c (.i .i64 1)) [] 0) (fk (nt (rb (mget needL [DV.i a.kind] [DV.i 0, DV.b
  false, DV.b false, DV.b false]) 2)) (fk (nt (seqB a.data ⟨#[]⟩)) (k (.c (.i .i64 1)) [] 0) (fk (ilt 12 (ssz a.data)) (k (.c (.i .i64 22)) [] 0) (k (.c (.i .i64 0)) [] 0))) (fk (ilt 12 (ssz a.data)) (k (.c (.i .i64 22))
  [] 0) (k (.c (.i .i64 0)) [] 0)))) (k (.c (.i .i64 1)) [] 0))) (k (.c (.i .i64 1)) [] 0))) := by kernel_rfl
theorem vc127 (d : Dg) (k : KVk) : dbody Tryz.prog (dcall Tryz.prog T60 (fun _ => []) 5) [] false 127 [.c (.pv 0 0)] [(0, .R shDo (dgR d))] 1 k = (∃ ts id, ts.length ≤ 64 ∧ [[DV.sl (txsR d.q.ts)], [DV.i d.tx]] =
  [[DV.sl (txsR ts)], [DV.i id]] ∧ fk (inR (findT ts id) (ln (txsR d.q.ts))) (k (.r shTx (rw' (txsR d.q.ts) (tn (findT ts id)))) [(0, .R shDo (dgR d))] 1) False) := by kernel_rfl
theorem vc129 (d : Dg) (k : KVk) : dbody Tryz.prog (dcall Tryz.prog T127 (fun _ => []) 5) (drL d) false 129 [.c (.pv 0 0)] [(0, .R shDo (dgR d))] 1 k = (∃ d_1 t, OwV d_1 t ∧ (dgR d) = (dgR d_1) ∧ ∃ (I : Nat ×
  List (Row × Row) → Prop) (μ : Nat × List (Row × Row) → Nat), (∃ j, I j ∧ (0 = Int.ofNat j.fst ∧ True) ∧ ([] = j.snd ∧ (dgR d_1) = (dgR d_1) ∧ True) ∧ True) ∧ ∀ (j : Nat × List (Row × Row)), I j → fk (ilt (Int.ofNat
  j.fst) (ln (isR t.pend))) (fk (inR (Int.ofNat j.fst) (ln (isR t.pend))) (∃ l dur i e, GeV l dur i e ∧ [(logR d_1.q.l d_1.q.dur), [DV.i (ri (rw' (isR t.pend) (tn (Int.ofNat j.fst))) 0)]] = [(logR l dur), [DV.i (xadd
  (Int.ofNat i) 1)]] ∧ ∃ j', I j' ∧ lessN (μ j') (μ j) ∧ (wr .i64 (xadd (Int.ofNat j.fst) 1) = Int.ofNat j'.fst ∧ True) ∧ (mput j.snd [DV.i e.page, DV.i e.slot] [DV.b true] = j'.snd ∧ (dgR d_1) = (dgR d_1) ∧ True) ∧
  True) False) (∃ (I : Nat × List G × List G → Prop) (μ : Nat × List G × List G → Nat), (∃ j_1, I j_1 ∧ (0 = Int.ofNat j_1.fst ∧ True) ∧ ((dgR d_1) = (kR (setLk d.q j_1.snd.fst j_1.snd.snd) ++ dgT d.tx d.a d.nd d.r) ∧
  j.snd = j.snd ∧ True) ∧ True) ∧ ∀ (j_1 : Nat × List G × List G), I j_1 → fk (ilt (Int.ofNat j_1.fst) (ln (gsR d_1.q.hs))) (fk (inR (Int.ofNat j_1.fst) (ln (gsR d_1.q.hs))) (fk (ieq (ri (rw' (gsR d_1.q.hs) (tn
  (Int.ofNat j_1.fst))) 0) d.tx) (fk (nt (rb (mget j.snd [DV.i (ri (rw' (gsR d_1.q.hs) (tn (Int.ofNat j_1.fst))) 1), DV.i (ri (rw' (gsR d_1.q.hs) (tn (Int.ofNat j_1.fst))) 2)] [DV.b false]) 0)) (∃ hs ws tx page slot, LkV
  hs ws ∧ [[DV.sl (gsR (setLk d.q j_1.snd.fst j_1.snd.snd).hs), DV.sl (gsR (setLk d.q j_1.snd.fst j_1.snd.snd).ws)], [DV.i d.tx], [DV.i (ri (rw' (gsR d_1.q.hs) (tn (Int.ofNat j_1.fst))) 1), DV.i (ri (rw' (gsR d_1.q.hs)
  (tn (Int.ofNat j_1.fst))) 2)]] = [(lkR hs ws), [DV.i tx], [DV.i page, DV.i slot]] ∧ ∃ j', I j' ∧ lessN (μ j') (μ j_1) ∧ (wr .i64 (xadd (Int.ofNat j_1.fst) 1) = Int.ofNat j'.fst ∧ True) ∧ (([DV.i 3, DV.i ((setLk d.q
  j_1.snd.fst j_1.snd.snd).n + 1), DV.i 1, DV.sl (ensR (setLk d.q j_1.snd.fst j_1.snd.snd).l), DV.i (setLk d.q j_1.snd.fst j_1.snd.snd).dur, DV.i (setLk d.q j_1.snd.fst j_1.snd.snd).size, DV.sl (frsR (setLk d.q
  j_1.snd.fst j_1.snd.snd).fs), DV.i (setLk d.q j_1.snd.fst j_1.snd.snd).hand, DV.sl (gsR (setH (keyF tx page slot hs) ws)), DV.sl (gsR (setW (keyF tx page slot hs) ws)), DV.sl (txsR (setLk d.q j_1.snd.fst
  j_1.snd.snd).ts), DV.sl (rwsR (setLk d.q j_1.snd.fst j_1.snd.snd).rows), DV.sl []] ++ dgT d.tx d.a d.nd d.r) = (kR (setLk d.q j'.snd.fst j'.snd.snd) ++ dgT d.tx d.a d.nd d.r) ∧ j.snd = j.snd ∧ True) ∧ True) (∃ j', I j'
  ∧ lessN (μ j') (μ j_1) ∧ (wr .i64 (xadd (Int.ofNat j_1.fst) 1) = Int.ofNat j'.fst ∧ True) ∧ ((kR (setLk d.q j_1.snd.fst j_1.snd.snd) ++ dgT d.tx d.a d.nd d.r) = (kR (setLk d.q j'.snd.fst j'.snd.snd) ++ dgT d.tx d.a
  d.nd d.r) ∧ j.snd = j.snd ∧ True) ∧ True)) (∃ j', I j' ∧ lessN (μ j') (μ j_1) ∧ (wr .i64 (xadd (Int.ofNat j_1.fst) 1) = Int.ofNat j'.fst ∧ True) ∧ ((kR (setLk d.q j_1.snd.fst j_1.snd.snd) ++ dgT d.tx d.a d.nd d.r) =
  (kR (setLk d.q j'.snd.fst j'.snd.snd) ++ dgT d.tx d.a d.nd d.r) ∧ j.snd = j.snd ∧ True) ∧ True)) False) (k (.t []) [(0, .R shDo (kR (setLk d.q j_1.snd.fst j_1.snd.snd) ++ dgT d.tx d.a d.nd d.r))] 1))) := by kernel_rfl
theorem vc66 (d : Dg) (st : Int) (k : KVk) : dbody Tryz.prog (dcall Tryz.prog T129 (fun _ => []) 5) [] false 66 [.c (.pv 0 0), .c (.i .i64 st)] [(0, .R shDo (dgR d))] 1 k = (∃ hs ws tx, LkV hs ws ∧ [(lkR
  d.q.hs d.q.ws), [DV.i d.tx]] = [(lkR hs ws), [DV.i tx]] ∧ ∃ d_1 t, OwV d_1 t ∧ ([DV.i 3, DV.i (d.q.n + 1), DV.i 1, DV.sl (ensR d.q.l), DV.i d.q.dur, DV.i d.q.size, DV.sl (frsR d.q.fs), DV.i d.q.hand, DV.sl (gsR (setH
  hs (txF tx ws))), DV.sl (gsR (setW hs (txF tx ws))), DV.sl (txsR d.q.ts), DV.sl (rwsR d.q.rows), DV.sl []] ++ dgT d.tx d.a d.nd d.r) = (dgR d_1) ∧ fk (ieq t.last 0) (∃ ts id, ts.length ≤ 64 ∧ [[DV.sl (txsR d_1.q.ts)],
  [DV.i d_1.tx]] = [[DV.sl (txsR ts)], [DV.i id]] ∧ ∃ hs ws tx, LkV hs ws ∧ [(lkR d_1.q.hs d_1.q.ws), [DV.i d_1.tx]] = [(lkR hs ws), [DV.i tx]] ∧ k (.c (.b true)) [(0, .R shDo ([DV.i 3, DV.i (d_1.q.n + 1), DV.i 1, DV.sl
  (ensR d_1.q.l), DV.i d_1.q.dur, DV.i d_1.q.size, DV.sl (frsR d_1.q.fs), DV.i d_1.q.hand, DV.sl (gsR (setH (txF tx hs) (txF tx ws))), DV.sl (gsR (setW (txF tx hs) (txF tx ws))), DV.sl (txsR (Wp.rmT ts id)), DV.sl (rwsR
  d_1.q.rows), DV.sl []] ++ dgT d_1.tx d_1.a d_1.nd ⟨st, 0, 0, (false, ⟨#[]⟩), 0⟩))] 1) (∃ q e, AdV q e ∧ [(kR d_1.q), [DV.i 0, DV.i 4, DV.i d_1.tx, DV.i 0, DV.i 0, DV.i 0, DV.i 0, DV.i 0, DV.b false, DV.s ⟨#[]⟩, DV.b
  false, DV.s ⟨#[]⟩, DV.s ⟨#[]⟩]] = [(kR q), [DV.i 0, DV.i e.kind, DV.i e.tx, DV.i 0, DV.i 0, DV.i e.ref, DV.i e.page, DV.i e.slot, DV.b e.b.fst, DV.s e.b.snd, DV.b e.a.fst, DV.s e.a.snd, DV.s ⟨#[]⟩]] ∧ ∃ d t, DpV d t ∧
  (kR (addK q e) ++ dgT d_1.tx d_1.a d_1.nd d_1.r) = (dgR d) ∧ ∀ (hs ws : List G), LkD d.q d.wr hs ws → k (.c (.b true)) [(0, .R shDo ([DV.i 3, DV.i ((setLk d.q hs ws).n + 1), DV.i 1, DV.sl (ensR (setLk d.q hs ws).l),
  DV.i (setLk d.q hs ws).dur, DV.i (setLk d.q hs ws).size, DV.sl (frsR (setLk d.q hs ws).fs), DV.i (setLk d.q hs ws).hand, DV.sl (gsR hs), DV.sl (gsR ws), DV.sl (txsR (setLk d.q hs ws).ts), DV.sl (rwsR (setLk d.q hs
  ws).rows), DV.sl []] ++ dgT d.tx d.a d.nd ⟨st, 0, 0, (false, ⟨#[]⟩), 0⟩))] 1)) := by kernel_rfl
theorem mhas_put (k v k' : Row) : ∀ l, mhas (mput l k v) k' = (keq k k' || mhas l k') := by
  have go : ∀ l : List (Row × Row), mhas (mputG l k v) k' = (keq k k' || mhas l k') := by
    intro l
    induction l with
    | nil => rfl
    | cons p l ih =>
      rw [mputG]
      cases hb : keq p.1 k with
      | true =>
        have e := keq_iff.1 hb
        show (keq p.1 k' || mhas l k') = (keq k k' || (keq p.1 k' || mhas l k'))
        rw [e]
        cases keq k k' <;> rfl
      | false =>
        show (keq p.1 k' || mhas (mputG l k v) k') = (keq k k' || (keq p.1 k' || mhas l k'))
        rw [ih]
        cases keq p.1 k' <;> cases keq k k' <;> rfl
  exact go
theorem kind_cs {kind : Int} (h1 : 1 ≤ kind) (h7 : kind ≤ 7) : kind = 1 ∨ kind = 2 ∨ kind = 3 ∨ kind = 4 ∨ kind = 5 ∨ kind = 6 ∨ kind = 7 := by omega
theorem need_get {kind : Int} (h1 : 1 ≤ kind) (h7 : kind ≤ 7) (z : Row) : mget needL [.i kind] z = neR (needF kind) := by
  unfold needL
  simp only [mget_put, keq_i]
  rcases kind_cs h1 h7 with h | h | h | h | h | h | h <;> subst h <;> rfl
theorem need_has (kind : Int) : mhas needL [.i kind] = true ↔ 1 ≤ kind ∧ kind ≤ 7 := by
  unfold needL
  simp only [mhas_put, Bool.or_eq_true, keq_i, decide_eq_true_eq]
  have : (mhas [] [DV.i kind] = true) = False := by
    have : mhas [] [DV.i kind] = false := rfl
    rw [this]; simp
  rw [this]
  simp only [or_false]
  omega
theorem need_no {kind : Int} (h : ¬ (1 ≤ kind ∧ kind ≤ 7)) (z : Row) : mget needL [.i kind] z = z := by
  unfold needL
  simp only [mget_put, keq_i]
  rw [decide_eq_false (show ¬ (7 : Int) = kind by omega), decide_eq_false (show ¬ (6 : Int) = kind by omega), decide_eq_false (show ¬ (5 : Int) = kind by omega), decide_eq_false (show ¬ (4 : Int) = kind by omega), decide_eq_false (show ¬ (3 : Int) = kind by omega), decide_eq_false (show ¬ (2 : Int) = kind by omega), decide_eq_false (show ¬ (1 : Int) = kind by omega)]
  rfl
theorem need_cs (kind : Int) : (kind = 1 ∧ needF kind = ⟨1, true, false, false⟩) ∨ (kind = 2 ∧ needF kind = ⟨2, true, true, false⟩) ∨ (kind = 3 ∧ needF kind = ⟨2, true, false, false⟩) ∨ (kind = 7 ∧ needF kind = ⟨0, false, false, true⟩) ∨
    (kind ≠ 1 ∧ kind ≠ 2 ∧ kind ≠ 3 ∧ kind ≠ 7 ∧ needF kind = ⟨0, false, false, false⟩) := by
  unfold needF
  by_cases h1 : kind = 1
  · exact .inl ⟨h1, by rw [if_pos h1]⟩
  by_cases h2 : kind = 2
  · exact .inr (.inl ⟨h2, by rw [if_neg h1, if_pos h2]⟩)
  by_cases h3 : kind = 3
  · exact .inr (.inr (.inl ⟨h3, by rw [if_neg h1, if_neg h2, if_pos h3]⟩))
  by_cases h7 : kind = 7
  · exact .inr (.inr (.inr (.inl ⟨h7, by rw [if_neg h1, if_neg h2, if_neg h3, if_pos h7]⟩)))
  · exact .inr (.inr (.inr (.inr ⟨h1, h2, h3, h7, by rw [if_neg h1, if_neg h2, if_neg h3, if_neg h7]⟩)))
theorem need_cell {kind : Int} (h : 1 ≤ kind) : (needF kind).cell = true ↔ kind ≤ 3 := by
  rcases need_cs kind with ⟨h, e⟩ | ⟨h, e⟩ | ⟨h, e⟩ | ⟨h, e⟩ | ⟨_, _, _, _, e⟩ <;> rw [e] <;> simp <;> omega
theorem need_dat {kind : Int} : (needF kind).dat = true ↔ kind = 2 := by
  rcases need_cs kind with ⟨h, e⟩ | ⟨h, e⟩ | ⟨h, e⟩ | ⟨h, e⟩ | ⟨_, _, _, _, e⟩ <;> rw [e] <;> simp <;> omega
theorem need_two (kind : Int) : ¬ ((needF kind).cell = true ∧ (needF kind).sav = true) := by
  rcases need_cs kind with ⟨h, e⟩ | ⟨h, e⟩ | ⟨h, e⟩ | ⟨h, e⟩ | ⟨_, _, _, _, e⟩ <;> rw [e] <;> simp
theorem need_mode (kind : Int) : ((needF kind).mode = 0 ∨ (needF kind).mode = 1 ∨ (needF kind).mode = 2) ∧ ((needF kind).mode = 0 ↔ (needF kind).cell = false) ∧ ((needF kind).mode = 2 ↔ kind = 2 ∨ kind = 3) ∧ ((needF kind).mode = 1 ↔ kind = 1) := by
  rcases need_cs kind with ⟨h, e⟩ | ⟨h, e⟩ | ⟨h, e⟩ | ⟨h, e⟩ | ⟨_, _, _, _, e⟩ <;> rw [e] <;> simp <;> omega
theorem ok61 : CtOk Tryz.prog T61 := by
  refine ct_raw ok68 fun vs E nx k h => ?_
  unfold g61 at h
  split at h
  · exact ⟨_, _, _, _, (vc61 k).mpr h⟩
  · exact h.elim
theorem ok60 : CtOk Tryz.prog T60 := by
  refine ct_cons ok61 (fz := true) fun rs k h => ?_
  obtain ⟨q, a, rfl, hk⟩ := h
  refine ⟨_, _, _, (vc60 q a k).mpr ?_⟩
  have two : ¬ (rb (mget needL [.i a.kind] [.i 0, .b false, .b false, .b false]) 1 = true ∧ rb (mget needL [.i a.kind] [.i 0, .b false, .b false, .b false]) 3 = true) := by
    by_cases h : 1 ≤ a.kind ∧ a.kind ≤ 7
    · rw [need_get h.1 h.2]; exact need_two a.kind
    · rw [need_no h]; intro c; cases c.1
  refine ⟨fun j => rb (mget needL [.i a.kind] [.i 0, .b false, .b false, .b false]) 1 = true → j = (2, 15), fk_of (fun e => ⟨(2, 15), fun _ => rfl, ⟨rfl, rfl, trivial⟩, ⟨rfl, rfl, rfl, rfl, trivial⟩, trivial⟩) (fun e => ⟨(0, 0), (fun c => by rw [e] at c; cases c), ⟨rfl, rfl, trivial⟩, ⟨rfl, rfl, rfl, rfl, trivial⟩, trivial⟩), ?_⟩
  intro j hj
  refine ⟨fun j => rb (mget needL [.i a.kind] [.i 0, .b false, .b false, .b false]) 1 = true → j = (2, 15), fk_of (fun e => ⟨(j.1, 7), fun c => absurd ⟨c, e⟩ two, ⟨rfl, rfl, trivial⟩, ⟨rfl, rfl, rfl, rfl, trivial⟩, trivial⟩) (fun e => ⟨j, hj, ⟨rfl, rfl, trivial⟩, ⟨rfl, rfl, rfl, rfl, trivial⟩, trivial⟩), ?_⟩
  intro j hj
  have bad : ∀ e : Int, e ≠ 0 → k (.c (.i .i64 e)) [] 0 := fun e he => hk e ⟨fun h => absurd h he⟩
  refine fk_of (fun e => bad 1 (by decide)) fun h1 => fk_of (fun h2 => fk_of (fun e => bad 1 (by decide)) fun h3 => fk_of (fun h4 => fk_of (fun e => bad 1 (by decide)) fun h5 => ?_) fun e => bad 1 (by decide)) fun e => bad 1 (by decide)
  have hr := (need_has a.kind).1 (nt_f h1)
  have h2 := ile_t h2; have h3 := ile_t (nt_f h3); have h4 := ile_t h4; have h5 := ile_t (nt_f h5)
  rw [need_get hr.1 hr.2] at hj ⊢
  have hcell : a.kind ≤ 3 → 0 ≤ a.page ∧ a.page < 3 ∧ 0 ≤ a.slot ∧ a.slot < 16 := fun h => by
    have := hj ((need_cell hr.1).2 h)
    subst this
    dsimp only at h3 h5
    omega
  have fin : a.data.size ≤ 12 → (a.kind ≠ 2 → a.data = ⟨#[]⟩) → k (.c (.i .i64 0)) [] 0 := fun h h' => hk 0 ⟨fun _ => ⟨hr.1, hr.2, hcell, h, h'⟩⟩
  refine fk_of (fun e => fk_of (fun _ => bad 1 (by decide)) fun e2 => fk_of (fun _ => bad 22 (by decide)) fun e3 => ?_) fun e => fk_of (fun _ => bad 22 (by decide)) fun e3 => ?_
  · have e2 : a.data = ⟨#[]⟩ := of_decide_eq_true (nt_f e2)
    have e3 : (a.data.size : Int) ≤ 12 := ilt_f e3
    exact fin (by omega) fun _ => e2
  · have e : (needF a.kind).dat = true := nt_f e
    have e3 : (a.data.size : Int) ≤ 12 := ilt_f e3
    exact fin (by omega) fun c => absurd (need_dat.1 e) c
theorem Wp.TxOk.v {l : List En} {n : Int} {t : TxR} (h : TxOk l n t) (hn : n ≤ 12) (hl : l.length ≤ 4000) : TxV t := by
  have a1 := h.id0; have a2 := h.id1; have a3 := h.last
  have a4 := lastBy_le (ofTx t.id) l
  obtain ⟨p1, p2, p3⟩ := h.pendOk
  unfold lastTx at a3
  exact ⟨a1, by omega, h.st, by omega, by omega, by omega, p1, p2, h.saves.1, h.saves.2.1, h.saves.2.2⟩
theorem Wp.KInv.val {q : KV} {wr : List Pg} (h : KInv q wr) (hl : q.l.length ≤ 4000) : KVal q := by
  have n1 := h.n12
  refine ⟨h.n0, n1, ⟨fun i e he => h.log.right he, h.d0, h.d1, by omega⟩, ⟨h.pool.valid h.log (by omega), fun f hf => (h.pool.each f hf).pg.len⟩, fun f hf => (h.pool.each f hf).pg.id3, ⟨h.validT⟩, fun g hg => (h.lk.own g (by simp [hg])).2, fun g hg => (h.lk.own g (by simp [hg])).2, ⟨fun t ht => (h.tbl.each t ht).v n1 hl, h.tbl.srt, by have := h.tbl.len h.n0; omega⟩, fun t ht => (h.tbl.each t ht).id1, h.pool.rows3, fun r hr => ?_⟩
  obtain ⟨i, hi⟩ := List.getElem?_of_mem hr
  obtain ⟨r0, r1⟩ := h.pool.rowsLe i r hi
  have := lastBy_le (ofPg i) q.l
  unfold lastPg at r1
  exact ⟨r0, by omega⟩
theorem ok127 : CtOk Tryz.prog T127 := by
  refine ct_raw ok60 fun vs E nx k h => ?_
  unfold g127 at h
  split at h
  · rename_i s r
    obtain ⟨h1, d, t, hv, rfl, hk⟩ := fk_yes h
    have := shEq_eq _ _ h1
    subst this
    have hn := hv.inv.tbl.len hv.inv.n0
    have h12 := hv.inv.n12
    obtain ⟨i, hi⟩ := List.getElem?_of_mem hv.m
    have hil := (List.getElem?_eq_some_iff.1 hi).1
    refine ⟨_, _, _, _, (vc127 d k).mpr ⟨d.q.ts, d.tx, by omega, rfl, ?_⟩⟩
    rw [show findT d.q.ts d.tx = i from hv.id ▸ findT_at hv.inv.tbl.srt hi, tn_cast, txs_at hi]
    repeat (first | (refine fk_t ?_ ?_; focus (first | rfl | (simp (disch := omega) only [FS, eq_self, List.length_cons, List.length_nil, true_and, and_true, ssz, xadd, xsub, xmul, xmin, xmax] <;> omega) | omega)) | (refine fk_n ?_ ?_; focus (first | rfl | (simp (disch := omega) only [FS, eq_self, List.length_cons, List.length_nil, true_and, and_true, ssz, xadd, xsub, xmul, xmin, xmax] <;> omega) | omega)))
    exact hk
  · exact h.elim
theorem drop_eq {hs ws : List G} (hv : validT hs ws = true) (g : G) : dropF g hs ws = (setH (keyF g.tx g.page g.slot hs) ws, setW (keyF g.tx g.page g.slot hs) ws) := by
  unfold dropF withoutF
  rw [if_pos hv, show ws.filter (fun _ => !false) = ws from List.filter_eq_self.2 fun _ _ => rfl]
  rfl
theorem rel_eq {hs ws : List G} (hv : validT hs ws = true) (tx : Int) : releaseF tx hs ws = (setH (txF tx hs) (txF tx ws), setW (txF tx hs) (txF tx ws)) := by
  unfold releaseF withoutF
  rw [if_pos hv]
  rfl
theorem can_eq {hs ws : List G} (hv : validT hs ws = true) (tx : Int) : cancelF tx hs ws = (setH hs (txF tx ws), setW hs (txF tx ws)) := by
  unfold cancelF withoutF
  rw [if_pos hv, show hs.filter (fun _ => !false) = hs from List.filter_eq_self.2 fun _ _ => rfl]
  rfl
theorem ok129 : CtOk Tryz.prog T129 := by
  refine ct_raw ok127 fun vs E nx k h => ?_
  unfold g129 at h
  split at h
  · rename_i s r
    obtain ⟨h1, d, t, hv, rfl, hk⟩ := fk_yes h
    have := shEq_eq _ _ h1
    subst this
    have inv := hv.own.inv
    have hl := hv.len
    have kv := inv.val (by omega)
    have hlk := kv.lk.len
    have tok := inv.tbl.each t hv.own.m
    have hpl : t.pend.length ≤ 2000 := Nat.le_trans tok.pendOk.2.2 hl
    refine ⟨_, _, _, _, (vc129 d k).mpr ⟨d, t, hv.own, rfl, fun j => j.1 ≤ t.pend.length ∧ ∀ (i : Nat) (n : Int), i < j.1 → t.pend[i]? = some n → ∀ x, d.q.l[(n - 1).toNat]? = some x → mget j.2 [.i x.page, .i x.slot] [.b false] = [.b true], fun j => t.pend.length - j.1,
      ⟨(0, []), ⟨Nat.zero_le _, fun i n h => absurd h (Nat.not_lt_zero _)⟩, ⟨rfl, trivial⟩, ⟨rfl, rfl, trivial⟩, trivial⟩, ?_⟩⟩
    rintro ⟨j, M⟩ ⟨hj, hM⟩
    dsimp only at hj hM ⊢
    refine fk_of (fun e => ?_) fun e => ?_
    · have hjl : j < t.pend.length := by have := ilt_t e; rw [ln_is] at this; simpa using this
      obtain ⟨n, hn⟩ := at_lt hjl
      obtain ⟨i, x, rfl, hx, hk1, ht1⟩ := tok.pendAt (List.mem_of_getElem? hn)
      rw [tn_ofNat, is_at hn]
      refine fk_t (by (first | rfl | (simp (disch := omega) only [FS, eq_self, List.length_cons, List.length_nil, true_and, and_true, ssz, xadd, xsub, xmul, xmin, xmax] <;> omega) | omega)) ⟨d.q.l, d.q.dur, i, x, ⟨kv.log, hx⟩, rfl, (j + 1, mput M [.i x.page, .i x.slot] [.b true]), ⟨hjl, fun i' n' hi' hn' y hy => ?_⟩, (by show t.pend.length - (j + 1) < t.pend.length - j; omega), ⟨wr_id (n := (j : Int) + 1) (by omega) (by omega), trivial⟩, ⟨rfl, rfl, trivial⟩, trivial⟩
      dsimp only at hi' ⊢
      rw [mget_put]
      cases c : keq [DV.i x.page, DV.i x.slot] [DV.i y.page, DV.i y.slot] with
      | true => rfl
      | false =>
        show mget M _ _ = _
        rcases Nat.lt_or_eq_of_le (Nat.le_of_lt_succ hi') with h | rfl
        · exact hM i' n' h hn' y hy
        · rw [hn] at hn'
          cases hn'
          rw [show ((i : Int) + 1 - 1).toNat = i by omega, hx] at hy
          cases hy
          rw [keq_iff.2 rfl] at c; cases c
    · have hjl : j = t.pend.length := by have := ilt_f e; rw [ln_is] at this; simp at this; omega
      subst hjl
      have all : ∀ x ∈ d.q.l, x.kind = 1 → x.tx = d.tx → mget M [.i x.page, .i x.slot] [.b false] = [.b true] := fun x hx h1 h2 => by
        obtain ⟨i, hi, hp⟩ := tok.pendAll hx h1 (h2.trans hv.own.id.symm)
        obtain ⟨i', hi'⟩ := List.getElem?_of_mem hp
        exact hM i' _ (List.getElem?_eq_some_iff.1 hi').1 hi' x (by rw [show ((i : Int) + 1 - 1).toNat = i by omega]; exact hi)
      refine ⟨fun j => j.1 ≤ d.q.hs.length ∧ KInv (setLk d.q j.2.1 j.2.2) d.wr, fun j => d.q.hs.length - j.1, ⟨(0, d.q.hs, d.q.ws), ⟨Nat.zero_le _, inv⟩, ⟨rfl, trivial⟩, ⟨rfl, rfl, trivial⟩, trivial⟩, ?_⟩
      rintro ⟨i, hs, ws⟩ ⟨hi, hI⟩
      dsimp only at hi hI ⊢
      refine fk_of (fun e => ?_) fun e => hk hs ws ⟨hI⟩
      have hil : i < d.q.hs.length := by have := ilt_t e; rw [ln_gs] at this; simpa using this
      obtain ⟨g, hg⟩ := at_lt hil
      have w1 : wr .i64 (xadd (Int.ofNat i) 1) = ((i + 1 : Nat) : Int) := wr_id (n := (i : Int) + 1) (by omega) (by omega)
      rw [tn_ofNat, gs_at hg, w1]
      refine fk_t (by (first | rfl | (simp (disch := omega) only [FS, eq_self, List.length_cons, List.length_nil, true_and, and_true, ssz, xadd, xsub, xmul, xmin, xmax] <;> omega) | omega)) (fk_of (fun e1 => fk_of (fun e2 => ?_) fun _ => ?_) fun _ => ?_)
      · have e1 : g.tx = d.tx := ieq_t e1
        refine ⟨hs, ws, d.tx, g.page, g.slot, ⟨hI.validT⟩, rfl, (i + 1, setH (keyF d.tx g.page g.slot hs) ws, setW (keyF d.tx g.page g.slot hs) ws), ⟨hil, ?_⟩, (by show d.q.hs.length - (i + 1) < d.q.hs.length - i; omega), ⟨rfl, trivial⟩, ⟨rfl, rfl, trivial⟩, trivial⟩
        have := hI.drop (g := g) fun x hx h1 h2 c => by
          have := all x hx h1 (h2.trans e1)
          rw [c.1, c.2] at this
          have e2 := nt_t e2
          rw [show mget M [DV.i (ri (gR g) 1), DV.i (ri (gR g) 2)] [DV.b false] = [.b true] from this] at e2
          cases e2
        rw [drop_eq hI.validT g, e1] at this
        exact this
      · exact ⟨(i + 1, hs, ws), ⟨hil, hI⟩, (by show d.q.hs.length - (i + 1) < d.q.hs.length - i; omega), ⟨rfl, trivial⟩, ⟨rfl, rfl, trivial⟩, trivial⟩
      · exact ⟨(i + 1, hs, ws), ⟨hil, hI⟩, (by show d.q.hs.length - (i + 1) < d.q.hs.length - i; omega), ⟨rfl, trivial⟩, ⟨rfl, rfl, trivial⟩, trivial⟩
  · exact h.elim
theorem noteT_f {ts : List TxR} (h : ts.Pairwise fun a b => a.id < b.id) {t : TxR} (ht : t ∈ ts) : ts.find? (fun s => s.id == t.id) = some t := by
  obtain ⟨i, hi⟩ := List.getElem?_of_mem ht
  have hil := (List.getElem?_eq_some_iff.1 hi).1
  rw [List.find?_eq_some_iff_getElem]
  refine ⟨by simp, i, hil, (List.getElem?_eq_some_iff.1 hi).2, fun j hj => ?_⟩
  have := srt_lt h hj (List.getElem?_eq_getElem (by omega)) hi
  simp; omega
theorem note_1 {ts : List TxR} (h : ts.Pairwise fun a b => a.id < b.id) {t : TxR} (ht : t ∈ ts) (h0 : 1 ≤ t.id) {e : En} (he : e.tx = t.id) (hk : e.kind = 1) (n : Int) : noteT ts n e = setT ts { t with last := n, pend := t.pend ++ [n] } := by
  unfold noteT
  rw [if_neg (by omega), if_neg (by omega), he, noteT_f h ht]
  simp only
  rw [if_pos hk]
theorem note_4 {ts : List TxR} (h : ts.Pairwise fun a b => a.id < b.id) {t : TxR} (ht : t ∈ ts) (h0 : 1 ≤ t.id) {e : En} (he : e.tx = t.id) (hk : e.kind = 4) (n : Int) : noteT ts n e = setT ts { t with state := 3, last := n, saves := [] } := by
  unfold noteT
  rw [if_neg (by omega), if_neg (by omega), he, noteT_f h ht]
  simp only
  rw [if_neg (by omega)]
theorem note_3 {ts : List TxR} {e : En} (h0 : e.tx ≠ 0) (hk : e.kind = 3) (n : Int) : noteT ts n e = rmT ts e.tx := by
  unfold noteT
  rw [if_neg h0, if_pos hk]
theorem noteI_no {rows : List Int} {e : En} (hk : e.kind ≠ 7) : noteI rows e = rows := by unfold noteI; rw [if_neg hk]
theorem AdV.pl_of {q : KV} {wr : List Pg} (h : KInv q wr) (hl : q.l.length ≤ 2000) : ∀ t ∈ q.ts, t.pend.length < 2048 := fun t ht => by
  have := (h.tbl.each t ht).pendOk.2.2
  omega
theorem addK_4 {q : KV} {wr : List Pg} (h : KInv q wr) {t : TxR} (ht : t ∈ q.ts) {e : En} (he : e.tx = t.id) (hk : e.kind = 4) : addK q e = { q with l := q.l ++ [e], ts := setT q.ts { t with state := 3, last := q.l.length + 1, saves := [] } } := by
  unfold addK
  rw [note_4 h.tbl.srt ht (h.tbl.each t ht).id0 he hk, noteI_no (by omega)]
theorem end_ok {q : KV} {wr : List Pg} (h : KInv q wr) {t : TxR} (ht : t ∈ q.ts) {kind : Int} (hk : kind = 3 ∨ kind = 4) (h0 : t.last ≠ 0) : EnR q.l.length ⟨kind, t.id, t.last, 0, 0, 0, 0, noCl, noCl⟩ := by
  have a := h.tbl.each t ht
  have a1 := a.id0; have a2 := a.id1; have a3 := h.n12; have a4 := a.last
  have a5 := lastBy_le (ofTx t.id) q.l
  unfold lastTx at a4
  exact ⟨by dsimp only; omega, by dsimp only; omega, Int.le_refl _, by dsimp only; omega, Int.le_refl _, by dsimp only; omega, Int.le_refl _, by dsimp only; omega, .inr (.inl ⟨hk, a1, by dsimp only; omega, by dsimp only; omega, rfl, rfl, rfl, rfl, rfl, rfl⟩)⟩
theorem end_adv {q : KV} {wr : List Pg} (h : KInv q wr) (hl : q.l.length ≤ 2000) {t : TxR} (ht : t ∈ q.ts) (ha : t.state = 1) {kind : Int} (hk : kind = 3 ∨ kind = 4) (h0 : t.last ≠ 0) : AdV q ⟨kind, t.id, t.last, 0, 0, 0, 0, noCl, noCl⟩ :=
  ⟨h.val (by omega), end_ok h ht hk h0, hl, (by decide : (0 : Int) < 3), by dsimp only; omega, fun _ => ⟨t, ht, rfl, ha, rfl⟩, AdV.pl_of h hl, fun c => by dsimp only at c; omega⟩
theorem ok66 : CtOk Tryz.prog T66 := by
  refine ct_raw ok129 fun vs E nx k h => ?_
  unfold g66 at h
  split at h
  · rename_i st s r
    obtain ⟨h1, d, t, hv, rfl, hk⟩ := fk_yes h
    have := shEq_eq _ _ h1
    subst this
    have inv := hv.own.inv
    have hl := hv.len
    have hid := hv.own.id
    have inv1 : KInv (setLk d.q (setH d.q.hs (txF d.tx d.q.ws)) (setW d.q.hs (txF d.tx d.q.ws))) d.wr := by
      have := inv.cancel d.tx
      rw [can_eq inv.validT] at this
      exact this
    have hn := inv.tbl.len inv.n0
    have h12 := inv.n12
    refine ⟨_, _, _, _, (vc66 d st k).mpr ⟨d.q.hs, d.q.ws, d.tx, ⟨inv.validT⟩, rfl, { d with q := setLk d.q (setH d.q.hs (txF d.tx d.q.ws)) (setW d.q.hs (txF d.tx d.q.ws)) }, t, ⟨inv1, hv.own.m, hid⟩, rfl, fk_of (fun e => ?_) fun e => ?_⟩⟩
    · have g := inv1.gone (t := t) hv.own.m (ieq_t e)
      rw [rel_eq inv1.validT, hid] at g
      exact ⟨d.q.ts, d.tx, by omega, rfl, _, _, d.tx, ⟨inv1.validT⟩, rfl, hk _ ⟨g, Nat.le_succ _, rfl⟩⟩
    · have h0 := ieq_f e
      have adv := end_adv inv1 (show d.q.l.length ≤ 2000 by omega) hv.own.m hv.act (.inr rfl) h0
      have ab := inv1.abort hv.own.m hv.act adv.ev rfl rfl rfl
      have ae := addK_4 inv1 hv.own.m (e := ⟨4, t.id, t.last, 0, 0, 0, 0, noCl, noCl⟩) rfl rfl
      rw [← ae] at ab
      have ln2 : (addK (setLk d.q (setH d.q.hs (txF d.tx d.q.ws)) (setW d.q.hs (txF d.tx d.q.ws))) ⟨4, t.id, t.last, 0, 0, 0, 0, noCl, noCl⟩).l.length = d.q.l.length + 1 := by
        show (d.q.l ++ [_]).length = _
        rw [List.length_append, List.length_singleton]
      refine ⟨_, _, adv, by rw [hid]; rfl, { d with q := addK (setLk d.q (setH d.q.hs (txF d.tx d.q.ws)) (setW d.q.hs (txF d.tx d.q.ws))) ⟨4, t.id, t.last, 0, 0, 0, 0, noCl, noCl⟩ }, { t with state := 3, last := d.q.l.length + 1, saves := [] }, ⟨⟨ab, ?_, hid⟩, by dsimp only; omega⟩, rfl, fun hs ws hl => hk _ ⟨hl.inv, ?_, rfl⟩⟩
      · dsimp only
        rw [ae]
        exact setT_has hv.own.m rfl
      · exact Nat.le_of_eq ln2
  · exact h.elim
end Go.Proofs.YtgjindhjgmplgaaGreat
