/-
  KernelPlays: the steps of an action: contracts of doing.check, lock, fetch, read, write, rest.
-/
import Derived.Test.YtgjindhjgmplgaaGreatKzP
set_option linter.unusedVariables false
set_option linter.unusedSimpArgs false
set_option maxRecDepth 100000
namespace Go.Proofs.YtgjindhjgmplgaaGreat
open Wp
def stG (Pre : Dg → Prop) (Post : Dg → Bool → Dg → Prop) (vs : List V) (E : Mem) (nx : Nat) (k : KVk) : Prop := match vs, E, nx with
  | [.c (.pv 0 0)], [(0, .R s r)], 1 => fk (shEq s shDo) (∃ d, Pre d ∧ r = dgR d ∧ ∀ b d', Post d b d' → k (.c (.b b)) [(0, .R shDo (dgR d'))] 1) False
  | _, _, _ => False
structure Stay (d d' : Dg) : Prop where
  wr : d'.wr = d.wr
  tx : d'.tx = d.tx
  a : d'.a = d.a
structure CkA (d : Dg) : Prop where
  inv : KInv d.q d.wr
  len : d.q.l.length ≤ 1990
structure CkP (d : Dg) (b : Bool) (d' : Dg) : Prop where
  stay : Stay d d'
  q : d'.q = d.q
  yes : b = true → d'.r.st = 5
  no : b = false → d'.r = d.r ∧ d'.nd = needF d.a.kind ∧ OkA d.a ∧ ∃ t ∈ d.q.ts, t.id = d.tx ∧ t.state = 1
noncomputable def T25 : Ct := (25, stG CkA CkP) :: T66
structure LoA (d : Dg) : Prop where
  inv : KInv d.q d.wr
  len : d.q.l.length ≤ 1990
  nd : d.nd = needF d.a.kind
  ok : OkA d.a
  act : ∃ t ∈ d.q.ts, t.id = d.tx ∧ t.state = 1
structure LoP (d : Dg) (b : Bool) (d' : Dg) : Prop where
  stay : Stay d d'
  nd : d'.nd = d.nd
  inv : KInv d'.q d.wr
  len : d'.q.l.length ≤ d.q.l.length + 1
  n : d'.q.n = d.q.n
  yes : b = true → d'.r.st = 2 ∨ d'.r.st = 4 ∨ d'.r.st = 5
  no : b = false → d'.r = d.r ∧ d'.q = setLk d.q d'.q.hs d'.q.ws ∧ (d.nd.mode ≠ 0 → ∃ y ∈ d'.q.hs, y.tx = d.tx ∧ y.page = d.a.page ∧ y.slot = d.a.slot ∧ d.nd.mode ≤ y.mode)
noncomputable def T26 : Ct := (26, stG LoA LoP) :: T25
structure FeA (d : Dg) : Prop where
  inv : KInv d.q d.wr
  len : d.q.l.length ≤ 1990
structure FeP (d : Dg) (b : Bool) (d' : Dg) : Prop where
  no : b = false → d' = d ∧ (d.nd.cell = true → ∃ i, findFr d.q.fs d.a.page = some i)
  yes : b = true → d' = { d with r := ⟨3, 0, d.a.page, noCl, 0⟩ } ∧ d.nd.cell = true ∧ findFr d.q.fs d.a.page = none
noncomputable def T27 : Ct := (27, stG FeA FeP) :: T26
structure ReA (d : Dg) : Prop where
  inv : KInv d.q d.wr
  len : d.q.l.length ≤ 1990
  ok : OkA d.a
  pg : d.a.kind = 1 → ∃ i, findFr d.q.fs d.a.page = some i
structure ReP (d : Dg) (b : Bool) (d' : Dg) : Prop where
  no : b = false → d' = d ∧ d.a.kind ≠ 1
  yes : b = true → d.a.kind = 1 ∧ ∃ i f, findFr d.q.fs d.a.page = some i ∧ d.q.fs[i]? = some f ∧ d' = { d with q := { d.q with fs := useF d.q.fs d.a.page }, r := ⟨1, 0, 0, clA f.pg.cells d.a.slot.toNat, 0⟩ }
noncomputable def T28 : Ct := (28, stG ReA ReP) :: T27
abbrev shCh : Sh := [.i .i64, .i .i64, .b, .s, .b, .s]
structure ApyV (p : Pg) (slot : Int) (b a : Cl) : Prop where
  ch : ChV p.id slot b a
  len : p.cells.length = 16
  at_ : p.cells[slot.toNat]? = some b
def g73 (rs : List Row) (k : V → Prop) : Prop := ∃ (p : Pg) (slot : Int) (b a : Cl), ApyV p slot b a ∧ rs = [pgR p, [.i (ri (pgR p) 0), .i slot, .b b.1, .s b.2, .b a.1, .s a.2]] ∧ k (.t [.r shPg (pgR ⟨p.id, p.lsn, p.cells.set slot.toNat a⟩), .c (.i .i64 0)])
noncomputable def T73 : Ct := (73, ctF (psF Tryz.prog 73) g73) :: T28
def apyL : Lp := [(1008, .e Unit (fun _ => []) (fun _ => []) 0 [])]
structure WrA (d : Dg) : Prop where
  lo : LoA d
  pg : d.nd.cell = true → ∃ i, findFr d.q.fs d.a.page = some i
  lk : d.nd.mode ≠ 0 → ∃ y ∈ d.q.hs, y.tx = d.tx ∧ y.page = d.a.page ∧ y.slot = d.a.slot ∧ d.nd.mode ≤ y.mode
structure WrQ (d : Dg) (b : Bool) (d' : Dg) : Prop where
  stay : Stay d d'
  no : b = false → d' = d ∧ d.nd.mode ≠ 2
  yes : b = true → KInv d'.q d.wr ∧ d'.q.l.length ≤ d.q.l.length + 1 ∧ d'.r.st = 1 ∧ d.nd.mode = 2 ∧ d'.q.n = d.q.n
noncomputable def T29 : Ct := (29, stG WrA WrQ) :: T73
def wrtL (d : Dg) : Lp := [(1006, .e Cl (fun _ => [(5, .c (.pv 2 0))]) (fun c => [(2, .R shCh [.i d.a.page, .i d.a.slot, .b c.1, .s c.2, .b false, .s ⟨#[]⟩])]) 1 []),
  (1008, .e (Cl × Cl) (fun _ => []) (fun c => [(2, .R shCh [.i d.a.page, .i d.a.slot, .b c.1.1, .s c.1.2, .b c.2.1, .s c.2.2])]) 0 [])]
structure RtA (d : Dg) : Prop where
  inv : KInv d.q d.wr
  len : d.q.l.length ≤ 1990
  act : ∃ t ∈ d.q.ts, t.id = d.tx ∧ t.state = 1
  kind : d.a.kind = 4 ∨ d.a.kind = 6
structure RtP (d : Dg) (b : Bool) (d' : Dg) : Prop where
  stay : Stay d d'
  b : b = true
  inv : d'.r.st = 1 → KInv d'.q d.wr ∧ d'.q.l.length ≤ d.q.l.length + 1 ∧ d'.q.n = d.q.n
  st : d'.r.st = 1 ∨ d'.r.st = 5
noncomputable def T75 : Ct := (75, stG RtA RtP) :: T29
noncomputable def T30x : Ct := (77, noG) :: T75
noncomputable def T30 : Ct := (30, stG RtA RtP) :: T30x
theorem vc25 (d : Dg) (k : KVk) : dbody Tryz.prog (dcall Tryz.prog T66 (fun _ => []) 5) [] false 25 [.c (.pv 0 0)] [(0, .R shDo (dgR d))] 1 k = (∃ ts id, ts.length ≤ 64 ∧ [[DV.sl (txsR d.q.ts)], [DV.i d.tx]] =
  [[DV.sl (txsR ts)], [DV.i id]] ∧ fk (ilt (findT ts id) 0) (k (.c (.b true)) [(0, .R shDo (kR d.q ++ dgT d.tx d.a d.nd ⟨5, 0, 0, (false, ⟨#[]⟩), 16⟩))] 1) (fk (inR (findT ts id) (ln (txsR d.q.ts))) (fk (nt (ieq (ri (rw'
  (txsR d.q.ts) (tn (findT ts id))) 1) 1)) (k (.c (.b true)) [(0, .R shDo (kR d.q ++ dgT d.tx d.a d.nd ⟨5, 0, 0, (false, ⟨#[]⟩), 15⟩))] 1) (∃ q a, [(kR d.q), [DV.i d.a.kind, DV.i d.a.page, DV.i d.a.slot, DV.s d.a.data]]
  = [(kR q), [DV.i a.kind, DV.i a.page, DV.i a.slot, DV.s a.data]] ∧ ∀ (e : Int), WrP a e → fk (nt (ieq e 0)) (k (.c (.b true)) [(0, .R shDo (kR d.q ++ dgT d.tx d.a d.nd ⟨5, 0, 0, (false, ⟨#[]⟩), e⟩))] 1) (∃ hs ws tx,
  LkV hs ws ∧ [(lkR d.q.hs d.q.ws), [DV.i d.tx]] = [(lkR hs ws), [DV.i tx]] ∧ fk (wtB ws tx) (fk (nt (ieq d.a.kind 5)) (fk (nt (an (ieq (ri (wtR ws tx) 0) d.3) (an (ieq (ri (wtR ws tx) 1) d.a.2) (an (ieq (ri (wtR ws tx)
  2) d.a.3) (an (ieq (ri (wtR ws tx) 3) (ri (mget needL [DV.i d.a.kind] [DV.i 0, DV.b false, DV.b false, DV.b false]) 0)) true))))) (k (.c (.b true)) [(0, .R shDo [DV.i 3, DV.i (d.q.n + 1), DV.i 1, DV.sl (ensR d.q.l),
  DV.i d.q.dur, DV.i d.q.size, DV.sl (frsR d.q.fs), DV.i d.q.hand, DV.sl (gsR d.q.hs), DV.sl (gsR d.q.ws), DV.sl (txsR d.q.ts), DV.sl (rwsR d.q.rows), DV.sl [], DV.i d.tx, DV.i d.a.kind, DV.i d.a.page, DV.i d.a.slot,
  DV.s d.a.data, DV.i (ri (mget needL [DV.i d.a.kind] [DV.i 0, DV.b false, DV.b false, DV.b false]) 0), DV.b (rb (mget needL [DV.i d.a.kind] [DV.i 0, DV.b false, DV.b false, DV.b false]) 1), DV.b (rb (mget needL [DV.i
  d.a.kind] [DV.i 0, DV.b false, DV.b false, DV.b false]) 2), DV.b (rb (mget needL [DV.i d.a.kind] [DV.i 0, DV.b false, DV.b false, DV.b false]) 3), DV.i 5, DV.i 0, DV.i 0, DV.b false, DV.s ⟨#[]⟩, DV.i 15])] 1) (k (.c
  (.b false)) [(0, .R shDo [DV.i 3, DV.i (d.q.n + 1), DV.i 1, DV.sl (ensR d.q.l), DV.i d.q.dur, DV.i d.q.size, DV.sl (frsR d.q.fs), DV.i d.q.hand, DV.sl (gsR d.q.hs), DV.sl (gsR d.q.ws), DV.sl (txsR d.q.ts), DV.sl (rwsR
  d.q.rows), DV.sl [], DV.i d.tx, DV.i d.a.kind, DV.i d.a.page, DV.i d.a.slot, DV.s d.a.data, DV.i (ri (mget needL [DV.i d.a.kind] [DV.i 0, DV.b false, DV.b false, DV.b false]) 0), DV.b (rb (mget needL [DV.i d.a.kind]
  [DV.i 0, DV.b false, DV.b false, DV.b false]) 1), DV.b (rb (mget needL [DV.i d.a.kind] [DV.i 0, DV.b false, DV.b false, DV.b false]) 2), DV.b (rb (mget needL [DV.i d.a.kind] [DV.i 0, DV.b false, DV.b false, DV.b
  false]) 3), DV.i d.r.st, DV.i d.r.tx, DV.i d.r.page, DV.b d.r.c.fst, DV.s d.r.c.snd, DV.i d.r.err])] 1)) (k (.c (.b false)) [(0, .R shDo [DV.i 3, DV.i (d.q.n + 1), DV.i 1, DV.sl (ensR d.q.l), DV.i d.q.dur, DV.i
  d.q.size, DV.sl (frsR d.q.fs), DV.i d.q.hand, DV.sl (gsR d.q.hs), DV.sl (gsR d.q.ws), DV.sl (txsR d.q.ts), DV.sl (rwsR d.q.rows), DV.sl [], DV.i d.tx, DV.i d.a.kind, DV.i d.a.page, DV.i d.a.slot, DV.s d.a.data, DV.i
  (ri (mget needL [DV.i d.a.kind] [DV.i 0, DV.b false, DV.b false, DV.b false]) 0), DV.b (rb (mget needL [DV.i d.a.kind] [DV.i 0, DV.b false, DV.b false, DV.b false]) 1), DV.b (rb (mget needL [DV.i d.a.kind] [DV.i 0,
  DV.b false, DV.b false, DV.b false]) 2), DV.b (rb (mget needL [DV.i d.a.kind] [DV.i 0, DV.b false, DV.b false, DV.b false]) 3), DV.i d.r.st, DV.i d.r.tx, DV.i d.r.page, DV.b d.r.c.fst, DV.s d.r.c.snd, DV.i d.r.err])]
  1)) (k (.c (.b false)) [(0, .R shDo [DV.i 3, DV.i (d.q.n + 1), DV.i 1, DV.sl (ensR d.q.l), DV.i d.q.dur, DV.i d.q.size, DV.sl (frsR d.q.fs), DV.i d.q.hand, DV.sl (gsR d.q.hs), DV.sl (gsR d.q.ws), DV.sl (txsR d.q.ts),
  DV.sl (rwsR d.q.rows), DV.sl [], DV.i d.tx, DV.i d.a.kind, DV.i d.a.page, DV.i d.a.slot, DV.s d.a.data, DV.i (ri (mget needL [DV.i d.a.kind] [DV.i 0, DV.b false, DV.b false, DV.b false]) 0), DV.b (rb (mget needL [DV.i
  d.a.kind] [DV.i 0, DV.b false, DV.b false, DV.b false]) 1), DV.b (rb (mget needL [DV.i d.a.kind] [DV.i 0, DV.b false, DV.b false, DV.b false]) 2), DV.b (rb (mget needL [DV.i d.a.kind] [DV.i 0, DV.b false, DV.b false,
  DV.b false]) 3), DV.i d.r.st, DV.i d.r.tx, DV.i d.r.page, DV.b d.r.c.fst, DV.s d.r.c.snd, DV.i d.r.err])] 1)))) False)) := by kernel_rfl
theorem vc26 (d : Dg) (k : KVk) : dbody Tryz.prog (dcall Tryz.prog T25 (fun _ => []) 5) [] false 26 [.c (.pv 0 0)] [(0, .R shDo (dgR d))] 1 k = (fk (ieq d.nd.mode 0) (k (.c (.b false)) [(0, .R shDo (dgR d))] 1)
  ((dgR d) = (dgR d) ∧ ∃ hs ws g, RqV hs ws g ∧ [(lkR d.q.hs d.q.ws), [DV.i d.tx, DV.i d.a.page, DV.i d.a.slot, DV.i d.nd.mode]] = [(lkR hs ws), (gR g)] ∧ fk (reqE hs ws g) (fk (reqO hs ws g) (k (.c (.b false)) [(0, .R
  shDo ([DV.i 3, DV.i (d.q.n + 1), DV.i 1, DV.sl (ensR d.q.l), DV.i d.q.dur, DV.i d.q.size, DV.sl (frsR d.q.fs), DV.i d.q.hand, DV.sl (gsR (reqH hs ws g)), DV.sl (gsR (reqW hs ws g)), DV.sl (txsR d.q.ts), DV.sl (rwsR
  d.q.rows), DV.sl []] ++ dgT d.tx d.a d.nd d.r))] 1) (∃ hs_1 ws_1 tx, LkV hs_1 ws_1 ∧ [[DV.sl (gsR (reqH hs ws g)), DV.sl (gsR (reqW hs ws g))], [DV.i d.tx]] = [(lkR hs_1 ws_1), [DV.i tx]] ∧ ∀ (l : List Int), fk (ilt 0
  (ln (isR l))) (∃ d_1 t, AbV d_1 t ∧ ([DV.i 3, DV.i (d.q.n + 1), DV.i 1, DV.sl (ensR d.q.l), DV.i d.q.dur, DV.i d.q.size, DV.sl (frsR d.q.fs), DV.i d.q.hand, DV.sl (gsR (reqH hs ws g)), DV.sl (gsR (reqW hs ws g)), DV.sl
  (txsR d.q.ts), DV.sl (rwsR d.q.rows), DV.sl []] ++ dgT d.tx d.a d.nd d.r) = (dgR d_1) ∧ ∀ (q' : KV), AbP d_1 q' → k (.c (.b true)) [(0, .R shDo (kR q' ++ dgT d_1.tx d_1.a d_1.nd ⟨4, 0, 0, (false, ⟨#[]⟩), 0⟩))] 1) (∃
  hs_2 ws_2 tx, FrV hs_2 ws_2 tx ∧ [[DV.sl (gsR (reqH hs ws g)), DV.sl (gsR (reqW hs ws g))], [DV.i d.tx]] = [(lkR hs_2 ws_2), [DV.i tx]] ∧ ∀ (l : List Int), FrP l → fk (inR 0 (ln (isR l))) (k (.c (.b true)) [(0, .R shDo
  ([DV.i 3, DV.i (d.q.n + 1), DV.i 1, DV.sl (ensR d.q.l), DV.i d.q.dur, DV.i d.q.size, DV.sl (frsR d.q.fs), DV.i d.q.hand, DV.sl (gsR (reqH hs ws g)), DV.sl (gsR (reqW hs ws g)), DV.sl (txsR d.q.ts), DV.sl (rwsR
  d.q.rows), DV.sl []] ++ dgT d.tx d.a d.nd ⟨2, (ri (rw' (isR l) 0) 0), 0, (false, ⟨#[]⟩), 0⟩))] 1) False))) (k (.c (.b true)) [(0, .R shDo (kR d.q ++ dgT d.tx d.a d.nd ⟨5, 0, 0, (false, ⟨#[]⟩), 15⟩))] 1))) := by
  kernel_rfl
theorem vc27 (d : Dg) (k : KVk) : dbody Tryz.prog (dcall Tryz.prog T26 (fun _ => []) 5) [] false 27 [.c (.pv 0 0)] [(0, .R shDo (dgR d))] 1 k = (fk d.nd.cell (∃ size fs hand id, PoolV size fs hand ∧ [(poolR
  d.q.size d.q.fs d.q.hand), [DV.i d.a.page]] = [(poolR size fs hand), [DV.i id]] ∧ fk (ilt (findI fs id) 0) (k (.c (.b true)) [(0, .R shDo [DV.i 3, DV.i (d.q.n + 1), DV.i 1, DV.sl (ensR d.q.l), DV.i d.q.dur, DV.i
  d.q.size, DV.sl (frsR d.q.fs), DV.i d.q.hand, DV.sl (gsR d.q.hs), DV.sl (gsR d.q.ws), DV.sl (txsR d.q.ts), DV.sl (rwsR d.q.rows), DV.sl [], DV.i d.tx, DV.i d.a.kind, DV.i d.a.page, DV.i d.a.slot, DV.s d.a.data, DV.i
  d.nd.mode, DV.b d.nd.cell, DV.b d.nd.dat, DV.b d.nd.sav, DV.i 3, DV.i 0, DV.i d.a.page, DV.b false, DV.s ⟨#[]⟩, DV.i 0])] 1) (k (.c (.b false)) [(0, .R shDo (dgR d))] 1)) (k (.c (.b false)) [(0, .R shDo (dgR d))] 1))
  := by kernel_rfl
theorem vc28 (d : Dg) (k : KVk) : dbody Tryz.prog (dcall Tryz.prog T27 (fun _ => []) 5) [] false 28 [.c (.pv 0 0)] [(0, .R shDo (dgR d))] 1 k = (fk (nt (ieq d.a.kind 1)) (k (.c (.b false)) [(0, .R shDo (dgR
  d))] 1) (∃ size fs hand id, PoolV size fs hand ∧ [(poolR d.q.size d.q.fs d.q.hand), [DV.i d.a.page]] = [(poolR size fs hand), [DV.i id]] ∧ ∃ size fs_1 hand id_1, PoolV size fs_1 hand ∧ [(poolR d.q.size d.q.fs
  d.q.hand), [DV.i d.a.page]] = [(poolR size fs_1 hand), [DV.i id_1]] ∧ fk (inR d.a.slot 16) (fk (ieq d.a.slot 0) (k (.c (.b true)) [(0, .R shDo ([DV.i 3, DV.i (d.q.n + 1), DV.i 1, DV.sl (ensR d.q.l), DV.i d.q.dur, DV.i
  size, DV.sl (frsR (useF fs_1 id_1)), DV.i hand, DV.sl (gsR d.q.hs), DV.sl (gsR d.q.ws), DV.sl (txsR d.q.ts), DV.sl (rwsR d.q.rows), DV.sl []] ++ dgT d.tx d.a d.nd ⟨1, 0, 0, ((rb (pgR (getP fs id)) 2), (rs (pgR (getP fs
  id)) 3)), 0⟩))] 1) (fk (ieq d.a.slot 1) (k (.c (.b true)) [(0, .R shDo ([DV.i 3, DV.i (d.q.n + 1), DV.i 1, DV.sl (ensR d.q.l), DV.i d.q.dur, DV.i size, DV.sl (frsR (useF fs_1 id_1)), DV.i hand, DV.sl (gsR d.q.hs),
  DV.sl (gsR d.q.ws), DV.sl (txsR d.q.ts), DV.sl (rwsR d.q.rows), DV.sl []] ++ dgT d.tx d.a d.nd ⟨1, 0, 0, ((rb (pgR (getP fs id)) 4), (rs (pgR (getP fs id)) 5)), 0⟩))] 1) (fk (ieq d.a.slot 2) (k (.c (.b true)) [(0, .R
  shDo ([DV.i 3, DV.i (d.q.n + 1), DV.i 1, DV.sl (ensR d.q.l), DV.i d.q.dur, DV.i size, DV.sl (frsR (useF fs_1 id_1)), DV.i hand, DV.sl (gsR d.q.hs), DV.sl (gsR d.q.ws), DV.sl (txsR d.q.ts), DV.sl (rwsR d.q.rows), DV.sl
  []] ++ dgT d.tx d.a d.nd ⟨1, 0, 0, ((rb (pgR (getP fs id)) 6), (rs (pgR (getP fs id)) 7)), 0⟩))] 1) (fk (ieq d.a.slot 3) (k (.c (.b true)) [(0, .R shDo ([DV.i 3, DV.i (d.q.n + 1), DV.i 1, DV.sl (ensR d.q.l), DV.i
  d.q.dur, DV.i size, DV.sl (frsR (useF fs_1 id_1)), DV.i hand, DV.sl (gsR d.q.hs), DV.sl (gsR d.q.ws), DV.sl (txsR d.q.ts), DV.sl (rwsR d.q.rows), DV.sl []] ++ dgT d.tx d.a d.nd ⟨1, 0, 0, ((rb (pgR (getP fs id)) 8), (rs
  (pgR (getP fs id)) 9)), 0⟩))] 1) (fk (ieq d.a.slot 4) (k (.c (.b true)) [(0, .R shDo ([DV.i 3, DV.i (d.q.n + 1), DV.i 1, DV.sl (ensR d.q.l), DV.i d.q.dur, DV.i size, DV.sl (frsR (useF fs_1 id_1)), DV.i hand, DV.sl (gsR
  d.q.hs), DV.sl (gsR d.q.ws), DV.sl (txsR d.q.ts), DV.sl (rwsR d.q.rows), DV.sl []] ++ dgT d.tx d.a d.nd ⟨1, 0, 0, ((rb (pgR (getP fs id)) 10), (rs (pgR (getP fs id)) 11)), 0⟩))] 1) (fk (ieq d.a.slot 5) (k (.c (.b
  true)) [(0, .R shDo ([DV.i 3, DV.i (d.q.n + 1), DV.i 1, DV.sl (ensR d.q.l), DV.i d.q.dur, DV.i size, DV.sl (frsR (useF fs_1 id_1)), DV.i hand, DV.sl (gsR d.q.hs), DV.sl (gsR d.q.ws), DV.sl (txsR d.q.ts), DV.sl (rwsR
  d.q.rows), DV.sl []] ++ dgT d.tx d.a d.nd ⟨1, 0, 0, ((rb (pgR (getP fs id)) 12), (rs (pgR (getP fs id)) 13)), 0⟩))] 1) (fk (ieq d.a.slot 6) (k (.c (.b true)) [(0, .R shDo ([DV.i 3, DV.i (d.q.n + 1), DV.i 1, DV.sl (ensR
  d.q.l), DV.i d.q.dur, DV.i size, DV.sl (frsR (useF fs_1 id_1)), DV.i hand, DV.sl (gsR d.q.hs), DV.sl (gsR d.q.ws), DV.sl (txsR d.q.ts), DV.sl (rwsR d.q.rows), DV.sl []] ++ dgT d.tx d.a d.nd ⟨1, 0, 0, ((rb (pgR (getP fs
  id)) 14), (rs (pgR (getP fs id)) 15)), 0⟩))] 1) (fk (ieq d.a.slot 7) (k (.c (.b true)) [(0, .R shDo ([DV.i 3, DV.i (d.q.n + 1), DV.i 1, DV.sl (ensR d.q.l), DV.i d.q.dur, DV.i size, DV.sl (frsR (useF fs_1 id_1)), DV.i
  hand, DV.sl (gsR d.q.hs), DV.sl (gsR d.q.ws), DV.sl (txsR d.q.ts), DV.sl (rwsR d.q.rows), DV.sl []] ++ dgT d.tx d.a d.nd ⟨1, 0, 0, ((rb (pgR (getP fs id)) 16), (rs (pgR (getP fs id)) 17)), 0⟩))] 1) (fk (ieq d.a.slot 8)
  (k (.c (.b true)) [(0, .R shDo ([DV.i 3, DV.i (d.q.n + 1), DV.i 1, DV.sl (ensR d.q.l), DV.i d.q.dur, DV.i size, DV.sl (frsR (useF fs_1 id_1)), DV.i hand, DV.sl (gsR d.q.hs), DV.sl (gsR d.q.ws), DV.sl (txsR d.q.ts),
  DV.sl (rwsR d.q.rows), DV.sl []] ++ dgT d.tx d.a d.nd ⟨1, 0, 0, ((rb (pgR (getP fs id)) 18), (rs (pgR (getP fs id)) 19)), 0⟩))] 1) (fk (ieq d.a.slot 9) (k (.c (.b true)) [(0, .R shDo ([DV.i 3, DV.i (d.q.n + 1), DV.i 1,
  DV.sl (ensR d.q.l), DV.i d.q.dur, DV.i size, DV.sl (frsR (useF fs_1 id_1)), DV.i hand, DV.sl (gsR d.q.hs), DV.sl (gsR d.q.ws), DV.sl (txsR d.q.ts), DV.sl (rwsR d.q.rows), DV.sl []] ++ dgT d.tx d.a d.nd ⟨1, 0, 0, ((rb
  (pgR (getP fs id)) 20), (rs (pgR (getP fs id)) 21)), 0⟩))] 1) (fk (ieq d.a.slot 10) (k (.c (.b true)) [(0, .R shDo ([DV.i 3, DV.i (d.q.n + 1), DV.i 1, DV.sl (ensR d.q.l), DV.i d.q.dur, DV.i size, DV.sl (frsR (useF fs_1
  id_1)), DV.i hand, DV.sl (gsR d.q.hs), DV.sl (gsR d.q.ws), DV.sl (txsR d.q.ts), DV.sl (rwsR d.q.rows), DV.sl []] ++ dgT d.tx d.a d.nd ⟨1, 0, 0, ((rb (pgR (getP fs id)) 22), (rs (pgR (getP fs id)) 23)), 0⟩))] 1) (fk
  (ieq d.a.slot 11) (k (.c (.b true)) [(0, .R shDo ([DV.i 3, DV.i (d.q.n + 1), DV.i 1, DV.sl (ensR d.q.l), DV.i d.q.dur, DV.i size, DV.sl (frsR (useF fs_1 id_1)), DV.i hand, DV.sl (gsR d.q.hs), DV.sl (gsR d.q.ws), DV.sl
  (txsR d.q.ts), DV.sl (rwsR d.q.rows), DV.sl []] ++ dgT d.tx d.a d.nd ⟨1, 0, 0, ((rb (pgR (getP fs id)) 24), (rs (pgR (getP fs id)) 25)), 0⟩))] 1) (fk (ieq d.a.slot 12) (k (.c (.b true)) [(0, .R shDo ([DV.i 3, DV.i
  (d.q.n + 1), DV.i 1, DV.sl (ensR d.q.l), DV.i d.q.dur, DV.i size, DV.sl (frsR (useF fs_1 id_1)), DV.i hand, DV.sl (gsR d.q.hs), DV.sl (gsR d.q.ws), DV.sl (txsR d.q.ts), DV.sl (rwsR d.q.rows), DV.sl []] ++ dgT d.tx d.a
  d.nd ⟨1, 0, 0, ((rb (pgR (getP fs id)) 26), (rs (pgR (getP fs id)) 27)), 0⟩))] 1) (fk (ieq d.a.slot 13) (k (.c (.b true)) [(0, .R shDo ([DV.i 3, DV.i (d.q.n + 1), DV.i 1, DV.sl (ensR d.q.l), DV.i d.q.dur, DV.i size,
  DV.sl (frsR (useF fs_1 id_1)), DV.i hand, DV.sl (gsR d.q.hs), DV.sl (gsR d.q.ws), DV.sl (txsR d.q.ts), DV.sl (rwsR d.q.rows), DV.sl []] ++ dgT d.tx d.a d.nd ⟨1, 0, 0, ((rb (pgR (getP fs id)) 28), (rs (pgR (getP fs id))
  29)), 0⟩))] 1) (fk (ieq d.a.slot 14) (k (.c (.b true)) [(0, .R shDo ([DV.i 3, DV.i (d.q.n + 1), DV.i 1, DV.sl (ensR d.q.l), DV.i d.q.dur, DV.i size, DV.sl (frsR (useF fs_1 id_1)), DV.i hand, DV.sl (gsR d.q.hs), DV.sl
  (gsR d.q.ws), DV.sl (txsR d.q.ts), DV.sl (rwsR d.q.rows), DV.sl []] ++ dgT d.tx d.a d.nd ⟨1, 0, 0, ((rb (pgR (getP fs id)) 30), (rs (pgR (getP fs id)) 31)), 0⟩))] 1) (fk (ieq d.a.slot 15) (k (.c (.b true)) [(0, .R shDo
  ([DV.i 3, DV.i (d.q.n + 1), DV.i 1, DV.sl (ensR d.q.l), DV.i d.q.dur, DV.i size, DV.sl (frsR (useF fs_1 id_1)), DV.i hand, DV.sl (gsR d.q.hs), DV.sl (gsR d.q.ws), DV.sl (txsR d.q.ts), DV.sl (rwsR d.q.rows), DV.sl []]
  ++ dgT d.tx d.a d.nd ⟨1, 0, 0, ((rb (pgR (getP fs id)) 32), (rs (pgR (getP fs id)) 33)), 0⟩))] 1) False)))))))))))))))) False)) := by kernel_rfl
theorem vc73 (p : Pg) (slot : Int) (b1 a1 : Bool) (b2 a2 : ByteArray) (k : KVk) : dbody Tryz.prog (dcall Tryz.prog T28 (fun _ => []) 5) apyL true 73 (argVs (psF Tryz.prog 73) [pgR p, [.i (ri (pgR
  p) 0), .i slot, .b b1, .s b2, .b a1, .s a2]]) [] 0 k = (∃ (I : Unit → Prop), (∃ pg sl b a, ChV pg sl b a ∧ [[DV.i (ri (pgR p) 0), DV.i slot, DV.b b1, DV.s b2, DV.b a1, DV.s a2]] = [[DV.i pg, DV.i sl, DV.b b.fst, DV.s
  b.snd, DV.b a.fst, DV.s a.snd]] ∧ fk (nt (ieq (ri (pgR p) 0) (ri (pgR p) 0))) (k (.t [.r shPg zPR, .c (.i .i64 6)]) [] 0) (fk (inR slot 16) (fk (ieq slot 0) (fk (nt (an (beqB (rb (pgR p) 2) b1) (an (seqB (rs (pgR p) 3)
  b2) true))) (k (.t [.r shPg zPR, .c (.i .i64 20)]) [] 0) (∃ j', I j' ∧ True ∧ (zPR = zPR ∧ [DV.i (ri (pgR p) 0), DV.i slot, DV.b b1, DV.s b2, DV.b a1, DV.s a2] = [DV.i (ri (pgR p) 0), DV.i slot, DV.b b1, DV.s b2, DV.b
  a1, DV.s a2] ∧ pgR p = pgR p ∧ True) ∧ True)) (fk (ieq slot 1) (fk (nt (an (beqB (rb (pgR p) 4) b1) (an (seqB (rs (pgR p) 5) b2) true))) (k (.t [.r shPg zPR, .c (.i .i64 20)]) [] 0) (∃ j', I j' ∧ True ∧ (zPR = zPR ∧
  [DV.i (ri (pgR p) 0), DV.i slot, DV.b b1, DV.s b2, DV.b a1, DV.s a2] = [DV.i (ri (pgR p) 0), DV.i slot, DV.b b1, DV.s b2, DV.b a1, DV.s a2] ∧ pgR p = pgR p ∧ True) ∧ True)) (fk (ieq slot 2) (fk (nt (an (beqB (rb (pgR
  p) 6) b1) (an (seqB (rs (pgR p) 7) b2) true))) (k (.t [.r shPg zPR, .c (.i .i64 20)]) [] 0) (∃ j', I j' ∧ True ∧ (zPR = zPR ∧ [DV.i (ri (pgR p) 0), DV.i slot, DV.b b1, DV.s b2, DV.b a1, DV.s a2] = [DV.i (ri (pgR p) 0),
  DV.i slot, DV.b b1, DV.s b2, DV.b a1, DV.s a2] ∧ pgR p = pgR p ∧ True) ∧ True)) (fk (ieq slot 3) (fk (nt (an (beqB (rb (pgR p) 8) b1) (an (seqB (rs (pgR p) 9) b2) true))) (k (.t [.r shPg zPR, .c (.i .i64 20)]) [] 0) (∃
  j', I j' ∧ True ∧ (zPR = zPR ∧ [DV.i (ri (pgR p) 0), DV.i slot, DV.b b1, DV.s b2, DV.b a1, DV.s a2] = [DV.i (ri (pgR p) 0), DV.i slot, DV.b b1, DV.s b2, DV.b a1, DV.s a2] ∧ pgR p = pgR p ∧ True) ∧ True)) (fk (ieq slot
  4) (fk (nt (an (beqB (rb (pgR p) 10) b1) (an (seqB (rs (pgR p) 11) b2) true))) (k (.t [.r shPg zPR, .c (.i .i64 20)]) [] 0) (∃ j', I j' ∧ True ∧ (zPR = zPR ∧ [DV.i (ri (pgR p) 0), DV.i slot, DV.b b1, DV.s b2, DV.b a1,
  DV.s a2] = [DV.i (ri (pgR p) 0), DV.i slot, DV.b b1, DV.s b2, DV.b a1, DV.s a2] ∧ pgR p = pgR p ∧ True) ∧ True)) (fk (ieq slot 5) (fk (nt (an (beqB (rb (pgR p) 12) b1) (an (seqB (rs (pgR p) 13) b2) true))) (k (.t [.r
  shPg zPR, .c (.i .i64 20)]) [] 0) (∃ j', I j' ∧ True ∧ (zPR = zPR ∧ [DV.i (ri (pgR p) 0), DV.i slot, DV.b b1, DV.s b2, DV.b a1, DV.s a2] = [DV.i (ri (pgR p) 0), DV.i slot, DV.b b1, DV.s b2, DV.b a1, DV.s a2] ∧ pgR p =
  pgR p ∧ True) ∧ True)) (fk (ieq slot 6) (fk (nt (an (beqB (rb (pgR p) 14) b1) (an (seqB (rs (pgR p) 15) b2) true))) (k (.t [.r shPg zPR, .c (.i .i64 20)]) [] 0) (∃ j', I j' ∧ True ∧ (zPR = zPR ∧ [DV.i (ri (pgR p) 0),
  DV.i slot, DV.b b1, DV.s b2, DV.b a1, DV.s a2] = [DV.i (ri (pgR p) 0), DV.i slot, DV.b b1, DV.s b2, DV.b a1, DV.s a2] ∧ pgR p = pgR p ∧ True) ∧ True)) (fk (ieq slot 7) (fk (nt (an (beqB (rb (pgR p) 16) b1) (an (seqB
  (rs (pgR p) 17) b2) true))) (k (.t [.r shPg zPR, .c (.i .i64 20)]) [] 0) (∃ j', I j' ∧ True ∧ (zPR = zPR ∧ [DV.i (ri (pgR p) 0), DV.i slot, DV.b b1, DV.s b2, DV.b a1, DV.s a2] = [DV.i (ri (pgR p) 0), DV.i slot, DV.b
  b1, DV.s b2, DV.b a1, DV.s a2] ∧ pgR p = pgR p ∧ True) ∧ True)) (fk (ieq slot 8) (fk (nt (an (beqB (rb (pgR p) 18) b1) (an (seqB (rs (pgR p) 19) b2) true))) (k (.t [.r shPg zPR, .c (.i .i64 20)]) [] 0) (∃ j', I j' ∧
  True ∧ (zPR = zPR ∧ [DV.i (ri (pgR p) 0), DV.i slot, DV.b b1, DV.s b2, DV.b a1, DV.s a2] = [DV.i (ri (pgR p) 0), DV.i slot, DV.b b1, DV.s b2, DV.b a1, DV.s a2] ∧ pgR p = pgR p ∧ True) ∧ True)) (fk (ieq slot 9) (fk (nt
  (an (beqB (rb (pgR p) 20) b1) (an (seqB (rs (pgR p) 21) b2) true))) (k (.t [.r shPg zPR, .c (.i .i64 20)]) [] 0) (∃ j', I j' ∧ True ∧ (zPR = zPR ∧ [DV.i (ri (pgR p) 0), DV.i slot, DV.b b1, DV.s b2, DV.b a1, DV.s a2] =
  [DV.i (ri (pgR p) 0), DV.i slot, DV.b b1, DV.s b2, DV.b a1, DV.s a2] ∧ pgR p = pgR p ∧ True) ∧ True)) (fk (ieq slot 10) (fk (nt (an (beqB (rb (pgR p) 22) b1) (an (seqB (rs (pgR p) 23) b2) true))) (k (.t [.r shPg zPR,
  .c (.i .i64 20)]) [] 0) (∃ j', I j' ∧ True ∧ (zPR = zPR ∧ [DV.i (ri (pgR p) 0), DV.i slot, DV.b b1, DV.s b2, DV.b a1, DV.s a2] = [DV.i (ri (pgR p) 0), DV.i slot, DV.b b1, DV.s b2, DV.b a1, DV.s a2] ∧ pgR p = pgR p ∧
  True) ∧ True)) (fk (ieq slot 11) (fk (nt (an (beqB (rb (pgR p) 24) b1) (an (seqB (rs (pgR p) 25) b2) true))) (k (.t [.r shPg zPR, .c (.i .i64 20)]) [] 0) (∃ j', I j' ∧ True ∧ (zPR = zPR ∧ [DV.i (ri (pgR p) 0), DV.i
  slot, DV.b b1, DV.s b2, DV.b a1, DV.s a2] = [DV.i (ri (pgR p) 0), DV.i slot, DV.b b1, DV.s b2, DV.b a1, DV.s a2] ∧ pgR p = pgR p ∧ True) ∧ True)) (fk (ieq slot 12) (fk (nt (an (beqB (rb (pgR p) 26) b1) (an (seqB (rs
  (pgR p) 27) b2) true))) (k (.t [.r shPg zPR, .c (.i .i64 20)]) [] 0) (∃ j', I j' ∧ True ∧ (zPR = zPR ∧ [DV.i (ri (pgR p) 0), DV.i slot, DV.b b1, DV.s b2, DV.b a1, DV.s a2] = [DV.i (ri (pgR p) 0), DV.i slot, DV.b b1,
  DV.s b2, DV.b a1, DV.s a2] ∧ pgR p = pgR p ∧ True) ∧ True)) (fk (ieq slot 13) (fk (nt (an (beqB (rb (pgR p) 28) b1) (an (seqB (rs (pgR p) 29) b2) true))) (k (.t [.r shPg zPR, .c (.i .i64 20)]) [] 0) (∃ j', I j' ∧ True
  ∧ (zPR = zPR ∧ [DV.i (ri (pgR p) 0), DV.i slot, DV.b b1, DV.s b2, DV.b a1, DV.s a2] = [DV.i (ri (pgR p) 0), DV.i slot, DV.b b1, DV.s b2, DV.b a1, DV.s a2] ∧ pgR p = pgR p ∧ True) ∧ True)) (fk (ieq slot 14) (fk (nt (an
  (beqB (rb (pgR p) 30) b1) (an (seqB (rs (pgR p) 31) b2) true))) (k (.t [.r shPg zPR, .c (.i .i64 20)]) [] 0) (∃ j', I j' ∧ True ∧ (zPR = zPR ∧ [DV.i (ri (pgR p) 0), DV.i slot, DV.b b1, DV.s b2, DV.b a1, DV.s a2] =
  [DV.i (ri (pgR p) 0), DV.i slot, DV.b b1, DV.s b2, DV.b a1, DV.s a2] ∧ pgR p = pgR p ∧ True) ∧ True)) (fk (ieq slot 15) (fk (nt (an (beqB (rb (pgR p) 32) b1) (an (seqB (rs (pgR p) 33) b2) true))) (k (.t [.r shPg zPR,
  .c (.i .i64 20)]) [] 0) (∃ j', I j' ∧ True ∧ (zPR = zPR ∧ [DV.i (ri (pgR p) 0), DV.i slot, DV.b b1, DV.s b2, DV.b a1, DV.s a2] = [DV.i (ri (pgR p) 0), DV.i slot, DV.b b1, DV.s b2, DV.b a1, DV.s a2] ∧ pgR p = pgR p ∧
  True) ∧ True)) False)))))))))))))))) False)) ∧ ∀ (j : Unit), I j → fk (inR slot 16) (fk (ieq slot 0) (k (.t [.r shPg ((List.set (pgR p) 2 (DV.b a1)).set 3 (DV.s a2)), .c (.i .i64 0)]) [] 0) (fk (ieq slot 1) (k (.t [.r
  shPg ((List.set (pgR p) 4 (DV.b a1)).set 5 (DV.s a2)), .c (.i .i64 0)]) [] 0) (fk (ieq slot 2) (k (.t [.r shPg ((List.set (pgR p) 6 (DV.b a1)).set 7 (DV.s a2)), .c (.i .i64 0)]) [] 0) (fk (ieq slot 3) (k (.t [.r shPg
  ((List.set (pgR p) 8 (DV.b a1)).set 9 (DV.s a2)), .c (.i .i64 0)]) [] 0) (fk (ieq slot 4) (k (.t [.r shPg ((List.set (pgR p) 10 (DV.b a1)).set 11 (DV.s a2)), .c (.i .i64 0)]) [] 0) (fk (ieq slot 5) (k (.t [.r shPg
  ((List.set (pgR p) 12 (DV.b a1)).set 13 (DV.s a2)), .c (.i .i64 0)]) [] 0) (fk (ieq slot 6) (k (.t [.r shPg ((List.set (pgR p) 14 (DV.b a1)).set 15 (DV.s a2)), .c (.i .i64 0)]) [] 0) (fk (ieq slot 7) (k (.t [.r shPg
  ((List.set (pgR p) 16 (DV.b a1)).set 17 (DV.s a2)), .c (.i .i64 0)]) [] 0) (fk (ieq slot 8) (k (.t [.r shPg ((List.set (pgR p) 18 (DV.b a1)).set 19 (DV.s a2)), .c (.i .i64 0)]) [] 0) (fk (ieq slot 9) (k (.t [.r shPg
  ((List.set (pgR p) 20 (DV.b a1)).set 21 (DV.s a2)), .c (.i .i64 0)]) [] 0) (fk (ieq slot 10) (k (.t [.r shPg ((List.set (pgR p) 22 (DV.b a1)).set 23 (DV.s a2)), .c (.i .i64 0)]) [] 0) (fk (ieq slot 11) (k (.t [.r shPg
  ((List.set (pgR p) 24 (DV.b a1)).set 25 (DV.s a2)), .c (.i .i64 0)]) [] 0) (fk (ieq slot 12) (k (.t [.r shPg ((List.set (pgR p) 26 (DV.b a1)).set 27 (DV.s a2)), .c (.i .i64 0)]) [] 0) (fk (ieq slot 13) (k (.t [.r shPg
  ((List.set (pgR p) 28 (DV.b a1)).set 29 (DV.s a2)), .c (.i .i64 0)]) [] 0) (fk (ieq slot 14) (k (.t [.r shPg ((List.set (pgR p) 30 (DV.b a1)).set 31 (DV.s a2)), .c (.i .i64 0)]) [] 0) (fk (ieq slot 15) (k (.t [.r shPg
  ((List.set (pgR p) 32 (DV.b a1)).set 33 (DV.s a2)), .c (.i .i64 0)]) [] 0) False)))))))))))))))) False) := by kernel_rfl
theorem vc29 (d : Dg) (k : KVk) : dbody Tryz.prog (dcall Tryz.prog T73 (fun _ => []) 5) (wrtL d) false 29 [.c (.pv 0 0)] [(0, .R shDo (dgR d))] 1 k = (fk (nt (ieq d.nd.mode 2)) (k (.c (.b false)) [(0, .R shDo
  (dgR d))] 1) (∃ size fs hand id, PoolV size fs hand ∧ [(poolR d.q.size d.q.fs d.q.hand), [DV.i d.a.page]] = [(poolR size fs hand), [DV.i id]] ∧ ∃ (I : Bool × ByteArray → Prop), fk (inR d.a.slot 16) (fk (ieq d.a.slot 0)
  (∃ j', I j' ∧ (True ∧ True) ∧ ([DV.i d.a.page, DV.i d.a.slot, DV.b (rb (pgR (getP fs id)) 2), DV.s (rs (pgR (getP fs id)) 3), DV.b false, DV.s ⟨#[]⟩] = [DV.i d.a.page, DV.i d.a.slot, DV.b j'.fst, DV.s j'.snd, DV.b
  false, DV.s ⟨#[]⟩] ∧ pgR (getP fs id) = pgR (getP fs id) ∧ (dgR d) = (dgR d) ∧ True) ∧ True) (fk (ieq d.a.slot 1) (∃ j', I j' ∧ (True ∧ True) ∧ ([DV.i d.a.page, DV.i d.a.slot, DV.b (rb (pgR (getP fs id)) 4), DV.s (rs
  (pgR (getP fs id)) 5), DV.b false, DV.s ⟨#[]⟩] = [DV.i d.a.page, DV.i d.a.slot, DV.b j'.fst, DV.s j'.snd, DV.b false, DV.s ⟨#[]⟩] ∧ pgR (getP fs id) = pgR (getP fs id) ∧ (dgR d) = (dgR d) ∧ True) ∧ True) (fk (ieq
  d.a.slot 2) (∃ j', I j' ∧ (True ∧ True) ∧ ([DV.i d.a.page, DV.i d.a.slot, DV.b (rb (pgR (getP fs id)) 6), DV.s (rs (pgR (getP fs id)) 7), DV.b false, DV.s ⟨#[]⟩] = [DV.i d.a.page, DV.i d.a.slot, DV.b j'.fst, DV.s
  j'.snd, DV.b false, DV.s ⟨#[]⟩] ∧ pgR (getP fs id) = pgR (getP fs id) ∧ (dgR d) = (dgR d) ∧ True) ∧ True) (fk (ieq d.a.slot 3) (∃ j', I j' ∧ (True ∧ True) ∧ ([DV.i d.a.page, DV.i d.a.slot, DV.b (rb (pgR (getP fs id))
  8), DV.s (rs (pgR (getP fs id)) 9), DV.b false, DV.s ⟨#[]⟩] = [DV.i d.a.page, DV.i d.a.slot, DV.b j'.fst, DV.s j'.snd, DV.b false, DV.s ⟨#[]⟩] ∧ pgR (getP fs id) = pgR (getP fs id) ∧ (dgR d) = (dgR d) ∧ True) ∧ True)
  (fk (ieq d.a.slot 4) (∃ j', I j' ∧ (True ∧ True) ∧ ([DV.i d.a.page, DV.i d.a.slot, DV.b (rb (pgR (getP fs id)) 10), DV.s (rs (pgR (getP fs id)) 11), DV.b false, DV.s ⟨#[]⟩] = [DV.i d.a.page, DV.i d.a.slot, DV.b j'.fst,
  DV.s j'.snd, DV.b false, DV.s ⟨#[]⟩] ∧ pgR (getP fs id) = pgR (getP fs id) ∧ (dgR d) = (dgR d) ∧ True) ∧ True) (fk (ieq d.a.slot 5) (∃ j', I j' ∧ (True ∧ True) ∧ ([DV.i d.a.page, DV.i d.a.slot, DV.b (rb (pgR (getP fs
  id)) 12), DV.s (rs (pgR (getP fs id)) 13), DV.b false, DV.s ⟨#[]⟩] = [DV.i d.a.page, DV.i d.a.slot, DV.b j'.fst, DV.s j'.snd, DV.b false, DV.s ⟨#[]⟩] ∧ pgR (getP fs id) = pgR (getP fs id) ∧ (dgR d) = (dgR d) ∧ True) ∧
  True) (fk (ieq d.a.slot 6) (∃ j', I j' ∧ (True ∧ True) ∧ ([DV.i d.a.page, DV.i d.a.slot, DV.b (rb (pgR (getP fs id)) 14), DV.s (rs (pgR (getP fs id)) 15), DV.b false, DV.s ⟨#[]⟩] = [DV.i d.a.page, DV.i d.a.slot, DV.b
  j'.fst, DV.s j'.snd, DV.b false, DV.s ⟨#[]⟩] ∧ pgR (getP fs id) = pgR (getP fs id) ∧ (dgR d) = (dgR d) ∧ True) ∧ True) (fk (ieq d.a.slot 7) (∃ j', I j' ∧ (True ∧ True) ∧ ([DV.i d.a.page, DV.i d.a.slot, DV.b (rb (pgR
  (getP fs id)) 16), DV.s (rs (pgR (getP fs id)) 17), DV.b false, DV.s ⟨#[]⟩] = [DV.i d.a.page, DV.i d.a.slot, DV.b j'.fst, DV.s j'.snd, DV.b false, DV.s ⟨#[]⟩] ∧ pgR (getP fs id) = pgR (getP fs id) ∧ (dgR d) = (dgR d) ∧
  True) ∧ True) (fk (ieq d.a.slot 8) (∃ j', I j' ∧ (True ∧ True) ∧ ([DV.i d.a.page, DV.i d.a.slot, DV.b (rb (pgR (getP fs id)) 18), DV.s (rs (pgR (getP fs id)) 19), DV.b false, DV.s ⟨#[]⟩] = [DV.i d.a.page, DV.i
  d.a.slot, DV.b j'.fst, DV.s j'.snd, DV.b false, DV.s ⟨#[]⟩] ∧ pgR (getP fs id) = pgR (getP fs id) ∧ (dgR d) = (dgR d) ∧ True) ∧ True) (fk (ieq d.a.slot 9) (∃ j', I j' ∧ (True ∧ True) ∧ ([DV.i d.a.page, DV.i d.a.slot,
  DV.b (rb (pgR (getP fs id)) 20), DV.s (rs (pgR (getP fs id)) 21), DV.b false, DV.s ⟨#[]⟩] = [DV.i d.a.page, DV.i d.a.slot, DV.b j'.fst, DV.s j'.snd, DV.b false, DV.s ⟨#[]⟩] ∧ pgR (getP fs id) = pgR (getP fs id) ∧ (dgR
  d) = (dgR d) ∧ True) ∧ True) (fk (ieq d.a.slot 10) (∃ j', I j' ∧ (True ∧ True) ∧ ([DV.i d.a.page, DV.i d.a.slot, DV.b (rb (pgR (getP fs id)) 22), DV.s (rs (pgR (getP fs id)) 23), DV.b false, DV.s ⟨#[]⟩] = [DV.i
  d.a.page, DV.i d.a.slot, DV.b j'.fst, DV.s j'.snd, DV.b false, DV.s ⟨#[]⟩] ∧ pgR (getP fs id) = pgR (getP fs id) ∧ (dgR d) = (dgR d) ∧ True) ∧ True) (fk (ieq d.a.slot 11) (∃ j', I j' ∧ (True ∧ True) ∧ ([DV.i d.a.page,
  DV.i d.a.slot, DV.b (rb (pgR (getP fs id)) 24), DV.s (rs (pgR (getP fs id)) 25), DV.b false, DV.s ⟨#[]⟩] = [DV.i d.a.page, DV.i d.a.slot, DV.b j'.fst, DV.s j'.snd, DV.b false, DV.s ⟨#[]⟩] ∧ pgR (getP fs id) = pgR (getP
  fs id) ∧ (dgR d) = (dgR d) ∧ True) ∧ True) (fk (ieq d.a.slot 12) (∃ j', I j' ∧ (True ∧ True) ∧ ([DV.i d.a.page, DV.i d.a.slot, DV.b (rb (pgR (getP fs id)) 26), DV.s (rs (pgR (getP fs id)) 27), DV.b false, DV.s ⟨#[]⟩] =
  [DV.i d.a.page, DV.i d.a.slot, DV.b j'.fst, DV.s j'.snd, DV.b false, DV.s ⟨#[]⟩] ∧ pgR (getP fs id) = pgR (getP fs id) ∧ (dgR d) = (dgR d) ∧ True) ∧ True) (fk (ieq d.a.slot 13) (∃ j', I j' ∧ (True ∧ True) ∧ ([DV.i
  d.a.page, DV.i d.a.slot, DV.b (rb (pgR (getP fs id)) 28), DV.s (rs (pgR (getP fs id)) 29), DV.b false, DV.s ⟨#[]⟩] = [DV.i d.a.page, DV.i d.a.slot, DV.b j'.fst, DV.s j'.snd, DV.b false, DV.s ⟨#[]⟩] ∧ pgR (getP fs id) =
  pgR (getP fs id) ∧ (dgR d) = (dgR d) ∧ True) ∧ True) (fk (ieq d.a.slot 14) (∃ j', I j' ∧ (True ∧ True) ∧ ([DV.i d.a.page, DV.i d.a.slot, DV.b (rb (pgR (getP fs id)) 30), DV.s (rs (pgR (getP fs id)) 31), DV.b false,
  DV.s ⟨#[]⟩] = [DV.i d.a.page, DV.i d.a.slot, DV.b j'.fst, DV.s j'.snd, DV.b false, DV.s ⟨#[]⟩] ∧ pgR (getP fs id) = pgR (getP fs id) ∧ (dgR d) = (dgR d) ∧ True) ∧ True) (fk (ieq d.a.slot 15) (∃ j', I j' ∧ (True ∧ True)
  ∧ ([DV.i d.a.page, DV.i d.a.slot, DV.b (rb (pgR (getP fs id)) 32), DV.s (rs (pgR (getP fs id)) 33), DV.b false, DV.s ⟨#[]⟩] = [DV.i d.a.page, DV.i d.a.slot, DV.b j'.fst, DV.s j'.snd, DV.b false, DV.s ⟨#[]⟩] ∧ pgR (getP
  fs id) = pgR (getP fs id) ∧ (dgR d) = (dgR d) ∧ True) ∧ True) False)))))))))))))))) False ∧ ∀ (j : Bool × ByteArray), I j → ∃ (I : Cl × Cl → Prop), fk (ieq d.a.kind 2) (∃ j', I j' ∧ True ∧ ([DV.i d.a.page, DV.i
  d.a.slot, DV.b j.fst, DV.s j.snd, DV.b true, DV.s d.a.data] = [DV.i d.a.page, DV.i d.a.slot, DV.b j'.fst.fst, DV.s j'.fst.snd, DV.b j'.snd.fst, DV.s j'.snd.snd] ∧ pgR (getP fs id) = pgR (getP fs id) ∧ (dgR d) = (dgR d)
  ∧ True) ∧ True) (∃ j', I j' ∧ True ∧ ([DV.i d.a.page, DV.i d.a.slot, DV.b j.fst, DV.s j.snd, DV.b false, DV.s ⟨#[]⟩] = [DV.i d.a.page, DV.i d.a.slot, DV.b j'.fst.fst, DV.s j'.fst.snd, DV.b j'.snd.fst, DV.s j'.snd.snd]
  ∧ pgR (getP fs id) = pgR (getP fs id) ∧ (dgR d) = (dgR d) ∧ True) ∧ True) ∧ ∀ (j : Cl × Cl), I j → ∃ q e, AdV q e ∧ [(kR d.q), [DV.i 0, DV.i 1, DV.i d.tx, DV.i 0, DV.i 0, DV.i 0, DV.i d.a.page, DV.i d.a.slot, DV.b
  j.fst.fst, DV.s j.fst.snd, DV.b j.snd.fst, DV.s j.snd.snd, DV.s ⟨#[]⟩]] = [(kR q), [DV.i 0, DV.i e.kind, DV.i e.tx, DV.i 0, DV.i 0, DV.i e.ref, DV.i e.page, DV.i e.slot, DV.b e.b.fst, DV.s e.b.snd, DV.b e.a.fst, DV.s
  e.a.snd, DV.s ⟨#[]⟩]] ∧ ∃ p slot b a, ApyV p slot b a ∧ [pgR (getP fs id), [DV.i d.a.page, DV.i d.a.slot, DV.b j.fst.fst, DV.s j.fst.snd, DV.b j.snd.fst, DV.s j.snd.snd]] = [pgR p, [DV.i (ri (pgR p) 0), DV.i slot, DV.b
  b.fst, DV.s b.snd, DV.b a.fst, DV.s a.snd]] ∧ ∃ size fs hand p_1, UpV size fs hand p_1 ∧ [[DV.i (addK q e).size, DV.sl (frsR (addK q e).fs), DV.i (addK q e).hand], List.set (pgR ⟨p.id, p.lsn, p.cells.set slot.toNat a⟩)
  1 (DV.i (xadd (ln (ensR q.l)) 1))] = [(poolR size fs hand), pgR p_1] ∧ k (.c (.b true)) [(0, .R shDo ([DV.i 3, DV.i ((addK q e).n + 1), DV.i 1, DV.sl (ensR (addK q e).l), DV.i (addK q e).dur, DV.i size, DV.sl (frsR
  (updF fs p_1)), DV.i hand, DV.sl (gsR (addK q e).hs), DV.sl (gsR (addK q e).ws), DV.sl (txsR (addK q e).ts), DV.sl (rwsR (addK q e).rows), DV.sl []] ++ dgT d.tx d.a d.nd ⟨1, 0, 0, (false, ⟨#[]⟩), 0⟩))] 1)) := by
  kernel_rfl
theorem vc75 (d : Dg) (k : KVk) : dbody Tryz.prog (dcall Tryz.prog T29 (fun _ => []) 5) [] false 75 [.c (.pv 0 0)] [(0, .R shDo (dgR d))] 1 k = (∃ d_1 t, OwV d_1 t ∧ (dgR d) = (dgR d_1) ∧ fk (ieq t.last 0) (∃
  ts id, ts.length ≤ 64 ∧ [[DV.sl (txsR d_1.q.ts)], [DV.i d_1.tx]] = [[DV.sl (txsR ts)], [DV.i id]] ∧ ∃ hs ws tx, LkV hs ws ∧ [(lkR d_1.q.hs d_1.q.ws), [DV.i d_1.tx]] = [(lkR hs ws), [DV.i tx]] ∧ k (.c (.b true)) [(0, .R
  shDo ([DV.i 3, DV.i (d_1.q.n + 1), DV.i 1, DV.sl (ensR d_1.q.l), DV.i d_1.q.dur, DV.i d_1.q.size, DV.sl (frsR d_1.q.fs), DV.i d_1.q.hand, DV.sl (gsR (setH (txF tx hs) (txF tx ws))), DV.sl (gsR (setW (txF tx hs) (txF tx
  ws))), DV.sl (txsR (Wp.rmT ts id)), DV.sl (rwsR d_1.q.rows), DV.sl []] ++ dgT d_1.tx d_1.a d_1.nd ⟨1, 0, 0, (false, ⟨#[]⟩), 0⟩))] 1) (∃ q e, AdV q e ∧ [(kR d_1.q), [DV.i 0, DV.i 3, DV.i d_1.tx, DV.i 0, DV.i 0, DV.i 0,
  DV.i 0, DV.i 0, DV.b false, DV.s ⟨#[]⟩, DV.b false, DV.s ⟨#[]⟩, DV.s ⟨#[]⟩]] = [(kR q), [DV.i 0, DV.i e.kind, DV.i e.tx, DV.i 0, DV.i 0, DV.i e.ref, DV.i e.page, DV.i e.slot, DV.b e.b.fst, DV.s e.b.snd, DV.b e.a.fst,
  DV.s e.a.snd, DV.s ⟨#[]⟩]] ∧ ∃ l dur n, FoV l dur n ∧ [[DV.i 1, DV.sl (ensR (addK q e).l), DV.i (addK q e).dur], [DV.i (xadd (ln (ensR q.l)) 1)]] = [(logR l dur), [DV.i n]] ∧ ∃ hs ws tx, LkV hs ws ∧ [[DV.sl (gsR (addK
  q e).hs), DV.sl (gsR (addK q e).ws)], [DV.i d_1.tx]] = [(lkR hs ws), [DV.i tx]] ∧ k (.c (.b true)) [(0, .R shDo ([DV.i 3, DV.i ((addK q e).n + 1), DV.i 1, DV.sl (ensR l), DV.i (xmax dur n), DV.i (addK q e).size, DV.sl
  (frsR (addK q e).fs), DV.i (addK q e).hand, DV.sl (gsR (setH (txF tx hs) (txF tx ws))), DV.sl (gsR (setW (txF tx hs) (txF tx ws))), DV.sl (txsR (addK q e).ts), DV.sl (rwsR (addK q e).rows), DV.sl []] ++ dgT d_1.tx
  d_1.a d_1.nd ⟨1, 0, 0, (false, ⟨#[]⟩), 0⟩))] 1)) := by kernel_rfl
theorem vc30 (d : Dg) (k : KVk) : dbody Tryz.prog (dcall Tryz.prog T30x (fun _ => []) 5) [] false 30 [.c (.pv 0 0)] [(0, .R shDo (dgR d))] 1 k = (fk (ieq d.a.kind 4) (∃ d_1, RtA d_1 ∧ (dgR d) = (dgR d_1) ∧ ∀ (b
  : Bool) (d' : Dg), RtP d_1 b d' → k (.c (.b b)) [(0, .R shDo (dgR d'))] 1) (fk (ieq d.a.kind 5) (∃ d_1 t, AbV d_1 t ∧ (dgR d) = (dgR d_1) ∧ ∀ (q' : KV), AbP d_1 q' → k (.c (.b true)) [(0, .R shDo (kR q' ++ dgT d_1.tx
  d_1.a d_1.nd ⟨1, 0, 0, (false, ⟨#[]⟩), 0⟩))] 1) (fk (ieq d.a.kind 6) (∃ ts t, SvV ts t ∧ [[DV.sl (txsR d.q.ts)], [DV.i d.tx]] = [[DV.sl (txsR ts)], [DV.i t.id]] ∧ fk (ieq (ln (isR t.saves)) 8) (k (.c (.b true)) [(0, .R
  shDo ([DV.i 3, DV.i (d.q.n + 1), DV.i 1, DV.sl (ensR d.q.l), DV.i d.q.dur, DV.i d.q.size, DV.sl (frsR d.q.fs), DV.i d.q.hand, DV.sl (gsR d.q.hs), DV.sl (gsR d.q.ws), DV.sl [], DV.sl (rwsR d.q.rows), DV.sl []] ++ dgT
  d.tx d.a d.nd ⟨5, 0, 0, (false, ⟨#[]⟩), 21⟩))] 1) (k (.c (.b true)) [(0, .R shDo ([DV.i 3, DV.i (d.q.n + 1), DV.i 1, DV.sl (ensR d.q.l), DV.i d.q.dur, DV.i d.q.size, DV.sl (frsR d.q.fs), DV.i d.q.hand, DV.sl (gsR
  d.q.hs), DV.sl (gsR d.q.ws), DV.sl (txsR (svT ts t)), DV.sl (rwsR d.q.rows), DV.sl []] ++ dgT d.tx d.a d.nd ⟨1, 0, 0, (false, ⟨#[]⟩), 0⟩))] 1)) (fk (ieq d.a.kind 7) False (k (.c (.b true)) [(0, .R shDo (kR d.q ++ dgT
  d.tx d.a d.nd ⟨1, 0, 0, (false, ⟨#[]⟩), 0⟩))] 1))))) := by kernel_rfl
theorem Sts.keep {hs ws hs' ws' : List G} (h : Sts hs ws hs' ws') (t : TV hs ws) {g : G} (hg : g ∈ ws) : g ∈ ws' ∨ ∃ y ∈ hs', y.tx = g.tx ∧ y.page = g.page ∧ y.slot = g.slot ∧ g.mode ≤ y.mode := by
  induction h with
  | refl => exact .inl hg
  | @step hs p s hs' ws' g0 hb t' ih =>
    have t2 := t.step hb
    rcases List.mem_append.1 hg with h | h
    · exact ih t2 (by simp [h])
    · rcases List.mem_cons.1 h with rfl | h
      · exact .inr (t'.up t2 g (putF_self hs))
      · exact ih t2 (by simp [h])
theorem asked_wait {hs ws u v : List G} {g : G} (e : reqF hs ws g = some (u, v, false)) : ∃ y ∈ v, y.tx = g.tx := by
  unfold reqF at e
  split at e
  · rename_i hv
    rw [Bool.and_eq_true] at hv
    obtain ⟨hv1, hv2⟩ := hv
    have t := TV.of hv1
    split at e
    · rename_i w hf
      split at e
      · cases e
        exact ⟨w, List.mem_of_find?_eq_some hf, by simpa using List.find?_some (p := fun x : G => x.tx == g.tx) hf⟩
      · cases e
    · rename_i hf
      split at e
      · cases e
      · rename_i hm
        split at e
        · cases e
        · simp only [Option.some.injEq, Prod.mk.injEq, decide_eq_false_iff_not] at e
          obtain ⟨rfl, rfl, e⟩ := e
          have t2 : TV hs (ws.take (placeF hs ws g) ++ g :: ws.drop (placeF hs ws g)) := TV.ins (by rw [List.take_append_drop]; exact t) hv2 (by omega) fun x hx => by
            rw [List.take_append_drop] at hx
            simpa using List.find?_eq_none.1 hf x hx
          rcases Sts.keep (settle_sts hs (ws.take (placeF hs ws g) ++ g :: ws.drop (placeF hs ws g))) t2 (g := g) (by simp) with h | ⟨y, hy, e1, e2, e3, e4⟩
          · exact ⟨g, h, rfl⟩
          · have := modeF_of (settle_tv t2).srt hy (sk_iff.2 ⟨e2, e3, e1⟩)
            omega
  · cases e
theorem ok25 : CtOk Tryz.prog T25 := by
  refine ct_raw ok66 fun vs E nx k h => ?_
  unfold stG at h
  split at h
  · rename_i s r
    obtain ⟨h1, d, hv, rfl, hk⟩ := fk_yes h
    have := shEq_eq _ _ h1
    subst this
    have inv := hv.inv
    have hl := hv.len
    have kv := inv.val (by omega)
    have hn := inv.tbl.len inv.n0
    have h12 := inv.n12
    have bad : ∀ (nd : NeR) (e : Int), k (.c (.b true)) [(0, .R shDo (dgX d.q d.tx d.a nd ⟨5, 0, 0, (false, ⟨#[]⟩), e⟩))] 1 := fun nd e => hk true { d with nd := nd, r := ⟨5, 0, 0, (false, ⟨#[]⟩), e⟩ } ⟨⟨rfl, rfl, rfl⟩, rfl, fun _ => rfl, fun h => nomatch h⟩
    refine ⟨_, _, _, _, (vc25 d k).mpr ⟨d.q.ts, d.tx, by omega, rfl, fk_of (fun _ => bad d.nd 16) fun e => ?_⟩⟩
    obtain ⟨t, ht, e1⟩ : ∃ t ∈ d.q.ts, t.id = d.tx := by
      by_cases h : ∃ t ∈ d.q.ts, t.id = d.tx
      · exact h
      · rw [findT_no fun x hx c => h ⟨x, hx, c⟩] at e
        cases e
    obtain ⟨i, hi⟩ := List.getElem?_of_mem ht
    have hil := (List.getElem?_eq_some_iff.1 hi).1
    rw [show findT d.q.ts d.tx = i from e1 ▸ findT_at inv.tbl.srt hi, tn_cast, txs_at hi, txR_1]
    refine fk_t (by (first | rfl | (simp (disch := omega) only [FS, eq_self, List.length_cons, List.length_nil, true_and, and_true, ssz, xadd, xsub, xmul, xmin, xmax] <;> omega) | omega)) (fk_of (fun _ => bad d.nd 15) fun e2 => ⟨d.q, d.a, rfl, fun e hw => fk_of (fun _ => bad d.nd e) fun e3 => ⟨d.q.hs, d.q.ws, d.tx, kv.lk, rfl, ?_⟩⟩)
    have ok := hw.ok (ieq_t (nt_f e3))
    rw [need_get ok.k1 ok.k7]
    have good : k (.c (.b false)) [(0, .R shDo (dgX d.q d.tx d.a (needF d.a.kind) d.r))] 1 := hk false { d with nd := needF d.a.kind } ⟨⟨rfl, rfl, rfl⟩, rfl, (fun h => nomatch h), fun _ => ⟨rfl, rfl, ok, t, ht, e1, ieq_t (nt_f e2)⟩⟩
    exact fk_of (fun _ => fk_of (fun _ => fk_of (fun _ => bad (needF d.a.kind) 15) fun _ => good) fun _ => good) fun _ => good
  · exact h.elim
theorem ok26 : CtOk Tryz.prog T26 := by
  refine ct_raw ok25 fun vs E nx k h => ?_
  unfold stG at h
  split at h
  · rename_i s r
    obtain ⟨h1, d, hv, rfl, hk⟩ := fk_yes h
    have := shEq_eq _ _ h1
    subst this
    have inv := hv.inv
    have hl := hv.len
    have kv := inv.val (by omega)
    have hn := inv.tbl.len inv.n0
    have h12 := inv.n12
    obtain ⟨t, ht, e1, ha⟩ := hv.act
    have i0 := (inv.tbl.each t ht).id0
    have i1 := (inv.tbl.each t ht).id1
    refine ⟨_, _, _, _, (vc26 d k).mpr (fk_of (fun e => hk false d ⟨⟨rfl, rfl, rfl⟩, rfl, inv, Nat.le_succ _, rfl, (fun h => nomatch h), fun _ => ⟨rfl, rfl, fun c => absurd (ieq_t e) c⟩⟩) fun e => ⟨rfl, ?_⟩)⟩
    have hm0 : d.nd.mode ≠ 0 := ieq_f e
    have nm := need_mode d.a.kind
    rw [← hv.nd] at nm
    have k3 : d.a.kind ≤ 3 := by
      have c : d.nd.cell = true := by
        cases h : d.nd.cell with
        | true => rfl
        | false => exact absurd (nm.2.1.2 h) hm0
      rw [hv.nd] at c
      exact (need_cell hv.ok.k1).1 c
    obtain ⟨p0, p3, s0, s16⟩ := hv.ok.cell k3
    have hvg : validG ⟨d.tx, d.a.page, d.a.slot, d.nd.mode⟩ = true := by
      unfold validG
      have : d.nd.mode = 1 ∨ d.nd.mode = 2 := by rcases nm.1 with h | h | h; exact absurd h hm0; exact .inl h; exact .inr h
      simp only [Bool.and_eq_true, decide_eq_true_eq, Bool.or_eq_true, beq_iff_eq]
      omega
    have hlen : d.q.hs.length + d.q.ws.length < 1024 := Nat.lt_of_le_of_lt (inv.lk.len0 inv.tbl h12) (by decide)
    refine ⟨d.q.hs, d.q.ws, ⟨d.tx, d.a.page, d.a.slot, d.nd.mode⟩, ⟨kv.lk, hvg, hlen⟩, rfl, fk_of (fun er => ?_) fun er => ?_⟩
    · obtain ⟨u, v, o, hq⟩ : ∃ u v o, reqF d.q.hs d.q.ws ⟨d.tx, d.a.page, d.a.slot, d.nd.mode⟩ = some (u, v, o) := by
        cases h : reqF d.q.hs d.q.ws ⟨d.tx, d.a.page, d.a.slot, d.nd.mode⟩ with
        | some x => exact ⟨_, _, _, rfl⟩
        | none => unfold reqE at er; rw [h] at er; cases er
      have inv1 : KInv (setLk d.q u v) d.wr := inv.request hq ⟨t, ht, e1⟩ p3
      rw [show reqH d.q.hs d.q.ws ⟨d.tx, d.a.page, d.a.slot, d.nd.mode⟩ = u by unfold reqH; rw [hq], show reqW d.q.hs d.q.ws ⟨d.tx, d.a.page, d.a.slot, d.nd.mode⟩ = v by unfold reqW; rw [hq], show reqO d.q.hs d.q.ws ⟨d.tx, d.a.page, d.a.slot, d.nd.mode⟩ = o by unfold reqO; rw [hq]]
      refine fk_of (fun eo => ?_) fun eo => ?_
      · exact hk false { d with q := setLk d.q u v } ⟨⟨rfl, rfl, rfl⟩, rfl, inv1, Nat.le_succ _, rfl, (fun h => nomatch h), fun _ => ⟨rfl, rfl, fun _ => (asked hq).has eo⟩⟩
      · subst eo
        refine ⟨u, v, d.tx, ⟨inv1.validT⟩, rfl, fun l => fk_of (fun _ => ?_) fun _ => ?_⟩
        · exact ⟨{ d with q := setLk d.q u v }, t, ⟨⟨inv1, ht, e1⟩, ha, hl⟩, rfl, fun q' hq' => hk true { d with q := q', r := ⟨4, 0, 0, (false, ⟨#[]⟩), 0⟩ } ⟨⟨rfl, rfl, rfl⟩, rfl, hq'.inv, hq'.len, hq'.n, fun _ => .inr (.inl rfl), fun h => nomatch h⟩⟩
        · obtain ⟨y, hy, ey⟩ := asked_wait hq
          have bl := asked_blk inv.blk hq y hy
          rw [ey] at bl
          refine ⟨u, v, d.tx, ⟨⟨inv1.validT⟩, bl⟩, rfl, fun l hl => ?_⟩
          have := hl.ne
          exact fk_t (by (first | rfl | (simp (disch := omega) only [FS, eq_self, List.length_cons, List.length_nil, true_and, and_true, ssz, xadd, xsub, xmul, xmin, xmax] <;> omega) | omega)) (hk true { d with q := setLk d.q u v, r := ⟨2, ri (rw' (isR l) 0) 0, 0, (false, ⟨#[]⟩), 0⟩ } ⟨⟨rfl, rfl, rfl⟩, rfl, inv1, Nat.le_succ _, rfl, fun _ => .inl rfl, fun h => nomatch h⟩)
    · exact hk true { d with r := ⟨5, 0, 0, (false, ⟨#[]⟩), 15⟩ } ⟨⟨rfl, rfl, rfl⟩, rfl, inv, Nat.le_succ _, rfl, fun _ => .inr (.inr rfl), fun h => nomatch h⟩
  · exact h.elim
theorem ok27 : CtOk Tryz.prog T27 := by
  refine ct_raw ok26 fun vs E nx k h => ?_
  unfold stG at h
  split at h
  · rename_i s r
    obtain ⟨h1, d, hv, rfl, hk⟩ := fk_yes h
    have := shEq_eq _ _ h1
    subst this
    have hl := hv.len
    have kv := hv.inv.val (by omega)
    refine ⟨_, _, _, _, (vc27 d k).mpr (fk_of (fun e => ⟨d.q.size, d.q.fs, d.q.hand, d.a.page, kv.pool, rfl, ?_⟩) fun e => hk false d ⟨fun _ => ⟨rfl, fun c => by rw [e] at c; cases c⟩, fun h => nomatch h⟩)⟩
    cases h : findFr d.q.fs d.a.page with
    | none =>
      rw [findI_no0 h]
      exact fk_t rfl (hk true { d with r := ⟨3, 0, d.a.page, noCl, 0⟩ } ⟨(fun h => nomatch h), fun _ => ⟨rfl, e, h⟩⟩)
    | some i =>
      rw [findI_at0 h]
      exact fk_n (by (first | rfl | (simp (disch := omega) only [FS, eq_self, List.length_cons, List.length_nil, true_and, and_true, ssz, xadd, xsub, xmul, xmin, xmax] <;> omega) | omega)) (hk false d ⟨fun _ => ⟨rfl, fun _ => ⟨i, h⟩⟩, fun h => nomatch h⟩)
  · exact h.elim
theorem s16 {s : Int} (h0 : 0 ≤ s) (h1 : s < 16) : s = 0 ∨ s = 1 ∨ s = 2 ∨ s = 3 ∨ s = 4 ∨ s = 5 ∨ s = 6 ∨ s = 7 ∨ s = 8 ∨ s = 9 ∨ s = 10 ∨ s = 11 ∨ s = 12 ∨ s = 13 ∨ s = 14 ∨ s = 15 := by omega
theorem ok28 : CtOk Tryz.prog T28 := by
  refine ct_raw ok27 fun vs E nx k h => ?_
  unfold stG at h
  split at h
  · rename_i s r
    obtain ⟨h1, d, hv, rfl, hk⟩ := fk_yes h
    have := shEq_eq _ _ h1
    subst this
    have hl := hv.len
    have kv := hv.inv.val (by omega)
    refine ⟨_, _, _, _, (vc28 d k).mpr (fk_of (fun e => hk false d ⟨fun _ => ⟨rfl, ieq_f (nt_t e)⟩, fun h => nomatch h⟩) fun e => ?_)⟩
    have e : d.a.kind = 1 := ieq_t (nt_f e)
    obtain ⟨i, hi⟩ := hv.pg e
    obtain ⟨f, hf, ef⟩ := findFr_some hi
    obtain ⟨p0, p3, q0, q16⟩ := hv.ok.cell (by omega)
    refine ⟨d.q.size, d.q.fs, d.q.hand, d.a.page, kv.pool, rfl, d.q.size, d.q.fs, d.q.hand, d.a.page, kv.pool, rfl, ?_⟩
    rw [getP_at hi hf]
    have fin : ∀ (b : Bool) (s : ByteArray), clA f.pg.cells d.a.slot.toNat = (b, s) → k (.c (.b true)) [(0, .R shDo (dgX { d.q with fs := useF d.q.fs d.a.page } d.tx d.a d.nd ⟨1, 0, 0, (b, s), 0⟩))] 1 := fun b s hc =>
      hk true { d with q := { d.q with fs := useF d.q.fs d.a.page }, r := ⟨1, 0, 0, (b, s), 0⟩ } ⟨(fun h => nomatch h), fun _ => ⟨e, i, f, hi, hf, by rw [hc]⟩⟩
    refine fk_t (by (first | rfl | (simp (disch := omega) only [FS, eq_self, List.length_cons, List.length_nil, true_and, and_true, ssz, xadd, xsub, xmul, xmin, xmax] <;> omega) | omega)) ?_
    rcases s16 q0 q16 with h | h | h | h | h | h | h | h | h | h | h | h | h | h | h | h
    all_goals
      rw [h]
      repeat (first | refine fk_t rfl ?_ | refine fk_n rfl ?_)
      exact fin _ _ (by rw [h]; rfl)
  · exact h.elim
theorem cells16 {l : List Cl} (h : l.length = 16) : ∃ a b c d e f g i j m n o p q r s, l = [a, b, c, d, e, f, g, i, j, m, n, o, p, q, r, s] := by
  match l, h with
  | [a, b, c, d, e, f, g, i, j, m, n, o, p, q, r, s], _ => exact ⟨a, b, c, d, e, f, g, i, j, m, n, o, p, q, r, s, rfl⟩
theorem nt_cl {c b : Cl} (h : c = b) : nt (an (beqB c.1 b.1) (an (seqB c.2 b.2) true)) = false := by
  subst h
  unfold nt an beqB seqB
  simp
theorem ok73 : CtOk Tryz.prog T73 := by
  refine ct_cons ok28 (fz := true) fun rs k h => ?_
  obtain ⟨p, slot, b, a, hv, rfl, hk⟩ := h
  have s0 := hv.ch.s0; have s1 := hv.ch.s1
  obtain ⟨id, lsn, cells⟩ := p
  have hlen : cells.length = 16 := hv.len
  have hat : cells[slot.toNat]? = some b := hv.at_
  have hch := hv.ch
  dsimp only at hk hch
  clear hv
  obtain ⟨c0, c1, c2, c3, c4, c5, c6, c7, c8, c9, ca, cb, cc, cd, ce, cf, rfl⟩ := cells16 hlen
  refine ⟨_, _, _, (vc73 _ slot b.1 a.1 b.2 a.2 k).mpr ⟨fun _ => True, ⟨id, slot, b, a, hch, rfl, fk_n (by rw [nt_F]; exact decide_eq_true rfl) (fk_t (by (first | rfl | (simp (disch := omega) only [FS, eq_self, List.length_cons, List.length_nil, true_and, and_true, ssz, xadd, xsub, xmul, xmin, xmax] <;> omega) | omega)) ?_)⟩, fun _ _ => fk_t (by (first | rfl | (simp (disch := omega) only [FS, eq_self, List.length_cons, List.length_nil, true_and, and_true, ssz, xadd, xsub, xmul, xmin, xmax] <;> omega) | omega)) ?_⟩⟩
  · rcases s16 s0 s1 with h | h | h | h | h | h | h | h | h | h | h | h | h | h | h | h
    all_goals
      subst h
      have hat := Option.some.inj hat
      repeat (first | refine fk_t rfl ?_ | refine fk_n rfl ?_)
      exact fk_n (nt_cl hat) ⟨(), trivial, trivial, ⟨rfl, rfl, rfl, trivial⟩, trivial⟩
  · rcases s16 s0 s1 with h | h | h | h | h | h | h | h | h | h | h | h | h | h | h | h
    all_goals
      subst h
      repeat (first | refine fk_t rfl ?_ | refine fk_n rfl ?_)
      exact hk
theorem clA_at {l : List Cl} {i : Nat} (h : i < l.length) : l[i]? = some (clA l i) := by
  unfold clA
  rw [List.getD_eq_getElem?_getD, List.getElem?_eq_getElem h]; rfl
theorem addK_1 {q : KV} {wr : List Pg} (h : KInv q wr) {t : TxR} (ht : t ∈ q.ts) {e : En} (he : e.tx = t.id) (hk : e.kind = 1) : addK q e = { q with l := q.l ++ [e], ts := setT q.ts { t with last := q.l.length + 1, pend := t.pend ++ [(q.l.length + 1 : Int)] } } := by
  unfold addK
  rw [note_1 h.tbl.srt ht (h.tbl.each t ht).id0 he hk, noteI_no (by omega)]
theorem ok29 : CtOk Tryz.prog T29 := by
  refine ct_raw ok73 fun vs E nx k h => ?_
  unfold stG at h
  split at h
  · rename_i s r
    obtain ⟨h1, d, hv, rfl, hk⟩ := fk_yes h
    have := shEq_eq _ _ h1
    subst this
    have inv := hv.lo.inv
    have hl := hv.lo.len
    have kv := inv.val (by omega)
    have h12 := inv.n12
    refine ⟨_, _, _, _, (vc29 d k).mpr (fk_of (fun e => hk false d ⟨⟨rfl, rfl, rfl⟩, fun _ => ⟨rfl, ieq_f (nt_t e)⟩, fun h => nomatch h⟩) fun e => ?_)⟩
    have hm : d.nd.mode = 2 := ieq_t (nt_f e)
    have nm := need_mode d.a.kind
    rw [← hv.lo.nd] at nm
    have hcell : d.nd.cell = true := by
      cases h : d.nd.cell with
      | true => rfl
      | false => have := nm.2.1.2 h; omega
    obtain ⟨i, hi⟩ := hv.pg hcell
    obtain ⟨f, hf, ef⟩ := findFr_some hi
    have hk3 : d.a.kind = 2 ∨ d.a.kind = 3 := nm.2.2.1.1 hm
    obtain ⟨p0, p3, q0, q16⟩ := hv.lo.ok.cell (by omega)
    obtain ⟨y, hy, y1, y2, y3, y4⟩ := hv.lk (by omega)
    obtain ⟨t, ht, hid, ha⟩ := hv.lo.act
    have fok := inv.pool.each f (List.mem_of_getElem? hf)
    have hst : d.a.slot.toNat < 16 := by omega
    have hcl : f.pg.cells[d.a.slot.toNat]? = some (clA f.pg.cells d.a.slot.toNat) := clA_at (by rw [fok.pg.len]; exact hst)
    refine ⟨d.q.size, d.q.fs, d.q.hand, d.a.page, kv.pool, rfl, ?_⟩
    rw [getP_at hi hf]
    refine ⟨fun c => c = clA f.pg.cells d.a.slot.toNat, fk_t (by (first | rfl | (simp (disch := omega) only [FS, eq_self, List.length_cons, List.length_nil, true_and, and_true, ssz, xadd, xsub, xmul, xmin, xmax] <;> omega) | omega)) ?_, ?_⟩
    · rcases s16 q0 q16 with h | h | h | h | h | h | h | h | h | h | h | h | h | h | h | h
      all_goals
        rw [h]
        repeat (first | refine fk_t rfl ?_ | refine fk_n rfl ?_)
        exact ⟨clA f.pg.cells d.a.slot.toNat, by rw [h], ⟨trivial, trivial⟩, ⟨by rw [h]; rfl, rfl, rfl, trivial⟩, trivial⟩
    · rintro c rfl
      have newOk : ∀ a : Cl, VCl a → ∀ (nx : k = k), ∃ q e, AdV q e ∧ [kR d.q, [.i 0, .i 1, .i d.tx, .i 0, .i 0, .i 0, .i d.a.page, .i d.a.slot, .b (clA f.pg.cells d.a.slot.toNat).1, .s (clA f.pg.cells d.a.slot.toNat).2, .b a.1, .s a.2, .s ⟨#[]⟩]] = [kR q, [.i 0, .i e.kind, .i e.tx, .i 0, .i 0, .i e.ref, .i e.page, .i e.slot, .b e.b.1, .s e.b.2, .b e.a.1, .s e.a.2, .s ⟨#[]⟩]] ∧
          ∃ p slot b a_1, ApyV p slot b a_1 ∧ [pgR f.pg, [.i d.a.page, .i d.a.slot, .b (clA f.pg.cells d.a.slot.toNat).1, .s (clA f.pg.cells d.a.slot.toNat).2, .b a.1, .s a.2]] = [pgR p, [.i (ri (pgR p) 0), .i slot, .b b.1, .s b.2, .b a_1.1, .s a_1.2]] ∧
          ∃ size fs hand p_1, UpV size fs hand p_1 ∧ [[.i (addK q e).size, .sl (frsR (addK q e).fs), .i (addK q e).hand], List.set (pgR ⟨p.id, p.lsn, p.cells.set slot.toNat a_1⟩) 1 (.i (xadd (ln (ensR q.l)) 1))] = [poolR size fs hand, pgR p_1] ∧
          k (.c (.b true)) [(0, .R shDo (dgX { addK q e with size := size, fs := updF fs p_1, hand := hand } d.tx d.a d.nd ⟨1, 0, 0, (false, ⟨#[]⟩), 0⟩))] 1 := by
        intro a hva _
        have ln1 : (d.q.l ++ [(⟨1, d.tx, t.last, f.pg.lsn, 0, d.a.page, d.a.slot, clA f.pg.cells d.a.slot.toNat, a⟩ : En)]).length = d.q.l.length + 1 := by rw [List.length_append, List.length_singleton]
        have tok := inv.tbl.each t ht
        have b1 := tok.id0; have b2 := tok.id1; have b3 := tok.last
        have b4 := lastBy_le (ofTx t.id) d.q.l
        have b5 := fok.pg.lsn
        have b6 := lastBy_le (ofPg f.pg.id) d.q.l
        unfold lastTx at b3
        unfold lastPg at b5
        have vold : VCl (clA f.pg.cells d.a.slot.toNat) := by
          have := fok.pg.cell d.a.slot.toNat hst
          rw [hcl] at this
          rw [Option.some.inj this]
          exact (cellOf_ok inv.log _ _).1
        have ev : EnR d.q.l.length ⟨1, d.tx, t.last, f.pg.lsn, 0, d.a.page, d.a.slot, clA f.pg.cells d.a.slot.toNat, a⟩ :=
          ⟨by dsimp only; omega, by dsimp only; omega, by dsimp only; omega, by dsimp only; omega, Int.le_refl _, by dsimp only; omega, p0, by dsimp only; omega, .inl ⟨rfl, by dsimp only; omega, by dsimp only; omega, rfl, q0, q16, vold, hva⟩⟩
        have adv : AdV d.q ⟨1, d.tx, t.last, f.pg.lsn, 0, d.a.page, d.a.slot, clA f.pg.cells d.a.slot.toNat, a⟩ :=
          ⟨kv, ev, by omega, p3, .inl rfl, fun _ => ⟨t, ht, hid, ha, rfl⟩, AdV.pl_of inv (by omega), fun _ => by
            show f.pg.lsn = newF d.q d.a.page
            unfold newF
            rw [if_pos (by unfold getB; rw [hi]; rfl), getP_at hi hf]⟩
        have ae := addK_1 inv ht (e := ⟨1, d.tx, t.last, f.pg.lsn, 0, d.a.page, d.a.slot, clA f.pg.cells d.a.slot.toNat, a⟩) hid.symm rfl
        have wi := inv.write ht ha ev rfl hid.symm rfl hf ef.symm rfl hy y1 y2 y3 (by omega)
        have pok := fok.pg.change (e := ⟨1, d.tx, t.last, f.pg.lsn, 0, d.a.page, d.a.slot, clA f.pg.cells d.a.slot.toNat, a⟩) rfl ef.symm q0 q16
        have lok : LogOk (d.q.l ++ [⟨1, d.tx, t.last, f.pg.lsn, 0, d.a.page, d.a.slot, clA f.pg.cells d.a.slot.toNat, a⟩]) := wi.log
        have upf : updF d.q.fs ⟨f.pg.id, d.q.l.length + 1, f.pg.cells.set d.a.slot.toNat a⟩ = d.q.fs.set i ⟨⟨f.pg.id, d.q.l.length + 1, f.pg.cells.set d.a.slot.toNat a⟩, true, if f.dirty then f.rec_ else d.q.l.length + 1, true⟩ := by
          unfold updF
          rw [show findFr d.q.fs f.pg.id = some i by rw [ef]; exact hi]
          simp only
          rw [hf]
        refine ⟨d.q, _, adv, rfl, f.pg, d.a.slot, clA f.pg.cells d.a.slot.toNat, a, ⟨⟨fok.pg.id0, by have := fok.pg.id3; omega, q0, q16, vold, hva⟩, fok.pg.len, hcl⟩, by rw [← ef]; rfl, d.q.size, d.q.fs, d.q.hand, ⟨f.pg.id, d.q.l.length + 1, f.pg.cells.set d.a.slot.toNat a⟩,
          ⟨kv.pool, ⟨pok.valid lok (by rw [ln1]; omega), by rw [List.length_set]; exact fok.pg.len⟩, i, f, hf, rfl, by dsimp only; omega⟩, by rw [ae, xln_eq]; rfl, ?_⟩
        rw [upf, ae]
        exact hk true { d with q := _, r := ⟨1, 0, 0, (false, ⟨#[]⟩), 0⟩ } ⟨⟨rfl, rfl, rfl⟩, (fun h => nomatch h), fun _ => ⟨wi, by dsimp only; omega, rfl, hm, rfl⟩⟩
      rcases hk3 with h | h
      · refine ⟨fun j => j = (clA f.pg.cells d.a.slot.toNat, (true, d.a.data)), fk_t (by (first | rfl | (simp (disch := omega) only [FS, eq_self, List.length_cons, List.length_nil, true_and, and_true, ssz, xadd, xsub, xmul, xmin, xmax] <;> omega) | omega)) ⟨_, rfl, trivial, ⟨rfl, rfl, rfl, trivial⟩, trivial⟩, ?_⟩
        rintro j rfl
        exact newOk (true, d.a.data) ⟨hv.lo.ok.data, fun h => nomatch h⟩ rfl
      · refine ⟨fun j => j = (clA f.pg.cells d.a.slot.toNat, noCl), fk_n (by (first | rfl | (simp (disch := omega) only [FS, eq_self, List.length_cons, List.length_nil, true_and, and_true, ssz, xadd, xsub, xmul, xmin, xmax] <;> omega) | omega)) ⟨_, rfl, trivial, ⟨rfl, rfl, rfl, trivial⟩, trivial⟩, ?_⟩
        rintro j rfl
        exact newOk noCl vcl_no rfl
  · exact h.elim
theorem addK_3 {q : KV} {wr : List Pg} (h : KInv q wr) {t : TxR} (ht : t ∈ q.ts) {e : En} (he : e.tx = t.id) (hk : e.kind = 3) : addK q e = { q with l := q.l ++ [e], ts := rmT q.ts t.id } := by
  have := (h.tbl.each t ht).id0
  unfold addK
  rw [note_3 (by omega) hk, noteI_no (by omega), he]
theorem ok75 : CtOk Tryz.prog T75 := by
  refine ct_raw ok29 fun vs E nx k h => ?_
  unfold stG at h
  split at h
  · rename_i s r
    obtain ⟨h1, d, hv, rfl, hk⟩ := fk_yes h
    have := shEq_eq _ _ h1
    subst this
    have inv := hv.inv
    have hl := hv.len
    have hn := inv.tbl.len inv.n0
    have h12 := inv.n12
    obtain ⟨t, ht, hid, ha⟩ := hv.act
    refine ⟨_, _, _, _, (vc75 d k).mpr ⟨d, t, ⟨inv, ht, hid⟩, rfl, fk_of (fun e => ?_) fun e => ?_⟩⟩
    · have g := inv.gone ht (ieq_t e)
      rw [rel_eq inv.validT, hid] at g
      exact ⟨d.q.ts, d.tx, by omega, rfl, d.q.hs, d.q.ws, d.tx, ⟨inv.validT⟩, rfl, hk true { d with q := _, r := ⟨1, 0, 0, (false, ⟨#[]⟩), 0⟩ } ⟨⟨rfl, rfl, rfl⟩, rfl, fun _ => ⟨g, Nat.le_succ _, rfl⟩, .inl rfl⟩⟩
    · have h0 := ieq_f e
      have adv := end_adv inv (show d.q.l.length ≤ 2000 by omega) ht ha (.inl rfl) h0
      have cm := inv.commit ht ha adv.ev rfl rfl rfl
      have ae := addK_3 inv ht (e := ⟨3, t.id, t.last, 0, 0, 0, 0, noCl, noCl⟩) rfl rfl
      rw [rel_eq inv.validT, hid] at cm
      have ln1 : (d.q.l ++ [(⟨3, d.tx, t.last, 0, 0, 0, 0, noCl, noCl⟩ : En)]).length = d.q.l.length + 1 := by rw [List.length_append, List.length_singleton]
      have d0 := inv.d0; have d1 := inv.d1
      have xm : xmax d.q.dur ((d.q.l.length : Int) + 1) = d.q.l.length + 1 := by unfold xmax; omega
      rw [hid] at adv ae
      refine ⟨d.q, _, adv, rfl, ?_⟩
      rw [ae, xln_eq]
      refine ⟨_, _, _, ⟨⟨fun i x hx => cm.log.right hx, d0, by rw [ln1]; omega, by rw [ln1]; omega⟩, by rw [ln1]; omega⟩, rfl, d.q.hs, d.q.ws, d.tx, ⟨inv.validT⟩, rfl, ?_⟩
      rw [xm]
      exact hk true { d with q := _, r := ⟨1, 0, 0, (false, ⟨#[]⟩), 0⟩ } ⟨⟨rfl, rfl, rfl⟩, rfl, fun _ => ⟨cm, by dsimp only; omega, rfl⟩, .inl rfl⟩
  · exact h.elim
theorem ok30x : CtOk Tryz.prog T30x := noG_ok ok75 _
theorem ok30 : CtOk Tryz.prog T30 := by
  refine ct_raw ok30x fun vs E nx k h => ?_
  unfold stG at h
  split at h
  · rename_i s r
    obtain ⟨h1, d, hv, rfl, hk⟩ := fk_yes h
    have := shEq_eq _ _ h1
    subst this
    have inv := hv.inv
    have hl := hv.len
    have kv := inv.val (by omega)
    refine ⟨_, _, _, _, (vc30 d k).mpr (fk_of (fun e => ⟨d, hv, rfl, hk⟩) fun e => ?_)⟩
    have h6 : d.a.kind = 6 := by rcases hv.kind with h | h; exact absurd h (ieq_f e); exact h
    obtain ⟨t, ht, hid, ha⟩ := hv.act
    refine fk_n (by (first | rfl | (simp (disch := omega) only [FS, eq_self, List.length_cons, List.length_nil, true_and, and_true, ssz, xadd, xsub, xmul, xmin, xmax] <;> omega) | omega)) (fk_t (by (first | rfl | (simp (disch := omega) only [FS, eq_self, List.length_cons, List.length_nil, true_and, and_true, ssz, xadd, xsub, xmul, xmin, xmax] <;> omega) | omega)) ⟨d.q.ts, t, ⟨kv.txs, ht, ha⟩, by rw [hid], fk_of (fun _ => ?_) fun e8 => ?_⟩)
    · exact hk true { d with q := { d.q with ts := [] }, r := ⟨5, 0, 0, (false, ⟨#[]⟩), 21⟩ } ⟨⟨rfl, rfl, rfl⟩, rfl, (fun h => nomatch h), .inr rfl⟩
    · have h8 : t.saves.length < 8 := by
        have := (kv.txs.each t ht).sl
        have e8 := ieq_f e8
        rw [ln_is] at e8
        omega
      exact hk true { d with q := { d.q with ts := svT d.q.ts t }, r := ⟨1, 0, 0, (false, ⟨#[]⟩), 0⟩ } ⟨⟨rfl, rfl, rfl⟩, rfl, fun _ => ⟨inv.save ht h8, Nat.le_succ _, rfl⟩, .inl rfl⟩
  · exact h.elim
end Go.Proofs.YtgjindhjgmplgaaGreat
