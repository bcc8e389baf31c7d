/-
  KernelPlays: contracts of kernel.Do, Room, Written, Supply, and of the law's supplied.
-/
import Derived.Test.YtgjindhjgmplgaaGreatKzQ
set_option linter.unusedVariables false
set_option linter.unusedSimpArgs false
set_option maxRecDepth 100000
namespace Go.Proofs.YtgjindhjgmplgaaGreat
open Wp
def pgsR (l : List Pg) : List Row := l.map pgR
structure DoA (q : KV) (wr : List Pg) (a : AcR) : Prop where
  inv : KInv q wr
  len : q.l.length ≤ 1980
  k5 : a.kind ≠ 5
  k7 : a.kind ≠ 7
structure DoP (q : KV) (wr : List Pg) (tx : Int) (a : AcR) (q' : KV) (r : RsR) : Prop where
  inv : KInv q' wr
  len : q'.l.length ≤ q.l.length + 1
  n : q'.n = q.n
  need : r.st = 3 → q'.fs = q.fs ∧ findFr q.fs a.page = none ∧ r.page = a.page ∧ 0 ≤ a.page ∧ a.page < 3
  read : r.st = 1 → a.kind = 1 → OkA a ∧ r.c = cellAt q'.l (seenF q'.l a.page a.slot tx)
def g12 (rs : List Row) (k : V → Prop) : Prop := ∃ (q : KV) (wr : List Pg) (tx : Int) (a : AcR), DoA q wr a ∧ rs = [kR q, [.i tx], acR a] ∧ ∀ q' r, DoP q wr tx a q' r → k (.t [.r shK (kR q'), .r shRs (rsR r)])
noncomputable def T12 : Ct := (12, ctF (psF Tryz.prog 12) g12) :: T30
structure RmA (q : KV) (wr : List Pg) : Prop where
  inv : KInv q wr
  len : q.l.length ≤ 1990
structure RmP (q : KV) (wr : List Pg) (q' : KV) (p : Pg) (b : Bool) : Prop where
  inv : KInv q' wr
  l : q'.l = q.l
  n : q'.n = q.n
  no : ∀ id, findFr q.fs id = none → findFr q'.fs id = none
  clean : b = false → (q'.fs.length : Int) < q'.size
  dirty : b = true → ∃ (i : Nat) (f : Fr), q'.fs[i]? = some f ∧ f.pg = p ∧ f.dirty = true ∧ f.used = false ∧ q'.hand = i ∧ p.lsn ≤ q'.dur ∧ q'.size = q.size ∧ (q'.fs.length : Int) = q'.size
  hand : ∀ f, q.fs[q.hand.toNat]? = some f → f.used = false → f.dirty = false → b = false
def g32 (rs : List Row) (k : V → Prop) : Prop := ∃ (q : KV) (wr : List Pg), RmA q wr ∧ rs = [kR q] ∧ ∀ q' p b, RmP q wr q' p b → k (.t [.r shK (kR q'), .r shPg (pgR p), .c (.b b), .c (.i .i64 0)])
noncomputable def T32 : Ct := (32, ctF (psF Tryz.prog 32) g32) :: T12
structure WnA (q : KV) (wr : List Pg) (i : Nat) (f : Fr) : Prop where
  inv : KInv q wr
  len : q.l.length ≤ 1990
  at_ : q.fs[i]? = some f
  d : f.dirty = true
structure WnP (q : KV) (wr : List Pg) (i : Nat) (f : Fr) (q' : KV) : Prop where
  inv : KInv q' (wr.set f.pg.id.toNat f.pg)
  fs : q'.fs = clnF q.fs i
  hand : q'.hand = q.hand
  size : q'.size = q.size
  len : q'.l.length = q.l.length + 1
  n : q'.n = q.n
def g33 (rs : List Row) (k : V → Prop) : Prop := ∃ (q : KV) (wr : List Pg) (i : Nat) (f : Fr), WnA q wr i f ∧ rs = [kR q, [.i (ri (pgR f.pg) 0)], [.i (ri (pgR f.pg) 1)]] ∧ ∀ q', WnP q wr i f q' → k (.t [.r shK (kR q'), .c (.i .i64 0)])
noncomputable def T33 : Ct := (33, ctF (psF Tryz.prog 33) g33) :: T32
structure SuA (q : KV) (wr : List Pg) (p : Pg) : Prop where
  inv : KInv q wr
  len : q.l.length ≤ 1990
  no : findFr q.fs p.id = none
  room : (q.fs.length : Int) < q.size
  wr : wr[p.id.toNat]? = some p
  i0 : 0 ≤ p.id
  i3 : p.id < 3
def supK (q : KV) (p : Pg) : KV := ⟨q.n, q.l, q.dur, q.size, q.hand, putFr q.fs p, q.hs, q.ws, q.ts, q.rows⟩
def g34 (rs : List Row) (k : V → Prop) : Prop := ∃ (q : KV) (wr : List Pg) (p : Pg), SuA q wr p ∧ rs = [kR q, pgR p] ∧ k (.t [.r shK (kR (supK q p)), .c (.i .i64 0)])
noncomputable def T34x : Ct := (89, noG) :: (88, noG) :: T33
noncomputable def T34 : Ct := (34, ctF (psF Tryz.prog 34) g34) :: T34x
structure SpA (q : KV) (wr : List Pg) (id : Int) : Prop where
  inv : KInv q wr
  len : q.l.length ≤ 1980
  no : findFr q.fs id = none
  i0 : 0 ≤ id
  i3 : id < 3
structure SpP (q : KV) (id : Int) (q' : KV) (wr' : List Pg) : Prop where
  inv : KInv q' wr'
  len : q'.l.length ≤ q.l.length + 2
  n : q'.n = q.n
  has : ∃ i, findFr q'.fs id = some i
def g14 (vs : List V) (E : Mem) (nx : Nat) (k : KVk) : Prop := match vs, E, nx with
  | [.r s r, .c (.ow 0), .c (.i .i64 id)], [(0, .W e rows)], 1 => fk (shEq s shK && shEq e shPg) (∃ q wr, SpA q wr id ∧ r = kR q ∧ rows = pgsR wr ∧ ∀ q' wr', SpP q id q' wr' → k (.t [.r shK (kR q'), .c (.b true)]) [(0, .W shPg (pgsR wr'))] 1) False
  | _, _, _ => False
noncomputable def T14 : Ct := (14, g14) :: T34
theorem vc12 (q : KV) (tx : Int) (a : AcR) (k : KVk) : dbody Tryz.prog (dcall Tryz.prog T30 (fun _ => []) 5) [(6, .u 7)] true 12 (argVs (psF Tryz.prog 12) [kR q, [.i tx], acR a]) [] 0 k = (∃ q_1, KVal
  q_1 ∧ [(kR q)] = [(kR q_1)] ∧ ∃ d, CkA d ∧ [DV.i 3, DV.i (q.n + 1), DV.i 1, DV.sl (ensR q.l), DV.i q.dur, DV.i q.size, DV.sl (frsR q.fs), DV.i q.hand, DV.sl (gsR q.hs), DV.sl (gsR q.ws), DV.sl (txsR q.ts), DV.sl (rwsR
  q.rows), DV.sl [], DV.i tx, DV.i a.kind, DV.i a.page, DV.i a.slot, DV.s a.data, DV.i 0, DV.b false, DV.b false, DV.b false, DV.i 0, DV.i 0, DV.i 0, DV.b false, DV.s ⟨#[]⟩, DV.i 0] = (dgR d) ∧ ∀ (b : Bool) (d' : Dg),
  CkP d b d' → fk b (fk (ieq d'.r.st 5) (k (.t [.r shK (kR q), .r [.i .i64, .i .i64, .i .i64, .b, .s, .i .i64] [DV.i d'.r.st, DV.i d'.r.tx, DV.i d'.r.page, DV.b d'.r.c.fst, DV.s d'.r.c.snd, DV.i d'.r.err]]) [] 0) (k (.t
  [.r shK (kR d'.q), .r [.i .i64, .i .i64, .i .i64, .b, .s, .i .i64] [DV.i d'.r.st, DV.i d'.r.tx, DV.i d'.r.page, DV.b d'.r.c.fst, DV.s d'.r.c.snd, DV.i d'.r.err]]) [] 0)) (∃ d, LoA d ∧ (dgR d') = (dgR d) ∧ ∀ (b : Bool)
  (d' : Dg), LoP d b d' → fk b (fk (ieq d'.r.st 5) (k (.t [.r shK (kR q), .r [.i .i64, .i .i64, .i .i64, .b, .s, .i .i64] [DV.i d'.r.st, DV.i d'.r.tx, DV.i d'.r.page, DV.b d'.r.c.fst, DV.s d'.r.c.snd, DV.i d'.r.err]]) []
  0) (k (.t [.r shK (kR d'.q), .r [.i .i64, .i .i64, .i .i64, .b, .s, .i .i64] [DV.i d'.r.st, DV.i d'.r.tx, DV.i d'.r.page, DV.b d'.r.c.fst, DV.s d'.r.c.snd, DV.i d'.r.err]]) [] 0)) (∃ d, FeA d ∧ (dgR d') = (dgR d) ∧ ∀
  (b : Bool) (d' : Dg), FeP d b d' → fk b (fk (ieq d'.r.st 5) (k (.t [.r shK (kR q), .r [.i .i64, .i .i64, .i .i64, .b, .s, .i .i64] [DV.i d'.r.st, DV.i d'.r.tx, DV.i d'.r.page, DV.b d'.r.c.fst, DV.s d'.r.c.snd, DV.i
  d'.r.err]]) [] 0) (k (.t [.r shK (kR d'.q), .r [.i .i64, .i .i64, .i .i64, .b, .s, .i .i64] [DV.i d'.r.st, DV.i d'.r.tx, DV.i d'.r.page, DV.b d'.r.c.fst, DV.s d'.r.c.snd, DV.i d'.r.err]]) [] 0)) (∃ d, ReA d ∧ (dgR d')
  = (dgR d) ∧ ∀ (b : Bool) (d' : Dg), ReP d b d' → fk b (fk (ieq d'.r.st 5) (k (.t [.r shK (kR q), .r [.i .i64, .i .i64, .i .i64, .b, .s, .i .i64] [DV.i d'.r.st, DV.i d'.r.tx, DV.i d'.r.page, DV.b d'.r.c.fst, DV.s
  d'.r.c.snd, DV.i d'.r.err]]) [] 0) (k (.t [.r shK (kR d'.q), .r [.i .i64, .i .i64, .i .i64, .b, .s, .i .i64] [DV.i d'.r.st, DV.i d'.r.tx, DV.i d'.r.page, DV.b d'.r.c.fst, DV.s d'.r.c.snd, DV.i d'.r.err]]) [] 0)) (∃ d,
  WrA d ∧ (dgR d') = (dgR d) ∧ ∀ (b : Bool) (d' : Dg), WrQ d b d' → fk b (fk (ieq d'.r.st 5) (k (.t [.r shK (kR q), .r [.i .i64, .i .i64, .i .i64, .b, .s, .i .i64] [DV.i d'.r.st, DV.i d'.r.tx, DV.i d'.r.page, DV.b
  d'.r.c.fst, DV.s d'.r.c.snd, DV.i d'.r.err]]) [] 0) (k (.t [.r shK (kR d'.q), .r [.i .i64, .i .i64, .i .i64, .b, .s, .i .i64] [DV.i d'.r.st, DV.i d'.r.tx, DV.i d'.r.page, DV.b d'.r.c.fst, DV.s d'.r.c.snd, DV.i
  d'.r.err]]) [] 0)) (∃ d, RtA d ∧ (dgR d') = (dgR d) ∧ ∀ (b : Bool) (d' : Dg), RtP d b d' → fk b (fk (ieq d'.r.st 5) (k (.t [.r shK (kR q), .r [.i .i64, .i .i64, .i .i64, .b, .s, .i .i64] [DV.i d'.r.st, DV.i d'.r.tx,
  DV.i d'.r.page, DV.b d'.r.c.fst, DV.s d'.r.c.snd, DV.i d'.r.err]]) [] 0) (k (.t [.r shK (kR d'.q), .r [.i .i64, .i .i64, .i .i64, .b, .s, .i .i64] [DV.i d'.r.st, DV.i d'.r.tx, DV.i d'.r.page, DV.b d'.r.c.fst, DV.s
  d'.r.c.snd, DV.i d'.r.err]]) [] 0)) (fk (ieq d'.r.st 5) (k (.t [.r shK (kR q), .r [.i .i64, .i .i64, .i .i64, .b, .s, .i .i64] [DV.i d'.r.st, DV.i d'.r.tx, DV.i d'.r.page, DV.b d'.r.c.fst, DV.s d'.r.c.snd, DV.i
  d'.r.err]]) [] 0) (k (.t [.r shK (kR d'.q), .r [.i .i64, .i .i64, .i .i64, .b, .s, .i .i64] [DV.i d'.r.st, DV.i d'.r.tx, DV.i d'.r.page, DV.b d'.r.c.fst, DV.s d'.r.c.snd, DV.i d'.r.err]]) [] 0)))))))) := by kernel_rfl
theorem vc32 (q : KV) (k : KVk) : dbody Tryz.prog (dcall Tryz.prog T12 (fun _ => []) 5) [] true 32 (argVs (psF Tryz.prog 32) [kR q]) [] 0 k = (∃ q_1, KVal q_1 ∧ [(kR q)] = [(kR q_1)] ∧ fk (ilt (ln
  (frsR q.fs)) q.size) (k (.t [.r shK (kR q), .r shPg zPR, .c (.b false), .c (.i .i64 0)]) [] 0) (∃ size fs hand, VcV size fs hand ∧ [(poolR q.size q.fs q.hand)] = [(poolR size fs hand)] ∧ ∀ (fs' : List Fr) (i : Nat) (f
  : Fr), VcP fs hand fs' i f → ∃ size_1 fs hand id, PoolV size_1 fs hand ∧ [[DV.i size, DV.sl (frsR fs'), DV.i (Int.ofNat i)], [DV.i (ri (frR f) 0)]] = [(poolR size_1 fs hand), [DV.i id]] ∧ fk (inR (findI fs id) (ln
  (frsR fs'))) (fk (rb (rw' (frsR fs') (tn (findI fs id))) 34) (∃ l dur, LogV l dur ∧ [(logR q.l q.dur)] = [(logR l dur)] ∧ ∃ l_1 dur n, FoV l_1 dur n ∧ [(logR q.l q.dur), [DV.i (xmin (ri (rtk (rdp (rw' (frsR fs') (tn
  (findI fs id))) 0) 34) 1) (ln (ensR l)))]] = [(logR l_1 dur), [DV.i n]] ∧ k (.t [.r shK [DV.i 3, DV.i (q.n + 1), DV.i 1, DV.sl (ensR l_1), DV.i (xmax dur n), DV.i size, DV.sl (frsR fs'), DV.i (Int.ofNat i), DV.sl (gsR
  q.hs), DV.sl (gsR q.ws), DV.sl (txsR q.ts), DV.sl (rwsR q.rows), DV.sl []], .r shPg (rtk (rdp (rw' (frsR fs') (tn (findI fs id))) 0) 34), .c (.b true), .c (.i .i64 0)]) [] 0) (∃ size_2 fs hand i_1 f_1, DrV size_2 fs
  hand i_1 f_1 ∧ [[DV.i size, DV.sl (frsR fs'), DV.i (Int.ofNat i)], [DV.i (ri (frR f) 0)]] = [(poolR size_2 fs hand), [DV.i (ri (frR f_1) 0)]] ∧ ∀ (h : Int), DrP fs i_1 h → k (.t [.r shK [DV.i 3, DV.i (q.n + 1), DV.i 1,
  DV.sl (ensR q.l), DV.i q.dur, DV.i size_2, DV.sl (frsR (fs.eraseIdx i_1)), DV.i h, DV.sl (gsR q.hs), DV.sl (gsR q.ws), DV.sl (txsR q.ts), DV.sl (rwsR q.rows), DV.sl []], .r shPg zPR, .c (.b false), .c (.i .i64 0)]) []
  0)) False)) := by kernel_rfl
theorem vc33 (q : KV) (f : Fr) (k : KVk) : dbody Tryz.prog (dcall Tryz.prog T32 (fun _ => []) 5) [] true 33 (argVs (psF Tryz.prog 33) [kR q, [.i (ri (pgR f.pg) 0)], [.i (ri (pgR f.pg) 1)]]) []
  0 k = (∃ q_1, KVal q_1 ∧ [(kR q)] = [(kR q_1)] ∧ fk (ile 0 (ri (pgR f.pg) 0)) (fk (nt (ile (ri (pgR f.pg) 0) (wr .i64 (xsub 3 1)))) (k (.t [.r shK zKR, .c (.i .i64 1)]) [] 0) (∃ l dur, LogV l dur ∧ [(logR q.l q.dur)] =
  [(logR l dur)] ∧ fk (ile 0 (ri (pgR f.pg) 1)) (fk (nt (ile (ri (pgR f.pg) 1) (ln (ensR l)))) (k (.t [.r shK zKR, .c (.i .i64 1)]) [] 0) (∃ size fs hand id, PoolV size fs hand ∧ [(poolR q.size q.fs q.hand), [DV.i (ri
  (pgR f.pg) 0)]] = [(poolR size fs hand), [DV.i id]] ∧ fk (ile 0 (findI fs id)) (∃ size fs hand i f_1, ClV size fs hand i f_1 ∧ [(poolR q.size q.fs q.hand), [DV.i (ri (pgR f.pg) 0)], [DV.i (ri (pgR f.pg) 1)]] = [(poolR
  size fs hand), [DV.i (ri (frR f_1) 0)], [DV.i (ri (frR f_1) 1)]] ∧ ∃ q_2 e, AdV q_2 e ∧ [[DV.i 3, DV.i (q.n + 1), DV.i 1, DV.sl (ensR q.l), DV.i q.dur, DV.i size, DV.sl (frsR (clnF fs i)), DV.i hand, DV.sl (gsR q.hs),
  DV.sl (gsR q.ws), DV.sl (txsR q.ts), DV.sl (rwsR q.rows), DV.sl []], [DV.i 0, DV.i 7, DV.i 0, DV.i 0, DV.i 0, DV.i (ri (pgR f.pg) 1), DV.i (ri (pgR f.pg) 0), DV.i 0, DV.b false, DV.s ⟨#[]⟩, DV.b false, DV.s ⟨#[]⟩, DV.s
  ⟨#[]⟩]] = [(kR q_2), [DV.i 0, DV.i e.kind, DV.i e.tx, DV.i 0, DV.i 0, DV.i e.ref, DV.i e.page, DV.i e.slot, DV.b e.b.fst, DV.s e.b.snd, DV.b e.a.fst, DV.s e.a.snd, DV.s ⟨#[]⟩]] ∧ k (.t [.r shK (kR (addK q_2 e)), .c (.i
  .i64 0)]) [] 0) (∃ q_2 e, AdV q_2 e ∧ [(kR q), [DV.i 0, DV.i 7, DV.i 0, DV.i 0, DV.i 0, DV.i (ri (pgR f.pg) 1), DV.i (ri (pgR f.pg) 0), DV.i 0, DV.b false, DV.s ⟨#[]⟩, DV.b false, DV.s ⟨#[]⟩, DV.s ⟨#[]⟩]] = [(kR q_2),
  [DV.i 0, DV.i e.kind, DV.i e.tx, DV.i 0, DV.i 0, DV.i e.ref, DV.i e.page, DV.i e.slot, DV.b e.b.fst, DV.s e.b.snd, DV.b e.a.fst, DV.s e.a.snd, DV.s ⟨#[]⟩]] ∧ k (.t [.r shK (kR (addK q_2 e)), .c (.i .i64 0)]) [] 0))) (k
  (.t [.r shK zKR, .c (.i .i64 1)]) [] 0))) (k (.t [.r shK zKR, .c (.i .i64 1)]) [] 0)) := by kernel_rfl
theorem vc34 (q : KV) (p : Pg) (k : KVk) : dbody Tryz.prog (dcall Tryz.prog T34x (fun _ => []) 5) [] true 34 (argVs (psF Tryz.prog 34) [kR q, pgR p]) [] 0 k = (∃ q_1, KVal q_1 ∧ [(kR q)] = [(kR
  q_1)] ∧ ∃ q_2 id, NwV q_2 id ∧ [(kR q), [DV.i (ri (pgR p) 0)]] = [(kR q_2), [DV.i id]] ∧ fk (ile 0 (ri (pgR p) 0)) (fk (nt (ile (ri (pgR p) 0) (wr .i64 (xsub 3 1)))) (k (.t [.r shK zKR, .c (.i .i64 1)]) [] 0) (fk (ilt
  (ri (pgR p) 1) (newF q_2 id)) (k (.t [.r shK zKR, .c (.i .i64 8)]) [] 0) (fk (ilt (newF q_2 id) (ri (pgR p) 1)) (k (.t [.r shK zKR, .c (.i .i64 9)]) [] 0) (∃ size fs hand p_1, PuV size fs hand p_1 ∧ [(poolR q.size q.fs
  q.hand), pgR p] = [(poolR size fs hand), pgR p_1] ∧ ∃ q_3 id, [[DV.i 3, DV.i (q.n + 1), DV.i 1, DV.sl (ensR q.l), DV.i q.dur, DV.i size, DV.sl (frsR (putFr fs p_1)), DV.i hand, DV.sl (gsR q.hs), DV.sl (gsR q.ws), DV.sl
  (txsR q.ts), DV.sl (rwsR q.rows), DV.sl []], [DV.i (ri (pgR p) 0)]] = [(kR q_3), [DV.i id]] ∧ k (.t [.r shK [DV.i 3, DV.i (q.n + 1), DV.i 1, DV.sl (ensR q.l), DV.i q.dur, DV.i size, DV.sl (frsR (putFr fs p_1)), DV.i
  hand, DV.sl (gsR q.hs), DV.sl (gsR q.ws), DV.sl (txsR q.ts), DV.sl (rwsR q.rows), DV.sl []], .c (.i .i64 0)]) [] 0)))) (k (.t [.r shK zKR, .c (.i .i64 1)]) [] 0)) := by kernel_rfl
theorem vc14 (q : KV) (wr : List Pg) (id : Int) (k : KVk) : dbody Tryz.prog (dcall Tryz.prog T34 (fun _ => []) 5) [(3, .u 3)] false 14 [.r shK (kR q), .c (.ow 0), .c (.i .i64 id)] [(0, .W shPg (pgsR
  wr))] 1 k = (∃ q_1 wr_1, RmA q_1 wr_1 ∧ [(kR q)] = [(kR q_1)] ∧ ∀ (q' : KV) (p : Pg) (b : Bool), RmP q_1 wr_1 q' p b → fk (nt b) (fk (inR id (ln (pgsR wr))) (fk (nlt (tn id) (pgsR wr)) (∃ q wr_2 p, SuA q wr_2 p ∧ [(kR
  q'), rw' (pgsR wr) (tn id)] = [(kR q), pgR p] ∧ k (.t [.r shK [DV.i 3, DV.i ((supK q p).n + 1), DV.i 1, DV.sl (ensR (supK q p).l), DV.i (supK q p).dur, DV.i (supK q p).size, DV.sl (frsR (putFr q.fs p)), DV.i (supK q
  p).hand, DV.sl (gsR (supK q p).hs), DV.sl (gsR (supK q p).ws), DV.sl (txsR (supK q p).ts), DV.sl (rwsR (supK q p).rows), DV.sl []], .c (.b true)]) [(0, .W shPg (pgsR wr))] 1) False) False) (fk (ilt q'.dur (ri (pgR p)
  1)) (k (.t [.r shK (kR q'), .c (.b false)]) [(0, .W shPg (pgsR wr))] 1) (fk (inR (ri (pgR p) 0) (ln (pgsR wr))) (fk (nlt (tn (ri (pgR p) 0)) (pgsR wr)) (∃ q wr_2 i f, WnA q wr_2 i f ∧ [(kR q'), [DV.i (ri (pgR p) 0)],
  [DV.i (ri (pgR p) 1)]] = [(kR q), [DV.i (ri (pgR f.pg) 0)], [DV.i (ri (pgR f.pg) 1)]] ∧ ∀ (q' : KV), WnP q wr_2 i f q' → ∃ q wr_3, RmA q wr_3 ∧ [(kR q')] = [(kR q)] ∧ ∀ (q' : KV) (p_1 : Pg) (b : Bool), RmP q wr_3 q'
  p_1 b → fk (nt b) (fk (inR id (ln (lst (pgsR wr) (tn (ri (pgR p) 0)) (pgR p)))) (fk (nlt (tn id) (lst (pgsR wr) (tn (ri (pgR p) 0)) (pgR p))) (∃ q wr_4 p_2, SuA q wr_4 p_2 ∧ [(kR q'), rw' (lst (pgsR wr) (tn (ri (pgR p)
  0)) (pgR p)) (tn id)] = [(kR q), pgR p_2] ∧ k (.t [.r shK [DV.i 3, DV.i ((supK q p_2).n + 1), DV.i 1, DV.sl (ensR (supK q p_2).l), DV.i (supK q p_2).dur, DV.i (supK q p_2).size, DV.sl (frsR (putFr q.fs p_2)), DV.i
  (supK q p_2).hand, DV.sl (gsR (supK q p_2).hs), DV.sl (gsR (supK q p_2).ws), DV.sl (txsR (supK q p_2).ts), DV.sl (rwsR (supK q p_2).rows), DV.sl []], .c (.b true)]) [(0, .W shPg (lst (pgsR wr) (tn (ri (pgR p) 0)) (pgR
  p)))] 1) False) False) (fk (ilt q'.dur (ri (pgR p_1) 1)) (k (.t [.r shK (kR q'), .c (.b false)]) [(0, .W shPg (lst (pgsR wr) (tn (ri (pgR p) 0)) (pgR p)))] 1) (fk (inR (ri (pgR p_1) 0) (ln (lst (pgsR wr) (tn (ri (pgR
  p) 0)) (pgR p)))) (fk (nlt (tn (ri (pgR p_1) 0)) (lst (pgsR wr) (tn (ri (pgR p) 0)) (pgR p))) (∃ q wr_4 i f, WnA q wr_4 i f ∧ [(kR q'), [DV.i (ri (pgR p_1) 0)], [DV.i (ri (pgR p_1) 1)]] = [(kR q), [DV.i (ri (pgR f.pg)
  0)], [DV.i (ri (pgR f.pg) 1)]] ∧ ∀ (q' : KV), WnP q wr_4 i f q' → fk (inR id (ln (lst (lst (pgsR wr) (tn (ri (pgR p) 0)) (pgR p)) (tn (ri (pgR p_1) 0)) (pgR p_1)))) (fk (nlt (tn id) (lst (lst (pgsR wr) (tn (ri (pgR p)
  0)) (pgR p)) (tn (ri (pgR p_1) 0)) (pgR p_1))) (∃ q wr_5 p_2, SuA q wr_5 p_2 ∧ [(kR q'), rw' (lst (lst (pgsR wr) (tn (ri (pgR p) 0)) (pgR p)) (tn (ri (pgR p_1) 0)) (pgR p_1)) (tn id)] = [(kR q), pgR p_2] ∧ k (.t [.r
  shK [DV.i 3, DV.i ((supK q p_2).n + 1), DV.i 1, DV.sl (ensR (supK q p_2).l), DV.i (supK q p_2).dur, DV.i (supK q p_2).size, DV.sl (frsR (putFr q.fs p_2)), DV.i (supK q p_2).hand, DV.sl (gsR (supK q p_2).hs), DV.sl (gsR
  (supK q p_2).ws), DV.sl (txsR (supK q p_2).ts), DV.sl (rwsR (supK q p_2).rows), DV.sl []], .c (.b true)]) [(0, .W shPg (lst (lst (pgsR wr) (tn (ri (pgR p) 0)) (pgR p)) (tn (ri (pgR p_1) 0)) (pgR p_1)))] 1) False)
  False) False) False))) False) False))) := by kernel_rfl
theorem use_same (fs : List Fr) (id : Int) : (useF fs id).map (fun f => (f.pg, f.dirty, f.rec_)) = fs.map (fun f => (f.pg, f.dirty, f.rec_)) ∧ (useF fs id).length = fs.length := by
  unfold useF
  split
  · split
    · rename_i i _ f hf
      exact ⟨map_set_same (g := fun f => (f.pg, f.dirty, f.rec_)) (y := { f with used := true }) hf rfl, List.length_set⟩
    · exact ⟨rfl, rfl⟩
  · exact ⟨rfl, rfl⟩
theorem ok12 : CtOk Tryz.prog T12 := by
  refine ct_cons ok30 (fz := true) fun rs k h => ?_
  obtain ⟨q, wr, tx, a, hv, rfl, hk⟩ := h
  have inv := hv.inv
  have hl := hv.len
  have fin : ∀ (q' : KV) (r : RsR), (r.st ≠ 5 → DoP q wr tx a q' r) → fk (ieq r.st 5) (k (.t [.r shK (kR q), .r shRs (rsR r)]) [] 0) (k (.t [.r shK (kR q'), .r shRs (rsR r)]) [] 0) := fun q' r h => fk_of
    (fun e => hk q r ⟨inv, Nat.le_succ _, rfl, fun c => by have := ieq_t e; omega, fun c => by have := ieq_t e; omega⟩) fun e => hk q' r (h (ieq_f e))
  refine ⟨_, _, _, (vc12 q tx a k).mpr ⟨q, inv.val (by omega), rfl, ⟨q, wr, tx, a, ⟨0, false, false, false⟩, ⟨0, 0, 0, noCl, 0⟩⟩, ⟨inv, by dsimp only; omega⟩, rfl, fun b d1 h1 => fk_of (fun eb => fin d1.q d1.r fun c => absurd (h1.yes eb) c) fun eb => ?_⟩⟩
  obtain ⟨r1, n1, ok, t, ht, hid, ha⟩ := h1.no eb
  obtain ⟨w1, x1, a1⟩ := h1.stay
  have q1 := h1.q
  obtain ⟨q1', wr1, tx1, a1', nd1, rr1⟩ := d1
  dsimp only at r1 n1 ok t ht hid ha w1 x1 a1 q1 ⊢
  subst q1 w1 x1 a1 r1 n1
  refine ⟨⟨q1', wr1, tx1, a1', needF a1'.kind, ⟨0, 0, 0, noCl, 0⟩⟩, ⟨inv, by dsimp only; omega, rfl, ok, t, ht, hid, ha⟩, rfl, fun b d2 h2 => fk_of (fun eb => fin d2.q d2.r fun c => ?_) fun eb => ?_⟩
  · have y := h2.yes eb
    exact ⟨h2.inv, h2.len, h2.n, fun c => by omega, fun c => by omega⟩
  obtain ⟨r2, q2, hold⟩ := h2.no eb
  obtain ⟨w2, x2, a2⟩ := h2.stay
  have n2 := h2.nd
  have inv2 := h2.inv
  obtain ⟨q2', wr2, tx2, a2', nd2, rr2⟩ := d2
  dsimp only at r2 q2 hold w2 x2 a2 n2 inv2 ⊢
  subst w2 x2 a2 r2 n2
  have l2 : q2'.l = q1'.l := by rw [q2]; rfl
  have nn2 : q2'.n = q1'.n := by rw [q2]; rfl
  have f2 : q2'.fs = q1'.fs := by rw [q2]; rfl
  have t2 : q2'.ts = q1'.ts := by rw [q2]; rfl
  have len2 : q2'.l.length ≤ 1990 := by rw [l2]; omega
  refine ⟨⟨q2', wr2, tx2, a2', needF a2'.kind, ⟨0, 0, 0, noCl, 0⟩⟩, ⟨inv2, len2⟩, rfl, fun b d3 h3 => fk_of (fun eb => fin d3.q d3.r fun c => ?_) fun eb => ?_⟩
  · obtain ⟨e3, c3, no3⟩ := h3.yes eb
    subst e3
    have k3 : a2'.kind ≤ 3 := (need_cell ok.k1).1 c3
    exact ⟨inv2, by dsimp only; rw [l2]; exact Nat.le_succ _, nn2, fun _ => ⟨f2, by rw [← f2]; exact no3, rfl, (ok.cell k3).1, (ok.cell k3).2.1⟩, fun c => by cases c⟩
  obtain ⟨e3, pg3⟩ := h3.no eb
  subst e3
  have pgc : a2'.kind ≤ 3 → ∃ i, findFr q2'.fs a2'.page = some i := fun c => pg3 ((need_cell ok.k1).2 c)
  refine ⟨⟨q2', wr2, tx2, a2', needF a2'.kind, ⟨0, 0, 0, noCl, 0⟩⟩, ⟨inv2, len2, ok, fun c => pgc (by dsimp only at c ⊢; omega)⟩, rfl, fun b d4 h4 => fk_of (fun eb => fin d4.q d4.r fun c => ?_) fun eb => ?_⟩
  · obtain ⟨k1, i, f, hi, hf, e4⟩ := h4.yes eb
    subst e4
    obtain ⟨y, hy, y1, y2, y3, _⟩ := hold (by rcases need_cs a2'.kind with ⟨_, e⟩ | ⟨h, _⟩ | ⟨h, _⟩ | ⟨h, _⟩ | ⟨h, _⟩; · rw [e]; decide
                                              all_goals (dsimp only at k1; omega))
    obtain ⟨f', hf', ef⟩ := findFr_some hi
    have : f' = f := Option.some.inj (hf'.symm.trans hf)
    subst this
    obtain ⟨p0, p3, s0, s16⟩ := ok.cell (by dsimp only at k1; omega)
    have us := use_same q2'.fs a2'.page
    refine ⟨inv2.marks us.1 inv2.pool.h0 (by rw [us.2]; exact inv2.pool.h1) inv2.d0 inv2.d1, by dsimp only; rw [l2]; exact Nat.le_succ _, nn2, (fun c => by cases c), fun _ _ => ⟨ok, ?_⟩⟩
    have rd := inv2.read hy (List.mem_of_getElem? hf) (ef.trans y2.symm) (by omega) (by omega)
    rw [y1, y2, y3] at rd
    have := clA_at (l := f'.pg.cells) (i := a2'.slot.toNat) (by rw [(inv2.pool.each f' (List.mem_of_getElem? hf)).pg.len]; omega)
    rw [this] at rd
    exact Option.some.inj rd
  obtain ⟨e4, k1⟩ := h4.no eb
  subst e4
  refine ⟨⟨q2', wr2, tx2, a2', needF a2'.kind, ⟨0, 0, 0, noCl, 0⟩⟩, ⟨⟨inv2, len2, rfl, ok, t, by dsimp only; rw [t2]; exact ht, hid, ha⟩, pg3, hold⟩, rfl, fun b d5 h5 => fk_of (fun eb => fin d5.q d5.r fun c => ?_) fun eb => ?_⟩
  · obtain ⟨i5, l5, s5, m5, n5⟩ := h5.yes eb
    exact ⟨i5, by dsimp only at l5; rw [l2] at l5; exact l5, n5.trans nn2, fun c => by omega, fun _ c => absurd c k1⟩
  obtain ⟨e5, m5⟩ := h5.no eb
  subst e5
  have kk : a2'.kind = 4 ∨ a2'.kind = 6 := by
    have nm := (need_mode a2'.kind).2.2.1
    have := ok.k1; have := ok.k7; have := hv.k5; have := hv.k7
    dsimp only at m5 k1
    have n2 : ¬ (a2'.kind = 2 ∨ a2'.kind = 3) := fun c => m5 (nm.2 c)
    omega
  refine ⟨⟨q2', wr2, tx2, a2', needF a2'.kind, ⟨0, 0, 0, noCl, 0⟩⟩, ⟨inv2, len2, ⟨t, by dsimp only; rw [t2]; exact ht, hid, ha⟩, kk⟩, rfl, fun b d6 h6 => ?_⟩
  have last := fin d6.q d6.r fun c => by
    have s6 : d6.r.st = 1 := by rcases h6.st with h | h; exact h; exact absurd h c
    obtain ⟨i6, l6, n6⟩ := h6.inv s6
    exact ⟨i6, by dsimp only at l6; rw [l2] at l6; exact l6, n6.trans nn2, fun c => by omega, fun _ c => absurd c k1⟩
  exact fk_of (fun _ => last) fun _ => last
theorem fr_ids {fs fs' : List Fr} (h : ∀ f ∈ fs', ∃ g ∈ fs, g.pg.id = f.pg.id) {id : Int} (hn : findFr fs id = none) : findFr fs' id = none := by
  cases h2 : findFr fs' id with
  | none => rfl
  | some i =>
    obtain ⟨f, hf, e⟩ := findFr_some h2
    obtain ⟨g, hg, e2⟩ := h f (List.mem_of_getElem? hf)
    exact absurd (e2.trans e) (findFr_none hn g hg)
theorem same_ids {fs fs' : List Fr} (e : fs'.map (fun f => (f.pg, f.dirty, f.rec_)) = fs.map (fun f => (f.pg, f.dirty, f.rec_))) : ∀ f ∈ fs', ∃ g ∈ fs, g.pg.id = f.pg.id := fun f hf => by
  have : (f.pg, f.dirty, f.rec_) ∈ fs'.map (fun f => (f.pg, f.dirty, f.rec_)) := List.mem_map.2 ⟨f, hf, rfl⟩
  rw [e] at this
  obtain ⟨g, hg, h⟩ := List.mem_map.1 this
  simp only [Prod.mk.injEq] at h
  exact ⟨g, hg, by rw [h.1]⟩
theorem ok32 : CtOk Tryz.prog T32 := by
  refine ct_cons ok12 (fz := true) fun rs k h => ?_
  obtain ⟨q, wr, hv, rfl, hk⟩ := h
  have inv := hv.inv
  have hl := hv.len
  have kv := inv.val (by omega)
  have s1 := inv.pool.s1; have ln0 := inv.pool.len
  refine ⟨_, _, _, (vc32 q k).mpr ⟨q, kv, rfl, fk_of (fun e => ?_) fun e => ?_⟩⟩
  · have e := ilt_t e
    rw [ln_frs] at e
    exact hk q ⟨0, 0, []⟩ false ⟨inv, rfl, rfl, fun _ h => h, fun _ => e, (fun h => nomatch h), fun _ _ _ _ => rfl⟩
  · have e := ilt_f e
    rw [ln_frs] at e
    refine ⟨q.size, q.fs, q.hand, ⟨kv.pool, by omega⟩, rfl, fun fs' i f hP => ?_⟩
    have hll : fs'.length = q.fs.length := by simpa using congrArg List.length hP.same
    have hi := (List.getElem?_eq_some_iff.1 hP.at_).1
    have inv' : KInv { q with fs := fs', hand := (i : Int), dur := q.dur } wr := inv.marks hP.same (by omega) (by omega) inv.d0 inv.d1
    have kv' := inv'.val (by dsimp only; omega)
    refine ⟨q.size, fs', (i : Int), f.pg.id, kv'.pool, rfl, ?_⟩
    rw [(kv'.pool.fr hP.at_).2.1, tn_cast, frs_at hP.at_, frR_34]
    refine fk_t (by (first | rfl | (simp (disch := omega) only [FS, eq_self, List.length_cons, List.length_nil, true_and, and_true, ssz, xadd, xsub, xmul, xmin, xmax] <;> omega) | omega)) (fk_of (fun hd => ?_) fun hd => ?_)
    · have b5 := (inv'.pool.each f (List.mem_of_getElem? hP.at_)).pg.lsn
      have b6 := lastBy_le (ofPg f.pg.id) q.l
      unfold lastPg at b5
      dsimp only at b5
      have mn : xmin f.pg.lsn (ln (ensR q.l)) = f.pg.lsn := by rw [ln_ens]; unfold xmin; omega
      have d0 := inv.d0; have d1 := inv.d1
      have mx : xmax q.dur f.pg.lsn = max q.dur f.pg.lsn := rfl
      refine ⟨q.l, q.dur, kv.log, rfl, q.l, q.dur, f.pg.lsn, ⟨kv.log, by omega⟩, by rw [← mn]; rfl, ?_⟩
      refine hk { q with fs := fs', hand := (i : Int), dur := xmax q.dur f.pg.lsn } f.pg true ⟨inv.marks hP.same (by omega) (by omega) (by rw [mx]; omega) (by rw [mx]; omega), rfl, rfl, fun id hn => fr_ids (same_ids hP.same) hn, (fun h => nomatch h), fun _ => ⟨i, f, hP.at_, rfl, hd, hP.used, rfl, by dsimp only; rw [mx]; omega, rfl, by dsimp only; omega⟩, fun f0 h0 u0 c0 => ?_⟩
      obtain ⟨e1, e2⟩ := hP.stay f0 h0 u0
      have := hP.at_
      rw [e1, e2, h0] at this
      cases this
      rw [hd] at c0; cases c0
    · have hel : (fs'.eraseIdx i).length = fs'.length - 1 := by rw [List.length_eraseIdx, if_pos hi]
      refine ⟨q.size, fs', (i : Int), i, f, ⟨kv'.pool, hP.at_, hd⟩, rfl, fun h hD => ?_⟩
      exact hk { q with fs := fs'.eraseIdx i, hand := h } ⟨0, 0, []⟩ false ⟨inv'.evict hP.at_ hd hD.h0 hD.h1, rfl, rfl, fun id hn => fr_ids (fun f hf => same_ids hP.same f (List.mem_of_mem_eraseIdx hf)) hn, fun _ => by dsimp only; omega, (fun h => nomatch h), fun _ _ _ _ => rfl⟩
theorem ok33 : CtOk Tryz.prog T33 := by
  refine ct_cons ok32 (fz := true) fun rs k h => ?_
  obtain ⟨q, wr, i, f, hv, rfl, hk⟩ := h
  have inv := hv.inv
  have hl := hv.len
  have kv := inv.val (by omega)
  have fok := inv.pool.each f (List.mem_of_getElem? hv.at_)
  have i0 := fok.pg.id0; have i3 := fok.pg.id3
  have b5 := fok.pg.lsn
  have b6 := lastBy_le (ofPg f.pg.id) q.l
  unfold lastPg at b5
  have ev : EnR q.l.length ⟨7, 0, 0, 0, f.pg.lsn, f.pg.id, 0, noCl, noCl⟩ := ⟨Int.le_refl _, by dsimp only; omega, Int.le_refl _, by dsimp only; omega, by dsimp only; omega, by dsimp only; omega, i0, by dsimp only; omega, .inr (.inr ⟨rfl, rfl, rfl, rfl, rfl, rfl, rfl⟩)⟩
  obtain ⟨r, hr⟩ := at_lt (show f.pg.id.toNat < q.rows.length by rw [kv.r3]; omega)
  have wi := inv.written hv.at_ ev rfl rfl hr
  have ln1 : (q.l ++ [(⟨7, 0, 0, 0, f.pg.lsn, f.pg.id, 0, noCl, noCl⟩ : En)]).length = q.l.length + 1 := by rw [List.length_append, List.length_singleton]
  have cf : clnF q.fs i = q.fs.set i { f with dirty := false, rec_ := 0 } := by unfold clnF; rw [hv.at_]
  have fv := wi.val (by dsimp only; rw [ln1]; omega)
  have ae : addK { q with fs := clnF q.fs i } ⟨7, 0, 0, 0, f.pg.lsn, f.pg.id, 0, noCl, noCl⟩ = { q with l := q.l ++ [⟨7, 0, 0, 0, f.pg.lsn, f.pg.id, 0, noCl, noCl⟩], fs := q.fs.set i { f with dirty := false, rec_ := 0 }, rows := q.rows.set f.pg.id.toNat (max r f.pg.lsn) } := by
    unfold addK noteT noteI
    rw [if_pos rfl, if_pos rfl, cf]
    dsimp only
    rw [getD_at hr]
  have kv2 : KVal { q with fs := clnF q.fs i } := ⟨kv.n0, kv.n1, kv.log, by rw [cf]; exact fv.pool, by dsimp only; rw [cf]; exact fv.ids, kv.lk, kv.ph, kv.pw, kv.txs, kv.tn, kv.r3, kv.rr⟩
  have pl := AdV.pl_of inv (by omega)
  refine ⟨_, _, _, (vc33 q f k).mpr ⟨q, kv, rfl, ?_⟩⟩
  rw [pgR_0, pgR_1]
  refine fk_t (by (first | rfl | (simp (disch := omega) only [FS, eq_self, List.length_cons, List.length_nil, true_and, and_true, ssz, xadd, xsub, xmul, xmin, xmax] <;> omega) | omega)) (fk_n (by (first | rfl | (simp (disch := omega) only [FS, eq_self, List.length_cons, List.length_nil, true_and, and_true, ssz, xadd, xsub, xmul, xmin, xmax] <;> omega) | omega)) ⟨q.l, q.dur, kv.log, rfl, fk_t (by (first | rfl | (simp (disch := omega) only [FS, eq_self, List.length_cons, List.length_nil, true_and, and_true, ssz, xadd, xsub, xmul, xmin, xmax] <;> omega) | omega)) (fk_n (by (first | rfl | (simp (disch := omega) only [FS, eq_self, List.length_cons, List.length_nil, true_and, and_true, ssz, xadd, xsub, xmul, xmin, xmax] <;> omega) | omega)) ⟨q.size, q.fs, q.hand, f.pg.id, kv.pool, rfl, ?_⟩)⟩)
  rw [(kv.pool.fr hv.at_).2.1]
  refine fk_t (by (first | rfl | (simp (disch := omega) only [FS, eq_self, List.length_cons, List.length_nil, true_and, and_true, ssz, xadd, xsub, xmul, xmin, xmax] <;> omega) | omega)) ⟨q.size, q.fs, q.hand, i, f, ⟨kv.pool, hv.at_, hv.d⟩, rfl, { q with fs := clnF q.fs i }, ⟨7, 0, 0, 0, f.pg.lsn, f.pg.id, 0, noCl, noCl⟩,
    ⟨kv2, ev, by dsimp only; omega, i3, .inr (.inr (.inr rfl)), fun c => absurd rfl c, pl, fun c => by cases c⟩, rfl, ?_⟩
  rw [ae]
  exact hk _ ⟨wi, cf.symm, rfl, rfl, ln1, rfl⟩
theorem ok34x : CtOk Tryz.prog T34x := noG_ok (noG_ok ok33 _) _
theorem ok34 : CtOk Tryz.prog T34 := by
  refine ct_cons ok34x (fz := true) fun rs k h => ?_
  obtain ⟨q, wr, p, hv, rfl, hk⟩ := h
  have inv := hv.inv
  have hl := hv.len
  have kv := inv.val (by omega)
  have i0 := hv.i0; have i3 := hv.i3
  have R := inv.pool.out p.id i0 i3 (findFr_none hv.no)
  obtain ⟨p2, w1, w2, w3⟩ := R.wr
  rw [hv.wr] at w1
  obtain rfl := Option.some.inj w1
  have hnw : newF q p.id = p.lsn := by
    unfold newF
    rw [if_neg (by unfold getB; rw [hv.no]; exact Bool.false_ne_true), getD_at R.row, w3.lsn]
  refine ⟨_, _, _, (vc34 q p k).mpr ⟨q, kv, rfl, q, p.id, ⟨kv, i0, i3⟩, rfl, ?_⟩⟩
  rw [pgR_0, pgR_1, hnw]
  refine fk_t (by (first | rfl | (simp (disch := omega) only [FS, eq_self, List.length_cons, List.length_nil, true_and, and_true, ssz, xadd, xsub, xmul, xmin, xmax] <;> omega) | omega)) (fk_n (by (first | rfl | (simp (disch := omega) only [FS, eq_self, List.length_cons, List.length_nil, true_and, and_true, ssz, xadd, xsub, xmul, xmin, xmax] <;> omega) | omega)) (fk_n (by (first | rfl | (simp (disch := omega) only [FS, eq_self, List.length_cons, List.length_nil, true_and, and_true, ssz, xadd, xsub, xmul, xmin, xmax] <;> omega) | omega)) (fk_n (by (first | rfl | (simp (disch := omega) only [FS, eq_self, List.length_cons, List.length_nil, true_and, and_true, ssz, xadd, xsub, xmul, xmin, xmax] <;> omega) | omega)) ⟨q.size, q.fs, q.hand, p, ⟨kv.pool, ⟨w3.valid inv.log (by omega), w3.len⟩, hv.no, hv.room⟩, rfl, supK q p, p.id, rfl, hk⟩)))
theorem ln_pgs (l : List Pg) : ln (pgsR l) = l.length := by unfold ln pgsR; rw [List.length_map]
theorem lst_pgs (l : List Pg) (i : Nat) (p : Pg) : lst (pgsR l) i (pgR p) = pgsR (l.set i p) := by unfold lst pgsR; rw [List.map_set]
theorem put_has (fs : List Fr) (p : Pg) : ∃ i, findFr (putFr fs p) p.id = some i := by
  cases h : findFr (putFr fs p) p.id with
  | some i => exact ⟨i, rfl⟩
  | none => exact absurd rfl (findFr_none h ⟨p, false, 0, true⟩ (by unfold putFr; simp))
theorem ok14 : CtOk Tryz.prog T14 := by
  refine ct_raw ok34 fun vs E nx k h => ?_
  unfold g14 at h
  split at h
  · rename_i s r id e rows
    obtain ⟨h1, q, wr, hv, rfl, rfl, hk⟩ := fk_yes h
    obtain ⟨h2, h3⟩ := and2 h1
    have := shEq_eq _ _ h2
    subst this
    have := shEq_eq _ _ h3
    subst this
    have inv := hv.inv
    have hl := hv.len
    have i0 := hv.i0; have i3 := hv.i3
    have tail : ∀ (q1 : KV) (w1 : List Pg), KInv q1 w1 → q1.l.length ≤ q.l.length + 2 → q1.n = q.n → findFr q1.fs id = none → (q1.fs.length : Int) < q1.size →
        fk (inR id (ln (pgsR w1))) (fk (nlt (tn id) (pgsR w1)) (∃ q wr_2 p, SuA q wr_2 p ∧ [kR q1, rw' (pgsR w1) (tn id)] = [kR q, pgR p] ∧ k (.t [.r shK (kR (supK q p)), .c (.b true)]) [(0, .W shPg (pgsR w1))] 1) False) False := by
      intro q1 w1 I1 L1 NN N1 R1
      have R := I1.pool.out id i0 i3 (findFr_none N1)
      obtain ⟨p, e1, e2, e3⟩ := R.wr
      subst e2
      have hw := I1.pool.wr3
      have e4 : rw' (pgsR w1) (tn p.id) = pgR p := map_at e1
      rw [ln_pgs, e4]
      refine fk_t (by (first | rfl | (simp (disch := omega) only [FS, eq_self, List.length_cons, List.length_nil, true_and, and_true, ssz, xadd, xsub, xmul, xmin, xmax] <;> omega) | omega)) (fk_t (by unfold nlt; unfold pgsR; rw [List.length_map]; exact decide_eq_true (show p.id.toNat < w1.length by omega)) ⟨q1, w1, p, ⟨I1, by omega, N1, R1, e1, i0, i3⟩, rfl, hk _ _ ⟨I1.put N1 R1 e1 i0 i3, L1, NN, put_has _ _⟩⟩)
    refine ⟨_, _, _, _, (vc14 q wr id k).mpr ⟨q, wr, ⟨inv, by omega⟩, rfl, fun q1 p b h1 => fk_of (fun eb => ?_) fun eb => ?_⟩⟩
    · exact tail q1 wr h1.inv (by rw [h1.l]; omega) h1.n (h1.no id hv.no) (h1.clean (nt_t eb))
    · obtain ⟨i, f, hf, e1, hd, hu, hh, hdu, hsz, hfull⟩ := h1.dirty (nt_f eb)
      subst e1
      have fok := h1.inv.pool.each f (List.mem_of_getElem? hf)
      have f0 := fok.pg.id0; have f3 := fok.pg.id3
      have hw := inv.pool.wr3
      have hi := (List.getElem?_eq_some_iff.1 hf).1
      rw [pgR_0, pgR_1, ln_pgs]
      refine fk_n (by (first | rfl | (simp (disch := omega) only [FS, eq_self, List.length_cons, List.length_nil, true_and, and_true, ssz, xadd, xsub, xmul, xmin, xmax] <;> omega) | omega)) (fk_t (by (first | rfl | (simp (disch := omega) only [FS, eq_self, List.length_cons, List.length_nil, true_and, and_true, ssz, xadd, xsub, xmul, xmin, xmax] <;> omega) | omega)) (fk_t (by unfold nlt; unfold pgsR; rw [List.length_map]; exact decide_eq_true (show f.pg.id.toNat < wr.length by omega)) ⟨q1, wr, i, f, ⟨h1.inv, by rw [h1.l]; omega, hf, hd⟩, rfl, fun q2 h2 => ?_⟩))
      refine ⟨q2, wr.set f.pg.id.toNat f.pg, ⟨h2.inv, by have := h2.len; rw [h1.l] at this; omega⟩, rfl, fun q3 p3 b3 h3 => ?_⟩
      have b0 : b3 = false := by
        refine h3.hand { f with dirty := false, rec_ := 0 } ?_ hu rfl
        rw [h2.fs, h2.hand, hh]
        unfold clnF
        rw [hf]
        simp only
        rw [show ((i : Int)).toNat = i from rfl, List.getElem?_set_self hi]
      subst b0
      rw [show tn f.pg.id = f.pg.id.toNat from rfl, lst_pgs]
      refine fk_t rfl ?_
      have ids : ∀ g ∈ q2.fs, ∃ g' ∈ q1.fs, g'.pg.id = g.pg.id := fun g hg => by
        rw [h2.fs] at hg
        unfold clnF at hg
        rw [hf] at hg
        rcases set_mem hg with rfl | ⟨j, _, hj⟩
        · exact ⟨f, List.mem_of_getElem? hf, rfl⟩
        · exact ⟨g, List.mem_of_getElem? hj, rfl⟩
      exact tail q3 _ h3.inv (by rw [h3.l]; have := h2.len; rw [h1.l] at this; omega) (h3.n.trans (h2.n.trans h1.n)) (h3.no id (fr_ids ids (h1.no id hv.no))) (h3.clean rfl)
  · exact h.elim
end Go.Proofs.YtgjindhjgmplgaaGreat
