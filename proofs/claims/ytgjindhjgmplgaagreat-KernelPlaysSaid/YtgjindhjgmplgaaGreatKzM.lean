/-
  KernelPlays: contracts of pageindex.Valid, Note, journal.Append, Force, Get, Last, kernel.Valid, Begin, newest, Add, pool.Get.
-/
import Derived.Test.YtgjindhjgmplgaaGreatKzL
set_option linter.unusedVariables false
set_option linter.unusedSimpArgs false
set_option maxRecDepth 100000
namespace Go.Proofs.YtgjindhjgmplgaaGreat
open Wp
def noteI (rows : List Int) (e : En) : List Int := if e.kind = 7 then rows.set e.page.toNat (max (rows.getD e.page.toNat 0) e.ref) else rows
def getP (fs : List Fr) (id : Int) : Pg := match findFr fs id with
  | some i => match fs[i]? with
    | some f => f.pg
    | none => ⟨0, 0, []⟩
  | none => ⟨0, 0, []⟩
def getB (fs : List Fr) (id : Int) : Bool := (findFr fs id).isSome
def newF (k : KV) (id : Int) : Int := if getB k.fs id then (getP k.fs id).lsn else k.rows.getD id.toNat 0
def addK (k : KV) (e : En) : KV := { k with l := k.l ++ [e], ts := noteT k.ts (k.l.length + 1) e, rows := noteI k.rows e }
abbrev zKR : Row := [DV.i 0, DV.i 0, DV.i 0, DV.sl [], DV.i 0, DV.i 0, DV.sl [], DV.i 0, DV.sl [], DV.sl [], DV.sl [], DV.sl [], DV.sl []]
abbrev zPR : Row := [DV.i 0, DV.i 0, DV.b false, DV.s ⟨#[]⟩, DV.b false, DV.s ⟨#[]⟩, DV.b false, DV.s ⟨#[]⟩, DV.b false, DV.s ⟨#[]⟩, DV.b false, DV.s ⟨#[]⟩, DV.b false, DV.s ⟨#[]⟩, DV.b false, DV.s ⟨#[]⟩, DV.b false, DV.s ⟨#[]⟩, DV.b false, DV.s ⟨#[]⟩, DV.b false, DV.s ⟨#[]⟩, DV.b false, DV.s ⟨#[]⟩, DV.b false, DV.s ⟨#[]⟩, DV.b false, DV.s ⟨#[]⟩, DV.b false, DV.s ⟨#[]⟩, DV.b false, DV.s ⟨#[]⟩, DV.b false, DV.s ⟨#[]⟩]
structure RwV (rows : List Int) : Prop where
  l1 : 1 ≤ rows.length
  l2 : rows.length ≤ 64
  r : ∀ r ∈ rows, 0 ≤ r ∧ r ≤ 1099511627776
def ixFr : Nat → Lp := fun f => bif Nat.beq f 108 then [(3, lpI 8)] else []
def ixR : Nat → Lp := fun f => bif Nat.beq f 160 then [(3, lpI 8)] else []
def g44 (rs : List Row) (k : V → Prop) : Prop := ∃ rows : List Int, RwV rows ∧ rs = [[.sl (rwsR rows)]] ∧ k (.c (.b true))
def T44 : Ct := (44, ctF (psF Tryz.prog 44) g44) :: T76
def T216 : Ct := (216, cloneG shRw 24) :: T44
structure NiV (rows : List Int) (n : Int) (e : En) : Prop where
  v : RwV rows
  ev : EnV n e
  p : e.kind = 7 → e.page < rows.length
def g134 (rs : List Row) (k : V → Prop) : Prop := ∃ (rows : List Int) (n : Int) (e : En), NiV rows n e ∧ rs = [[.sl (rwsR rows)], enR n e] ∧ k (.t [.r [.sl shRw] [.sl (rwsR (noteI rows e))], .c (.i .i64 0)])
def T134 : Ct := (134, ctF (psF Tryz.prog 134) g134) :: T216
structure ApV (l : List En) (dur : Int) (e : En) : Prop where
  v : LogV l dur
  ev : EnR l.length e
  len : l.length < 4096
def g132 (rs : List Row) (k : V → Prop) : Prop := ∃ (l : List En) (dur n : Int) (e : En), ApV l dur e ∧ rs = [logR l dur, enR n e] ∧ k (.t [.r shLog (logR (l ++ [e]) dur), .c (.i .i64 (xadd (ln (ensR l)) 1)), .c (.i .i64 0)])
def T132 : Ct := (132, ctF (psF Tryz.prog 132) g132) :: T134
structure FoV (l : List En) (dur n : Int) : Prop where
  v : LogV l dur
  n : n ≤ l.length
def g137 (rs : List Row) (k : V → Prop) : Prop := ∃ (l : List En) (dur n : Int), FoV l dur n ∧ rs = [logR l dur, [.i n]] ∧ k (.t [.r shLog (logR l (xmax dur n)), .c (.i .i64 0)])
def T137 : Ct := (137, ctF (psF Tryz.prog 137) g137) :: T132
structure GeV (l : List En) (dur : Int) (i : Nat) (e : En) : Prop where
  v : LogV l dur
  g : l[i]? = some e
def g179 (rs : List Row) (k : V → Prop) : Prop := ∃ (l : List En) (dur : Int) (i : Nat) (e : En), GeV l dur i e ∧ rs = [logR l dur, [.i (xadd (Int.ofNat i) 1)]] ∧ k (.t [.r shEn (enR (xadd (Int.ofNat i) 1) e), .c (.i .i64 0)])
def T179 : Ct := (179, ctF (psF Tryz.prog 179) g179) :: T137
def g83 (rs : List Row) (k : V → Prop) : Prop := ∃ (l : List En) (dur : Int), LogV l dur ∧ rs = [logR l dur] ∧ k (.c (.i .i64 (ln (ensR l))))
def T83 : Ct := (83, ctF (psF Tryz.prog 83) g83) :: T179
structure KVal (k : KV) : Prop where
  n0 : 0 ≤ k.n
  n1 : k.n ≤ 12
  log : LogV k.l k.dur
  pool : PoolV k.size k.fs k.hand
  ids : ∀ f ∈ k.fs, f.pg.id < 3
  lk : LkV k.hs k.ws
  ph : ∀ g ∈ k.hs, g.page < 3
  pw : ∀ g ∈ k.ws, g.page < 3
  txs : TxsV k.ts
  tn : ∀ t ∈ k.ts, t.id ≤ k.n
  r3 : k.rows.length = 3
  rr : ∀ r ∈ k.rows, 0 ≤ r ∧ r ≤ 1099511627776
def g46 (vs : List V) (E : Mem) (nx : Nat) (k : KVk) : Prop := match vs, E, nx with
  | [.c (.sl s rows), .c (.fn f [0])], [(0, .R s' r)], 1 => fk (inB f [47] && (shEq s shTx && shEq s' shK)) (∃ q : KV, KVal q ∧ rows = txsR q.ts ∧ r = kR q ∧ k (.c (.b false)) [(0, .R shK (kR q))] 1) False
  | _, _, _ => False
def T46 : Ct := (46, g46) :: T83
def g48 (vs : List V) (E : Mem) (nx : Nat) (k : KVk) : Prop := match vs, E, nx with
  | [.c (.sl s rows), .c (.fn f [0])], [(0, .R s' r)], 1 => fk (inB f [49] && (shEq s shFr && shEq s' shK)) (∃ q : KV, KVal q ∧ rows = frsR q.fs ∧ r = kR q ∧ k (.c (.b false)) [(0, .R shK (kR q))] 1) False
  | _, _, _ => False
def T48 : Ct := (48, g48) :: T46
structure LowP (gs : List G) : Prop where
  len : gs.length ≤ 1024
  p : ∀ g ∈ gs, g.page < 3
def g50 (vs : List V) (E : Mem) (nx : Nat) (k : KVk) : Prop := match vs, E, nx with
  | [.c (.sl s rows), .c (.fn f [0])], [(0, .R s' r)], 1 => fk (inB f [45] && (shEq s shG && shEq s' shK)) (∃ (q : KV) (gs : List G), LowP gs ∧ rows = gsR gs ∧ r = kR q ∧ k (.c (.b false)) [(0, .R shK (kR q))] 1) False
  | _, _, _ => False
def T50 : Ct := (50, g50) :: T48
def g17 (rs : List Row) (k : V → Prop) : Prop := ∃ q : KV, KVal q ∧ rs = [kR q] ∧ k (.c (.b true))
def T17 : Ct := (17, ctF (psF Tryz.prog 17) g17) :: T50
structure KBg (q : KV) : Prop where
  v : KVal q
  n : q.n < 12
  len : q.ts.length < 64
def g10 (rs : List Row) (k : V → Prop) : Prop := ∃ q : KV, KBg q ∧ rs = [kR q] ∧ k (.t [.r shK (kR ⟨xadd q.n 1, q.l, q.dur, q.size, q.hand, q.fs, q.hs, q.ws, q.ts ++ [newT (xadd q.n 1)], q.rows⟩), .c (.i .i64 (xadd q.n 1)), .c (.i .i64 0)])
def T10 : Ct := (10, ctF (psF Tryz.prog 10) g10) :: T17
def g70 (rs : List Row) (k : V → Prop) : Prop := ∃ (size : Int) (fs : List Fr) (hand id : Int), PoolV size fs hand ∧ rs = [poolR size fs hand, [.i id]] ∧ k (.t [.r shPg (pgR (getP fs id)), .c (.b (getB fs id))])
def T70 : Ct := (70, ctF (psF Tryz.prog 70) g70) :: T10
def ixD : Nat → Lp := fun f => bif inB f [147, 51] then [(3, .u 1)] else []
def g87 (rs : List Row) (k : V → Prop) : Prop := ∃ (q : KV) (id : Int), rs = [kR q, [.i id]] ∧ k (.c (.i .i64 (-1)))
def T87 : Ct := (87, ctF (psF Tryz.prog 87) g87) :: T70
structure NwV (q : KV) (id : Int) : Prop where
  v : KVal q
  i0 : 0 ≤ id
  i3 : id < 3
def g85 (rs : List Row) (k : V → Prop) : Prop := ∃ (q : KV) (id : Int), NwV q id ∧ rs = [kR q, [.i id]] ∧ k (.c (.i .i64 (newF q id)))
def T85 : Ct := (85, ctF (psF Tryz.prog 85) g85) :: T87
structure AdV (q : KV) (e : En) : Prop where
  v : KVal q
  ev : EnR q.l.length e
  len : q.l.length ≤ 2000
  p3 : e.page < 3
  k : e.kind = 1 ∨ e.kind = 3 ∨ e.kind = 4 ∨ e.kind = 7
  tx : e.tx ≠ 0 → ∃ t ∈ q.ts, t.id = e.tx ∧ t.state = 1 ∧ e.ptx = t.last
  pl : ∀ t ∈ q.ts, t.pend.length < 2048
  pp : e.kind = 1 → e.pp = newF q e.page
def g72 (rs : List Row) (k : V → Prop) : Prop := ∃ (q : KV) (e : En), AdV q e ∧ rs = [kR q, [.i 0, .i e.kind, .i e.tx, .i 0, .i 0, .i e.ref, .i e.page, .i e.slot, .b e.b.1, .s e.b.2, .b e.a.1, .s e.a.2, .s ⟨#[]⟩]] ∧ k (.t [.r shK (kR (addK q e)), .c (.i .i64 (xadd (ln (ensR q.l)) 1)), .c (.i .i64 0)])
def T72 : Ct := (72, ctF (psF Tryz.prog 72) g72) :: T85
def addL (e : En) : Lp := [(1010, .e Int (fun _ => []) (fun p => [(1, .R shEn [.i 0, .i e.kind, .i e.tx, .i p, .i 0, .i e.ref, .i e.page, .i e.slot, .b e.b.1, .s e.b.2, .b e.a.1, .s e.a.2, .s ⟨#[]⟩])]) 0 []),
  (1012, .e (Int × Int) (fun _ => []) (fun p => [(1, .R shEn [.i 0, .i e.kind, .i e.tx, .i p.1, .i p.2, .i e.ref, .i e.page, .i e.slot, .b e.b.1, .s e.b.2, .b e.a.1, .s e.a.2, .s ⟨#[]⟩])]) 0 [])]
theorem vc44 (rows : List Int) (k : KVk) : dbody Tryz.prog (dcall Tryz.prog T76 ixR 5) [] true 44 (argVs (psF Tryz.prog 44) [[.sl (rwsR rows)]]) [] 0 k = (fk (ile 1 (ln (rwsR rows))) (fk
  (ile (ln (rwsR rows)) 64) (∃ (I : Nat → Prop) (μ : Nat → Nat), (∃ j, I j ∧ (0 = Int.ofNat j ∧ True) ∧ True ∧ True) ∧ ∀ (j : Nat), I j → fk (ilt (Int.ofNat j) (ln (rwsR rows))) (fk (inR (Int.ofNat j) (ln (rwsR rows)))
  (fk (ile 0 (ri (rw' (rwsR rows) (tn (Int.ofNat j))) 0)) (fk (nt (ile (ri (rw' (rwsR rows) (tn (Int.ofNat j))) 0) 1099511627776)) (k (.c (.b (nt (ile 0 (Int.ofNat j))))) [] 0) (fk (ile 0 (ri (rw' (rwsR rows) (tn
  (Int.ofNat j))) 1)) (fk (nt (ile (ri (rw' (rwsR rows) (tn (Int.ofNat j))) 1) 1099511627776)) (k (.c (.b (nt (ile 0 (Int.ofNat j))))) [] 0) (fk (ile 0 (ri (rw' (rwsR rows) (tn (Int.ofNat j))) 2)) (fk (nt (ile (ri (rw'
  (rwsR rows) (tn (Int.ofNat j))) 2) 1099511627776)) (k (.c (.b (nt (ile 0 (Int.ofNat j))))) [] 0) (fk (ieq (ri (rw' (rwsR rows) (tn (Int.ofNat j))) 1) 0) (fk (nt (ieq (ri (rw' (rwsR rows) (tn (Int.ofNat j))) 2) 0)) (k
  (.c (.b (nt (ile 0 (Int.ofNat j))))) [] 0) (∃ j', I j' ∧ lessN (μ j') (μ j) ∧ (wr .i64 (xadd (Int.ofNat j) 1) = Int.ofNat j' ∧ True) ∧ True ∧ True)) (∃ j', I j' ∧ lessN (μ j') (μ j) ∧ (wr .i64 (xadd (Int.ofNat j) 1) =
  Int.ofNat j' ∧ True) ∧ True ∧ True))) (k (.c (.b (nt (ile 0 (Int.ofNat j))))) [] 0))) (k (.c (.b (nt (ile 0 (Int.ofNat j))))) [] 0))) (k (.c (.b (nt (ile 0 (Int.ofNat j))))) [] 0)) False) (k (.c (.b true)) [] 0)) (k
  (.c (.b false)) [] 0)) (k (.c (.b false)) [] 0)) := by kernel_rfl
theorem vc134 (rows : List Int) (n : Int) (e : En) (k : KVk) : dbody Tryz.prog (dcall Tryz.prog T216 (fun _ => []) 5) [] true 134 (argVs (psF Tryz.prog 134) [[.sl (rwsR rows)], enR n e]) [] 0 k
  = (∃ rows_1, RwV rows_1 ∧ [[DV.sl (rwsR rows)]] = [[DV.sl (rwsR rows_1)]] ∧ ∃ n_1 e_1, EnV n_1 e_1 ∧ [(enR n e)] = [(enR n_1 e_1)] ∧ fk (nt (ieq e.kind 7)) (k (.t [.r [.sl shRw] [DV.sl (rwsR rows)], .c (.i .i64 0)]) []
  0) (fk (ile 0 e.page) (fk (nt (ilt e.page (ln (rwsR rows)))) (k (.t [.r [.sl shRw] [DV.sl []], .c (.i .i64 1)]) [] 0) (fk (apOk 24 [] (rwsR rows)) (fk (inR e.page (ln (rwsR rows))) (fk (nlt (tn e.page) (rwsR rows)) (fk
  (nlt (tn e.page) (rwsR rows)) (k (.t [.r [.sl shRw] [DV.sl (lst (rwsR rows) (tn e.page) [DV.i (xmax (ri (rw' (rwsR rows) (tn e.page)) 0) e.ref), DV.i (ri (rw' (rwsR rows) (tn e.page)) 1), DV.i (ri (rw' (rwsR rows) (tn
  e.page)) 2)])], .c (.i .i64 0)]) [] 0) False) False) False) False)) (k (.t [.r [.sl shRw] [DV.sl []], .c (.i .i64 1)]) [] 0))) := by kernel_rfl
theorem vc132 (l : List En) (dur n : Int) (e : En) (k : KVk) : dbody Tryz.prog (dcall Tryz.prog T134 (fun _ => []) 5) [] true 132 (argVs (psF Tryz.prog 132) [logR l dur, enR n e]) [] 0 k = (∃
  l_1 dur_1, LogV l_1 dur_1 ∧ [(logR l dur)] = [(logR l_1 dur_1)] ∧ fk (ieq (ln (ensR l)) 4096) (k (.t [.r shLog [DV.i 0, DV.sl [], DV.i 0], .c (.i .i64 0), .c (.i .i64 21)]) [] 0) (fk (ilt 1099511627776 (wr .i64 (xadd
  (wr .i64 (xsub (wr .i64 (xadd 1 (ln (ensR l)))) 1)) 1))) (k (.t [.r shLog [DV.i 0, DV.sl [], DV.i 0], .c (.i .i64 0), .c (.i .i64 21)]) [] 0) (∃ n e_1, EnV n e_1 ∧ [[DV.i (wr .i64 (xadd (wr .i64 (xsub (wr .i64 (xadd 1
  (ln (ensR l)))) 1)) 1)), DV.i e.kind, DV.i e.tx, DV.i e.ptx, DV.i e.pp, DV.i e.ref, DV.i e.page, DV.i e.slot, DV.b e.b.fst, DV.s e.b.snd, DV.b e.a.fst, DV.s e.a.snd, DV.s ⟨#[]⟩]] = [(enR n e_1)] ∧ fk (an true (an (ile
  0 (ln (ensR l))) (an (ile (ln (ensR l)) (ln (ensR l))) (ieq (ln (ensR l)) (ln (ensR l)))))) (fk (true && (nlt 0 [[DV.i (wr .i64 (xadd (wr .i64 (xsub (wr .i64 (xadd 1 (ln (ensR l)))) 1)) 1)), DV.i e.kind, DV.i e.tx,
  DV.i e.ptx, DV.i e.pp, DV.i e.ref, DV.i e.page, DV.i e.slot, DV.b e.b.fst, DV.s e.b.snd, DV.b e.a.fst, DV.s e.a.snd, DV.s ⟨#[]⟩]] && apOk 128 (lsub (ensR l) 0 (ln (ensR l))) [[DV.i (wr .i64 (xadd (wr .i64 (xsub (wr
  .i64 (xadd 1 (ln (ensR l)))) 1)) 1)), DV.i e.kind, DV.i e.tx, DV.i e.ptx, DV.i e.pp, DV.i e.ref, DV.i e.page, DV.i e.slot, DV.b e.b.fst, DV.s e.b.snd, DV.b e.a.fst, DV.s e.a.snd, DV.s ⟨#[]⟩]])) (k (.t [.r shLog [DV.i
  1, DV.sl (lap (lsub (ensR l) 0 (ln (ensR l))) [[DV.i (wr .i64 (xadd (wr .i64 (xsub (wr .i64 (xadd 1 (ln (ensR l)))) 1)) 1)), DV.i e.kind, DV.i e.tx, DV.i e.ptx, DV.i e.pp, DV.i e.ref, DV.i e.page, DV.i e.slot, DV.b
  e.b.fst, DV.s e.b.snd, DV.b e.a.fst, DV.s e.a.snd, DV.s ⟨#[]⟩]]), DV.i dur], .c (.i .i64 (wr .i64 (xadd (wr .i64 (xsub (wr .i64 (xadd 1 (ln (ensR l)))) 1)) 1))), .c (.i .i64 0)]) [] 0) False) False))) := by kernel_rfl
theorem vc137 (l : List En) (dur n : Int) (k : KVk) : dbody Tryz.prog (dcall Tryz.prog T132 (fun _ => []) 5) [] true 137 (argVs (psF Tryz.prog 137) [logR l dur, [.i n]]) [] 0 k = (∃ l_1 dur_1,
  LogV l_1 dur_1 ∧ [(logR l dur)] = [(logR l_1 dur_1)] ∧ fk (ilt (wr .i64 (xsub (wr .i64 (xadd 1 (ln (ensR l)))) 1)) n) (k (.t [.r shLog [DV.i 0, DV.sl [], DV.i 0], .c (.i .i64 14)]) [] 0) (k (.t [.r shLog [DV.i 1, DV.sl
  (ensR l), DV.i (xmax dur n)], .c (.i .i64 0)]) [] 0)) := by kernel_rfl
theorem vc179 (l : List En) (dur : Int) (i : Nat) (k : KVk) : dbody Tryz.prog (dcall Tryz.prog T137 (fun _ => []) 5) [] true 179 (argVs (psF Tryz.prog 179) [logR l dur, [.i (xadd (Int.ofNat i) 1)]])
  [] 0 k = (∃ l_1 dur_1, LogV l_1 dur_1 ∧ [(logR l dur)] = [(logR l_1 dur_1)] ∧ fk (ilt (xadd (Int.ofNat i) 1) 1) (k (.t [.r shEn [DV.i 0, DV.i 0, DV.i 0, DV.i 0, DV.i 0, DV.i 0, DV.i 0, DV.i 0, DV.b false, DV.s ⟨#[]⟩,
  DV.b false, DV.s ⟨#[]⟩, DV.s ⟨#[]⟩], .c (.i .i64 14)]) [] 0) (fk (ilt (wr .i64 (xsub (wr .i64 (xadd 1 (ln (ensR l)))) 1)) (xadd (Int.ofNat i) 1)) (k (.t [.r shEn [DV.i 0, DV.i 0, DV.i 0, DV.i 0, DV.i 0, DV.i 0, DV.i 0,
  DV.i 0, DV.b false, DV.s ⟨#[]⟩, DV.b false, DV.s ⟨#[]⟩, DV.s ⟨#[]⟩], .c (.i .i64 14)]) [] 0) (fk (inR (wr .i64 (xsub (xadd (Int.ofNat i) 1) 1)) (ln (ensR l))) (k (.t [.r shEn (rw' (ensR l) (tn (wr .i64 (xsub (xadd
  (Int.ofNat i) 1) 1)))), .c (.i .i64 0)]) [] 0) False))) := by kernel_rfl
theorem vc83 (l : List En) (dur : Int) (k : KVk) : dbody Tryz.prog (dcall Tryz.prog T179 (fun _ => []) 5) [] true 83 (argVs (psF Tryz.prog 83) [logR l dur]) [] 0 k = (∃ l_1 dur_1, LogV l_1 dur_1 ∧
  [(logR l dur)] = [(logR l_1 dur_1)] ∧ k (.c (.i .i64 (wr .i64 (xsub (wr .i64 (xadd 1 (ln (ensR l)))) 1)))) [] 0) := by kernel_rfl
theorem vc46 (q : KV) (k : KVk) : dbody Tryz.prog (dcall Tryz.prog T83 ixT 5) [] false 46 [.c (.sl shTx (txsR q.ts)), .c (.fn 47 [0])] [(0, .R shK (kR
  q))] 1 k = (∃ (I : Nat → Prop) (μ : Nat → Nat), (∃ j, I j ∧ (0 = Int.ofNat j ∧ True) ∧ ((kR q) = (kR q) ∧ True) ∧ True) ∧ ∀ (j : Nat), I j → fk (ilt (Int.ofNat j) (ln (txsR q.ts))) (fk (inR (Int.ofNat j) (ln (txsR
  q.ts))) (fk (ile (q.n + 1) (ri (rw' (txsR q.ts) (tn (Int.ofNat j))) 0)) (k (.c (.b (ile 0 (Int.ofNat j)))) [(0, .R shK (kR q))] 1) (∃ j', I j' ∧ lessN (μ j') (μ j) ∧ (wr .i64 (xadd (Int.ofNat j) 1) = Int.ofNat j' ∧
  True) ∧ ((kR q) = (kR q) ∧ True) ∧ True)) False) (k (.c (.b false)) [(0, .R shK (kR q))] 1)) := by kernel_rfl
theorem vc48 (q : KV) (k : KVk) : dbody Tryz.prog (dcall Tryz.prog T46 ixFr 5) [] false 48 [.c (.sl shFr (frsR q.fs)), .c (.fn 49 [0])] [(0, .R
  shK (kR q))] 1 k = (∃ (I : Nat → Prop) (μ : Nat → Nat), (∃ j, I j ∧ (0 = Int.ofNat j ∧ True) ∧ ((kR q) = (kR q) ∧ True) ∧ True) ∧ ∀ (j : Nat), I j → fk (ilt (Int.ofNat j) (ln (frsR q.fs))) (fk (inR (Int.ofNat j) (ln
  (frsR q.fs))) (fk (ile 3 (ri (rw' (frsR q.fs) (tn (Int.ofNat j))) 0)) (k (.c (.b (ile 0 (Int.ofNat j)))) [(0, .R shK (kR q))] 1) (∃ j', I j' ∧ lessN (μ j') (μ j) ∧ (wr .i64 (xadd (Int.ofNat j) 1) = Int.ofNat j' ∧ True)
  ∧ ((kR q) = (kR q) ∧ True) ∧ True)) False) (k (.c (.b false)) [(0, .R shK (kR q))] 1)) := by kernel_rfl
theorem vc50 (q : KV) (gs : List G) (k : KVk) : dbody Tryz.prog (dcall Tryz.prog T48 ixG 5) [] false 50 [.c (.sl shG (gsR gs)), .c (.fn 45 [0])]
  [(0, .R shK (kR q))] 1 k = (∃ (I : Nat → Prop) (μ : Nat → Nat), (∃ j, I j ∧ (0 = Int.ofNat j ∧ True) ∧ ((kR q) = (kR q) ∧ True) ∧ True) ∧ ∀ (j : Nat), I j → fk (ilt (Int.ofNat j) (ln (gsR gs))) (fk (inR (Int.ofNat j)
  (ln (gsR gs))) (fk (ile 3 (ri (rw' (gsR gs) (tn (Int.ofNat j))) 1)) (k (.c (.b (ile 0 (Int.ofNat j)))) [(0, .R shK (kR q))] 1) (∃ j', I j' ∧ lessN (μ j') (μ j) ∧ (wr .i64 (xadd (Int.ofNat j) 1) = Int.ofNat j' ∧ True) ∧
  ((kR q) = (kR q) ∧ True) ∧ True)) False) (k (.c (.b false)) [(0, .R shK (kR q))] 1)) := by kernel_rfl
theorem vc17 (q : KV) (k : KVk) : dbody Tryz.prog (dcall Tryz.prog T50 ixD 5) [] true 17 (argVs (psF Tryz.prog 17) [kR q]) [] 0 k = (fk (ile 1 3) (fk (nt (ile 3 64)) (k (.c (.b false)) [] 0) (fk
  (ile 1 (q.n + 1)) (fk (nt (ile (q.n + 1) 1073741825)) (k (.c (.b false)) [] 0) (fk (nt (ieq (ln (rwsR q.rows)) 3)) (k (.c (.b false)) [] 0) (∃ l dur, LogV l dur ∧ [(logR q.l q.dur)] = [(logR l dur)] ∧ ∃ size fs hand,
  PoolV size fs hand ∧ [(poolR q.size q.fs q.hand)] = [(poolR size fs hand)] ∧ ∃ hs ws, LkV hs ws ∧ [(lkR q.hs q.ws)] = [(lkR hs ws)] ∧ ∃ ts, TxsV ts ∧ [[DV.sl (txsR q.ts)]] = [[DV.sl (txsR ts)]] ∧ ∃ rows, RwV rows ∧
  [[DV.sl (rwsR q.rows)]] = [[DV.sl (rwsR rows)]] ∧ ∃ q_1, KVal q_1 ∧ txsR q.ts = txsR q_1.ts ∧ (kR q) = (kR q_1) ∧ ∃ q, KVal q ∧ frsR q_1.fs = frsR q.fs ∧ (kR q_1) = (kR q) ∧ ∃ q_2 gs, LowP gs ∧ gsR q.hs = gsR gs ∧ (kR
  q) = (kR q_2) ∧ ∃ q gs, LowP gs ∧ gsR q_2.ws = gsR gs ∧ (kR q_2) = (kR q) ∧ fk (ilt 0 (ln [])) (fk (inR 0 (ln [])) (fk (ile 0 (ri (rw' [] 0) 0)) (fk (nt (ile (ri (rw' [] 0) 0) (wr .i64 (xsub 3 1)))) (k (.c (.b false))
  [] 0) (fk (ilt (ri (rw' [] 0) 1) 1) (k (.c (.b false)) [] 0) (fk (ilt (ri (rw' [] 0) 2) (ri (rw' [] 0) 1)) (k (.c (.b false)) [] 0) (fk (ilt 1099511627776 (ri (rw' [] 0) 2)) (k (.c (.b false)) [] 0) (∃ size fs hand id,
  PoolV size fs hand ∧ [(poolR q.size q.fs q.hand), [DV.i (ri (rw' [] 0) 0)]] = [(poolR size fs hand), [DV.i id]] ∧ fk (ile 0 (findI fs id)) (k (.c (.b false)) [] 0) False))))) (k (.c (.b false)) [] 0)) False) (k (.c (.b
  true)) [] 0)))) (k (.c (.b false)) [] 0))) (k (.c (.b false)) [] 0)) := by kernel_rfl
theorem vc10 (q : KV) (k : KVk) : dbody Tryz.prog (dcall Tryz.prog T17 (fun _ => []) 5) [] true 10 (argVs (psF Tryz.prog 10) [kR q]) [] 0 k = (∃ q_1, KVal q_1 ∧ [(kR q)] = [(kR q_1)] ∧ fk (ilt
  1073741824 (q.n + 1)) (k (.t [.r shK zKR, .c (.i .i64 0), .c (.i .i64 21)]) [] 0) (∃ ts id, BgV ts id ∧ [[DV.sl (txsR q.ts)], [DV.i (q.n + 1)]] = [[DV.sl (txsR ts)], [DV.i id]] ∧ k (.t [.r shK [DV.i 3, DV.i (wr .i64
  (xadd (q.n + 1) 1)), DV.i 1, DV.sl (ensR q.l), DV.i q.dur, DV.i q.size, DV.sl (frsR q.fs), DV.i q.hand, DV.sl (gsR q.hs), DV.sl (gsR q.ws), DV.sl (txsR (ts ++ [newT id])), DV.sl (rwsR q.rows), DV.sl []], .c (.i .i64
  (q.n + 1)), .c (.i .i64 0)]) [] 0)) := by kernel_rfl
theorem vc70 (size : Int) (fs : List Fr) (hand id : Int) (k : KVk) : dbody Tryz.prog (dcall Tryz.prog T10 (fun _ => []) 5) [] true 70 (argVs (psF Tryz.prog 70) [poolR size fs hand, [.i id]]) [] 0 k = (∃
  size_1 fs_1 hand_1 id_1, PoolV size_1 fs_1 hand_1 ∧ [(poolR size fs hand), [DV.i id]] = [(poolR size_1 fs_1 hand_1), [DV.i id_1]] ∧ fk (ile 0 (findI fs_1 id_1)) (fk (inR (findI fs_1 id_1) (ln (frsR fs))) (k (.t [.r
  shPg (rtk (rdp (rw' (frsR fs) (tn (findI fs_1 id_1))) 0) 34), .c (.b true)]) [] 0) False) (k (.t [.r shPg zPR, .c (.b false)]) [] 0)) := by kernel_rfl
theorem vc87 (q : KV) (id : Int) (k : KVk) : dbody Tryz.prog (dcall Tryz.prog T70 ixD 5) [] true 87 (argVs (psF Tryz.prog 87) [kR q, [.i id]]) [] 0 k = (fk (ilt 0 (ln [])) (fk (inR 0 (ln [])) (fk
  (ieq (ri (rw' [] 0) 0) id) (k (.c (.i .i64 0)) [] 0) False) False) (k (.c (.i .i64 (-1))) [] 0)) := by kernel_rfl
theorem vc85 (q : KV) (id : Int) (k : KVk) : dbody Tryz.prog (dcall Tryz.prog T87 (fun _ => []) 5) [] true 85 (argVs (psF Tryz.prog 85) [kR q, [.i id]]) [] 0 k = (∃ size fs hand id_1, PoolV size
  fs hand ∧ [(poolR q.size q.fs q.hand), [DV.i id]] = [(poolR size fs hand), [DV.i id_1]] ∧ fk (getB fs id_1) (k (.c (.i .i64 (ri (pgR (getP fs id_1)) 1))) [] 0) (∃ q_1 id_2, [(kR q), [DV.i id]] = [(kR q_1), [DV.i id_2]]
  ∧ fk (ile 0 id) (fk (ile id (wr .i64 (xsub 3 1))) (fk (inR id (ln (rwsR q.rows))) (k (.c (.i .i64 (ri (rw' (rwsR q.rows) (tn id)) 0))) [] 0) False) (k (.c (.i .i64 0)) [] 0)) (k (.c (.i .i64 0)) [] 0))) := by
  kernel_rfl
theorem vc72 (q : KV) (e : En) (k : KVk) : dbody Tryz.prog (dcall Tryz.prog T85 (fun _ => []) 5) (addL e) true 72 (argVs (psF Tryz.prog 72) [kR q, [.i 0, .i e.kind, .i e.tx, .i 0, .i 0, .i e.ref, .i
  e.page, .i e.slot, .b e.b.1, .s e.b.2, .b e.a.1, .s e.a.2, .s ⟨#[]⟩]]) [] 0 k = (∃ q_1, KVal q_1 ∧ [(kR q)] = [(kR q_1)] ∧ ∃ (I : Int → Prop), fk (ilt 0 e.tx) (∃ ts id, ts.length.le 64 ∧ [[DV.sl (txsR q.ts)], [DV.i
  e.tx]] = [[DV.sl (txsR ts)], [DV.i id]] ∧ fk (ilt (findT ts id) 0) (k (.t [.r shK zKR, .c (.i .i64 0), .c (.i .i64 16)]) [] 0) (fk (inR (findT ts id) (ln (txsR q.ts))) (∃ j', I j' ∧ True ∧ ([DV.i 0, DV.i e.kind, DV.i
  e.tx, DV.i (ri (rw' (txsR q.ts) (tn (findT ts id))) 2), DV.i 0, DV.i e.ref, DV.i e.page, DV.i e.slot, DV.b e.b.fst, DV.s e.b.snd, DV.b e.a.fst, DV.s e.a.snd, DV.s ⟨#[]⟩] = [DV.i 0, DV.i e.kind, DV.i e.tx, DV.i j', DV.i
  0, DV.i e.ref, DV.i e.page, DV.i e.slot, DV.b e.b.fst, DV.s e.b.snd, DV.b e.a.fst, DV.s e.a.snd, DV.s ⟨#[]⟩] ∧ zKR = zKR ∧ (kR q) = (kR q) ∧ True) ∧ True) False)) (∃ j', I j' ∧ True ∧ ([DV.i 0, DV.i e.kind, DV.i e.tx,
  DV.i 0, DV.i 0, DV.i e.ref, DV.i e.page, DV.i e.slot, DV.b e.b.fst, DV.s e.b.snd, DV.b e.a.fst, DV.s e.a.snd, DV.s ⟨#[]⟩] = [DV.i 0, DV.i e.kind, DV.i e.tx, DV.i j', DV.i 0, DV.i e.ref, DV.i e.page, DV.i e.slot, DV.b
  e.b.fst, DV.s e.b.snd, DV.b e.a.fst, DV.s e.a.snd, DV.s ⟨#[]⟩] ∧ zKR = zKR ∧ (kR q) = (kR q) ∧ True) ∧ True) ∧ ∀ (j : Int), I j → ∃ (I : Int × Int → Prop), fk (ieq e.kind 1) (∃ q_2 id, NwV q_2 id ∧ [(kR q), [DV.i
  e.page]] = [(kR q_2), [DV.i id]] ∧ ∃ j', I j' ∧ True ∧ ([DV.i 0, DV.i e.kind, DV.i e.tx, DV.i j, DV.i (newF q_2 id), DV.i e.ref, DV.i e.page, DV.i e.slot, DV.b e.b.fst, DV.s e.b.snd, DV.b e.a.fst, DV.s e.a.snd, DV.s
  ⟨#[]⟩] = [DV.i 0, DV.i e.kind, DV.i e.tx, DV.i j'.fst, DV.i j'.snd, DV.i e.ref, DV.i e.page, DV.i e.slot, DV.b e.b.fst, DV.s e.b.snd, DV.b e.a.fst, DV.s e.a.snd, DV.s ⟨#[]⟩] ∧ zKR = zKR ∧ (kR q) = (kR q) ∧ True) ∧
  True) (fk (ieq e.kind 2) (∃ q_2 id, NwV q_2 id ∧ [(kR q), [DV.i e.page]] = [(kR q_2), [DV.i id]] ∧ ∃ j', I j' ∧ True ∧ ([DV.i 0, DV.i e.kind, DV.i e.tx, DV.i j, DV.i (newF q_2 id), DV.i e.ref, DV.i e.page, DV.i e.slot,
  DV.b e.b.fst, DV.s e.b.snd, DV.b e.a.fst, DV.s e.a.snd, DV.s ⟨#[]⟩] = [DV.i 0, DV.i e.kind, DV.i e.tx, DV.i j'.fst, DV.i j'.snd, DV.i e.ref, DV.i e.page, DV.i e.slot, DV.b e.b.fst, DV.s e.b.snd, DV.b e.a.fst, DV.s
  e.a.snd, DV.s ⟨#[]⟩] ∧ zKR = zKR ∧ (kR q) = (kR q) ∧ True) ∧ True) (∃ j', I j' ∧ True ∧ ([DV.i 0, DV.i e.kind, DV.i e.tx, DV.i j, DV.i 0, DV.i e.ref, DV.i e.page, DV.i e.slot, DV.b e.b.fst, DV.s e.b.snd, DV.b e.a.fst,
  DV.s e.a.snd, DV.s ⟨#[]⟩] = [DV.i 0, DV.i e.kind, DV.i e.tx, DV.i j'.fst, DV.i j'.snd, DV.i e.ref, DV.i e.page, DV.i e.slot, DV.b e.b.fst, DV.s e.b.snd, DV.b e.a.fst, DV.s e.a.snd, DV.s ⟨#[]⟩] ∧ zKR = zKR ∧ (kR q) =
  (kR q) ∧ True) ∧ True)) ∧ ∀ (j : Int × Int), I j → ∃ l dur n e_1, ApV l dur e_1 ∧ [(logR q.l q.dur), [DV.i 0, DV.i e.kind, DV.i e.tx, DV.i j.fst, DV.i j.snd, DV.i e.ref, DV.i e.page, DV.i e.slot, DV.b e.b.fst, DV.s
  e.b.snd, DV.b e.a.fst, DV.s e.a.snd, DV.s ⟨#[]⟩]] = [(logR l dur), (enR n e_1)] ∧ ∃ ts n e_2, NoV ts n e_2 ∧ [[DV.sl (txsR q.ts)], [DV.i (xadd (ln (ensR l)) 1), DV.i e.kind, DV.i e.tx, DV.i j.fst, DV.i j.snd, DV.i
  e.ref, DV.i e.page, DV.i e.slot, DV.b e.b.fst, DV.s e.b.snd, DV.b e.a.fst, DV.s e.a.snd, DV.s ⟨#[]⟩]] = [[DV.sl (txsR ts)], (enR n e_2)] ∧ ∃ rows n_1 e_3, NiV rows n_1 e_3 ∧ [[DV.sl (rwsR q.rows)], [DV.i (xadd (ln
  (ensR l)) 1), DV.i e.kind, DV.i e.tx, DV.i j.fst, DV.i j.snd, DV.i e.ref, DV.i e.page, DV.i e.slot, DV.b e.b.fst, DV.s e.b.snd, DV.b e.a.fst, DV.s e.a.snd, DV.s ⟨#[]⟩]] = [[DV.sl (rwsR rows)], (enR n_1 e_3)] ∧ k (.t
  [.r shK [DV.i 3, DV.i (q.n + 1), DV.i 1, DV.sl (ensR (l ++ [e_1])), DV.i dur, DV.i q.size, DV.sl (frsR q.fs), DV.i q.hand, DV.sl (gsR q.hs), DV.sl (gsR q.ws), DV.sl (txsR (noteT ts n e_2)), DV.sl (rwsR (noteI rows
  e_3)), DV.sl []], .c (.i .i64 (xadd (ln (ensR l)) 1)), .c (.i .i64 0)]) [] 0) := by kernel_rfl
theorem lst_rws (l : List Int) (i : Nat) (r : Int) : lst (rwsR l) i (rwR r) = rwsR (l.set i r) := by unfold lst rwsR; rw [List.map_set]
theorem getD_at {α : Type} {l : List α} {i : Nat} {x d : α} (h : l[i]? = some x) : l.getD i d = x := by rw [List.getD_eq_getElem?_getD, h]; rfl
theorem ok44 : CtOk Tryz.prog T44 := by
  refine ct_cons ok76 (fz := true) fun rs k h => ?_
  obtain ⟨rows, hv, rfl, hk⟩ := h
  have a1 := hv.l1; have a2 := hv.l2
  refine ⟨_, _, _, (vc44 rows k).mpr ?_⟩
  repeat (first | (refine fk_t ?_ ?_; focus (first | rfl | (simp (disch := omega) only [FS, eq_self, List.length_cons, List.length_nil, true_and, and_true, ssz, xadd, xsub, xmul, xmin, xmax] <;> omega) | omega)) | (refine fk_n ?_ ?_; focus (first | rfl | (simp (disch := omega) only [FS, eq_self, List.length_cons, List.length_nil, true_and, and_true, ssz, xadd, xsub, xmul, xmin, xmax] <;> omega) | omega)))
  refine ⟨fun j => j ≤ rows.length ∧ True, fun j => rows.length - j, range_e (ln_rws rows) (X := True) trivial (by omega) trivial (fun i hi _ nx => ?_) fun _ => hk⟩
  obtain ⟨x, hx⟩ := at_lt hi
  have nx := nx trivial
  have := hv.r x (List.mem_of_getElem? hx)
  rw [tn_ofNat, rws_at hx]
  repeat (first | (refine fk_t ?_ ?_; focus (first | rfl | (simp (disch := omega) only [FS, eq_self, List.length_cons, List.length_nil, true_and, and_true, ssz, xadd, xsub, xmul, xmin, xmax] <;> omega) | omega)) | (refine fk_n ?_ ?_; focus (first | rfl | (simp (disch := omega) only [FS, eq_self, List.length_cons, List.length_nil, true_and, and_true, ssz, xadd, xsub, xmul, xmin, xmax] <;> omega) | omega)))
  exact nx
theorem ok216 : CtOk Tryz.prog T216 := ok44.cons (clone_ok (dcall_ok ok44 (LT := fun _ => []) 5) (e := shRw) (by_ := 24) fun gs k => by kernel_rfl)
theorem ok134 : CtOk Tryz.prog T134 := by
  refine ct_cons ok216 (fz := true) fun rs k h => ?_
  obtain ⟨rows, n, e, hv, rfl, hk⟩ := h
  refine ⟨_, _, _, (vc134 rows n e k).mpr ⟨rows, hv.v, rfl, n, e, hv.ev, rfl, fk_of (fun h7 => ?_) fun h7 => ?_⟩⟩
  · rw [show noteI rows e = rows by unfold noteI; rw [if_neg (ieq_f (nt_t h7))]] at hk
    exact hk
  · have h7 := ieq_t (nt_f h7)
    have hp := hv.p h7
    have h0 := hv.ev.en.2.2.2.2.2.2.1
    have hl := hv.v.l2
    obtain ⟨x, hx⟩ := at_lt (show e.page.toNat < rows.length by omega)
    have e1 : lst (rwsR rows) (tn e.page) [.i (xmax (ri (rw' (rwsR rows) (tn e.page)) 0) e.ref), .i (ri (rw' (rwsR rows) (tn e.page)) 1), .i (ri (rw' (rwsR rows) (tn e.page)) 2)] = rwsR (noteI rows e) := by
      unfold noteI
      rw [if_pos h7, getD_at hx, show tn e.page = e.page.toNat from rfl, rws_at hx, ← lst_rws]
      rfl
    rw [e1, show tn e.page = e.page.toNat from rfl]
    repeat (first | (refine fk_t ?_ ?_; focus (first | rfl | (simp (disch := omega) only [FS, eq_self, List.length_cons, List.length_nil, true_and, and_true, ssz, xadd, xsub, xmul, xmin, xmax] <;> omega) | omega)) | (refine fk_n ?_ ?_; focus (first | rfl | (simp (disch := omega) only [FS, eq_self, List.length_cons, List.length_nil, true_and, and_true, ssz, xadd, xsub, xmul, xmin, xmax] <;> omega) | omega)))
    exact hk
theorem EnV.of {l : Nat} {e : En} (h : EnR l e) (hl : l ≤ 4096) : EnV ((l : Int) + 1) e := ⟨by rw [show ((l : Int) + 1 - 1).toNat = l by omega]; exact h, by omega, by omega⟩
theorem lap_ens (l : List En) (e : En) : lap (ensR l) [enR (l.length + 1) e] = ensR (l ++ [e]) := (ens_snoc l e).symm
theorem end_eq {l : List En} (h : l.length ≤ 4096) : wr .i64 (xsub (wr .i64 (xadd 1 (ln (ensR l)))) 1) = l.length := by
  have e1 : wr .i64 (xadd 1 (ln (ensR l))) = 1 + l.length := by rw [ln_ens]; exact wr_id (n := 1 + (l.length : Int)) (by omega) (by omega)
  rw [e1]
  have : xsub (1 + (l.length : Int)) 1 = l.length := by unfold xsub; omega
  rw [this]; exact wr_id (by omega) (by omega)
theorem nxt_eq {l : List En} (h : l.length ≤ 4096) : wr .i64 (xadd (wr .i64 (xsub (wr .i64 (xadd 1 (ln (ensR l)))) 1)) 1) = (l.length : Int) + 1 := by
  rw [end_eq h]; exact wr_id (n := (l.length : Int) + 1) (by omega) (by omega)
theorem xln_eq (l : List En) : xadd (ln (ensR l)) 1 = (l.length : Int) + 1 := by rw [ln_ens]; rfl
theorem ok132 : CtOk Tryz.prog T132 := by
  refine ct_cons ok134 (fz := true) fun rs k h => ?_
  obtain ⟨l, dur, n, e, hv, rfl, hk⟩ := h
  have hl := hv.len
  refine ⟨_, _, _, (vc132 l dur n e k).mpr ⟨l, dur, hv.v, rfl, ?_⟩⟩
  rw [nxt_eq (by omega)]
  rw [xln_eq] at hk
  repeat (first | (refine fk_t ?_ ?_; focus (first | rfl | (simp (disch := omega) only [FS, eq_self, List.length_cons, List.length_nil, true_and, and_true, ssz, xadd, xsub, xmul, xmin, xmax] <;> omega) | omega)) | (refine fk_n ?_ ?_; focus (first | rfl | (simp (disch := omega) only [FS, eq_self, List.length_cons, List.length_nil, true_and, and_true, ssz, xadd, xsub, xmul, xmin, xmax] <;> omega) | omega)))
  refine ⟨_, e, EnV.of hv.ev (by omega), rfl, ?_⟩
  repeat (first | (refine fk_t ?_ ?_; focus (first | rfl | (simp (disch := omega) only [FS, eq_self, List.length_cons, List.length_nil, true_and, and_true, ssz, xadd, xsub, xmul, xmin, xmax] <;> omega) | omega)) | (refine fk_n ?_ ?_; focus (first | rfl | (simp (disch := omega) only [FS, eq_self, List.length_cons, List.length_nil, true_and, and_true, ssz, xadd, xsub, xmul, xmin, xmax] <;> omega) | omega)))
  rw [lsub_all]
  unfold logR at hk
  rw [← lap_ens] at hk
  exact hk
theorem ok137 : CtOk Tryz.prog T137 := by
  refine ct_cons ok132 (fz := true) fun rs k h => ?_
  obtain ⟨l, dur, n, hv, rfl, hk⟩ := h
  have hl := hv.v.len; have hn := hv.n
  refine ⟨_, _, _, (vc137 l dur n k).mpr ⟨l, dur, hv.v, rfl, ?_⟩⟩
  rw [end_eq (by omega)]
  repeat (first | (refine fk_t ?_ ?_; focus (first | rfl | (simp (disch := omega) only [FS, eq_self, List.length_cons, List.length_nil, true_and, and_true, ssz, xadd, xsub, xmul, xmin, xmax] <;> omega) | omega)) | (refine fk_n ?_ ?_; focus (first | rfl | (simp (disch := omega) only [FS, eq_self, List.length_cons, List.length_nil, true_and, and_true, ssz, xadd, xsub, xmul, xmin, xmax] <;> omega) | omega)))
  exact hk
theorem ok179 : CtOk Tryz.prog T179 := by
  refine ct_cons ok137 (fz := true) fun rs k h => ?_
  obtain ⟨l, dur, i, e, hv, rfl, hk⟩ := h
  have hl := hv.v.len
  have hi := (List.getElem?_eq_some_iff.1 hv.g).1
  refine ⟨_, _, _, (vc179 l dur i k).mpr ⟨l, dur, hv.v, rfl, ?_⟩⟩
  have e1 : wr .i64 (xsub (xadd (Int.ofNat i) 1) 1) = (i : Int) := by
    rw [show xsub (xadd (Int.ofNat i) 1) 1 = (i : Int) by unfold xsub xadd; simp]
    exact wr_id (by omega) (by omega)
  rw [end_eq (by omega), e1, tn_cast, ens_at hv.g]
  repeat (first | (refine fk_t ?_ ?_; focus (first | rfl | (simp (disch := omega) only [FS, eq_self, List.length_cons, List.length_nil, true_and, and_true, ssz, xadd, xsub, xmul, xmin, xmax] <;> omega) | omega)) | (refine fk_n ?_ ?_; focus (first | rfl | (simp (disch := omega) only [FS, eq_self, List.length_cons, List.length_nil, true_and, and_true, ssz, xadd, xsub, xmul, xmin, xmax] <;> omega) | omega)))
  exact hk
theorem ok83 : CtOk Tryz.prog T83 := by
  refine ct_cons ok179 (fz := true) fun rs k h => ?_
  obtain ⟨l, dur, hv, rfl, hk⟩ := h
  have hl := hv.len
  refine ⟨_, _, _, (vc83 l dur k).mpr ⟨l, dur, hv, rfl, ?_⟩⟩
  rw [end_eq (by omega)]
  rw [ln_ens] at hk
  exact hk
theorem ok46 : CtOk Tryz.prog T46 := by
  refine ct_raw ok83 fun vs E nx k h => ?_
  unfold g46 at h
  split at h
  · rename_i s rows f s' r
    obtain ⟨h1, q, hv, rfl, rfl, hk⟩ := fk_yes h
    obtain ⟨h2, h3⟩ := and2 h1
    obtain ⟨h3, h4⟩ := and2 h3
    have := shEq_eq _ _ h3
    subst this
    have := shEq_eq _ _ h4
    subst this
    have h2 := inB_iff.1 h2
    simp only [List.mem_cons, List.not_mem_nil, or_false] at h2
    subst h2
    have hl := hv.txs.len
    refine ⟨_, _, _, _, (vc46 q k).mpr ⟨fun j => j ≤ q.ts.length ∧ True, fun j => q.ts.length - j, range_e (ln_txs q.ts) ⟨rfl, trivial⟩ (by omega) trivial (fun i hi _ nx => ?_) fun _ => hk⟩⟩
    obtain ⟨x, hx⟩ := at_lt hi
    have := hv.tn x (List.mem_of_getElem? hx)
    rw [tn_ofNat, txs_at hx]
    repeat (first | (refine fk_t ?_ ?_; focus (first | rfl | (simp (disch := omega) only [FS, eq_self, List.length_cons, List.length_nil, true_and, and_true, ssz, xadd, xsub, xmul, xmin, xmax] <;> omega) | omega)) | (refine fk_n ?_ ?_; focus (first | rfl | (simp (disch := omega) only [FS, eq_self, List.length_cons, List.length_nil, true_and, and_true, ssz, xadd, xsub, xmul, xmin, xmax] <;> omega) | omega)))
    exact nx trivial
  · exact h.elim
theorem ok48 : CtOk Tryz.prog T48 := by
  refine ct_raw ok46 fun vs E nx k h => ?_
  unfold g48 at h
  split at h
  · rename_i s rows f s' r
    obtain ⟨h1, q, hv, rfl, rfl, hk⟩ := fk_yes h
    obtain ⟨h2, h3⟩ := and2 h1
    obtain ⟨h3, h4⟩ := and2 h3
    have := shEq_eq _ _ h3
    subst this
    have := shEq_eq _ _ h4
    subst this
    have h2 := inB_iff.1 h2
    simp only [List.mem_cons, List.not_mem_nil, or_false] at h2
    subst h2
    have hl := hv.pool.num
    refine ⟨_, _, _, _, (vc48 q k).mpr ⟨fun j => j ≤ q.fs.length ∧ True, fun j => q.fs.length - j, range_e (ln_frs q.fs) ⟨rfl, trivial⟩ (by omega) trivial (fun i hi _ nx => ?_) fun _ => hk⟩⟩
    obtain ⟨x, hx⟩ := at_lt hi
    have := hv.ids x (List.mem_of_getElem? hx)
    rw [tn_ofNat, frs_at hx]
    repeat (first | (refine fk_t ?_ ?_; focus (first | rfl | (simp (disch := omega) only [FS, eq_self, List.length_cons, List.length_nil, true_and, and_true, ssz, xadd, xsub, xmul, xmin, xmax] <;> omega) | omega)) | (refine fk_n ?_ ?_; focus (first | rfl | (simp (disch := omega) only [FS, eq_self, List.length_cons, List.length_nil, true_and, and_true, ssz, xadd, xsub, xmul, xmin, xmax] <;> omega) | omega)))
    exact nx trivial
  · exact h.elim
theorem ok50 : CtOk Tryz.prog T50 := by
  refine ct_raw ok48 fun vs E nx k h => ?_
  unfold g50 at h
  split at h
  · rename_i s rows f s' r
    obtain ⟨h1, q, gs, hv, rfl, rfl, hk⟩ := fk_yes h
    obtain ⟨h2, h3⟩ := and2 h1
    obtain ⟨h3, h4⟩ := and2 h3
    have := shEq_eq _ _ h3
    subst this
    have := shEq_eq _ _ h4
    subst this
    have h2 := inB_iff.1 h2
    simp only [List.mem_cons, List.not_mem_nil, or_false] at h2
    subst h2
    have hl := hv.len
    refine ⟨_, _, _, _, (vc50 q gs k).mpr ⟨fun j => j ≤ gs.length ∧ True, fun j => gs.length - j, range_e (ln_gs gs) ⟨rfl, trivial⟩ (by omega) trivial (fun i hi _ nx => ?_) fun _ => hk⟩⟩
    obtain ⟨x, hx⟩ := at_lt hi
    have := hv.p x (List.mem_of_getElem? hx)
    rw [tn_ofNat, gs_at hx]
    repeat (first | (refine fk_t ?_ ?_; focus (first | rfl | (simp (disch := omega) only [FS, eq_self, List.length_cons, List.length_nil, true_and, and_true, ssz, xadd, xsub, xmul, xmin, xmax] <;> omega) | omega)) | (refine fk_n ?_ ?_; focus (first | rfl | (simp (disch := omega) only [FS, eq_self, List.length_cons, List.length_nil, true_and, and_true, ssz, xadd, xsub, xmul, xmin, xmax] <;> omega) | omega)))
    exact nx trivial
  · exact h.elim
theorem KVal.rw {q : KV} (h : KVal q) : RwV q.rows := ⟨by rw [h.r3]; omega, by rw [h.r3]; omega, h.rr⟩
theorem ok17 : CtOk Tryz.prog T17 := by
  refine ct_cons ok50 (fz := true) fun rs k h => ?_
  obtain ⟨q, hv, rfl, hk⟩ := h
  have a1 := hv.n0; have a2 := hv.n1; have a3 := hv.r3; have a4 := hv.lk.len
  refine ⟨_, _, _, (vc17 q k).mpr ?_⟩
  repeat (first | (refine fk_t ?_ ?_; focus (first | rfl | (simp (disch := omega) only [FS, eq_self, List.length_cons, List.length_nil, true_and, and_true, ssz, xadd, xsub, xmul, xmin, xmax] <;> omega) | omega)) | (refine fk_n ?_ ?_; focus (first | rfl | (simp (disch := omega) only [FS, eq_self, List.length_cons, List.length_nil, true_and, and_true, ssz, xadd, xsub, xmul, xmin, xmax] <;> omega) | omega)))
  exact ⟨q.l, q.dur, hv.log, rfl, q.size, q.fs, q.hand, hv.pool, rfl, q.hs, q.ws, hv.lk, rfl, q.ts, hv.txs, rfl, q.rows, hv.rw, rfl, q, hv, rfl, rfl, q, hv, rfl, rfl, q, q.hs, ⟨by omega, hv.ph⟩, rfl, rfl, q, q.ws, ⟨by omega, hv.pw⟩, rfl, rfl, fk_n rfl hk⟩
theorem ok10 : CtOk Tryz.prog T10 := by
  refine ct_cons ok17 (fz := true) fun rs k h => ?_
  obtain ⟨q, hv, rfl, hk⟩ := h
  have a1 := hv.v.n0; have a2 := hv.n
  refine ⟨_, _, _, (vc10 q k).mpr ⟨q, hv.v, rfl, fk_n (by (first | rfl | (simp (disch := omega) only [FS, eq_self, List.length_cons, List.length_nil, true_and, and_true, ssz, xadd, xsub, xmul, xmin, xmax] <;> omega) | omega)) ⟨q.ts, q.n + 1, ⟨hv.v.txs, fun t ht => by have := hv.v.tn t ht; omega, by omega, by omega, hv.len⟩, rfl, ?_⟩⟩⟩
  rw [show wr .i64 (xadd (q.n + 1) 1) = xadd q.n 1 + 1 from wr_id (n := q.n + 1 + 1) (by omega) (by omega)]
  exact hk
theorem getP_at {fs : List Fr} {id : Int} {i : Nat} {f : Fr} (h : findFr fs id = some i) (hf : fs[i]? = some f) : getP fs id = f.pg := by unfold getP; rw [h]; simp only; rw [hf]
theorem ok70 : CtOk Tryz.prog T70 := by
  refine ct_cons ok10 (fz := true) fun rs k h => ?_
  obtain ⟨size, fs, hand, id, hv, rfl, hk⟩ := h
  refine ⟨_, _, _, (vc70 size fs hand id k).mpr ⟨size, fs, hand, id, hv, rfl, ?_⟩⟩
  cases h : findFr fs id with
  | none =>
    rw [show findI fs id = -1 by unfold findI; rw [h], show getB fs id = false by unfold getB; rw [h]; rfl] at *
    rw [show getP fs id = ⟨0, 0, []⟩ by unfold getP; rw [h]] at hk
    exact fk_n rfl hk
  | some i =>
    obtain ⟨f, hf, e⟩ := findFr_some h
    have hi := (List.getElem?_eq_some_iff.1 hf).1
    rw [show findI fs id = i by unfold findI; rw [h]]
    rw [show getB fs id = true by unfold getB; rw [h]; rfl, getP_at h hf] at hk
    rw [tn_cast, frs_at hf]
    repeat (first | (refine fk_t ?_ ?_; focus (first | rfl | (simp (disch := omega) only [FS, eq_self, List.length_cons, List.length_nil, true_and, and_true, ssz, xadd, xsub, xmul, xmin, xmax] <;> omega) | omega)) | (refine fk_n ?_ ?_; focus (first | rfl | (simp (disch := omega) only [FS, eq_self, List.length_cons, List.length_nil, true_and, and_true, ssz, xadd, xsub, xmul, xmin, xmax] <;> omega) | omega)))
    exact hk
theorem ok87 : CtOk Tryz.prog T87 := by
  refine ct_cons ok70 (fz := true) fun rs k h => ?_
  obtain ⟨q, id, rfl, hk⟩ := h
  exact ⟨_, _, _, (vc87 q id k).mpr (fk_n rfl hk)⟩
theorem ok85 : CtOk Tryz.prog T85 := by
  refine ct_cons ok87 (fz := true) fun rs k h => ?_
  obtain ⟨q, id, hv, rfl, hk⟩ := h
  have a1 := hv.i0; have a2 := hv.i3; have a3 := hv.v.r3
  refine ⟨_, _, _, (vc85 q id k).mpr ⟨q.size, q.fs, q.hand, id, hv.v.pool, rfl, fk_of (fun e => ?_) fun e => ?_⟩⟩
  · rw [show newF q id = (getP q.fs id).lsn by unfold newF; rw [if_pos e]] at hk
    exact hk
  · obtain ⟨x, hx⟩ := at_lt (show id.toNat < q.rows.length by omega)
    rw [show newF q id = x by unfold newF; rw [if_neg (by rw [e]; exact Bool.false_ne_true), getD_at hx]] at hk
    refine ⟨q, id, rfl, ?_⟩
    rw [show tn id = id.toNat from rfl, rws_at hx]
    repeat (first | (refine fk_t ?_ ?_; focus (first | rfl | (simp (disch := omega) only [FS, eq_self, List.length_cons, List.length_nil, true_and, and_true, ssz, xadd, xsub, xmul, xmin, xmax] <;> omega) | omega)) | (refine fk_n ?_ ?_; focus (first | rfl | (simp (disch := omega) only [FS, eq_self, List.length_cons, List.length_nil, true_and, and_true, ssz, xadd, xsub, xmul, xmin, xmax] <;> omega) | omega)))
    exact hk
theorem ok72 : CtOk Tryz.prog T72 := by
  refine ct_cons ok85 (fz := true) fun rs k h => ?_
  obtain ⟨q, e, hv, rfl, hk⟩ := h
  have hl := hv.len
  have r := hv.ev
  have htx : 0 ≤ e.tx := by rcases r.2.2.2.2.2.2.2.2 with h | h | h <;> omega
  have hp0 := r.2.2.2.2.2.2.1
  have hp3 := hv.p3
  rw [xln_eq] at hk
  refine ⟨_, _, _, (vc72 q e k).mpr ⟨q, hv.v, rfl, fun p => p = e.ptx, fk_of (fun h0 => ?_) fun h0 => ⟨0, ?_, trivial, ⟨rfl, rfl, rfl, trivial⟩, trivial⟩, ?_⟩⟩
  · have h0 := ilt_t h0
    obtain ⟨t, ht, e1, ha, hp⟩ := hv.tx (by omega)
    obtain ⟨i, hi⟩ := List.getElem?_of_mem ht
    have hil := (List.getElem?_eq_some_iff.1 hi).1
    refine ⟨q.ts, e.tx, hv.v.txs.len, rfl, ?_⟩
    rw [show findT q.ts e.tx = i from e1 ▸ findT_at hv.v.txs.srt hi, tn_cast, txs_at hi]
    repeat (first | (refine fk_t ?_ ?_; focus (first | rfl | (simp (disch := omega) only [FS, eq_self, List.length_cons, List.length_nil, true_and, and_true, ssz, xadd, xsub, xmul, xmin, xmax] <;> omega) | omega)) | (refine fk_n ?_ ?_; focus (first | rfl | (simp (disch := omega) only [FS, eq_self, List.length_cons, List.length_nil, true_and, and_true, ssz, xadd, xsub, xmul, xmin, xmax] <;> omega) | omega)))
    exact ⟨t.last, hp.symm, trivial, ⟨rfl, rfl, rfl, trivial⟩, trivial⟩
  · have h0 := ilt_f h0
    rcases r.2.2.2.2.2.2.2.2 with h | h | h <;> omega
  · rintro p rfl
    refine ⟨fun j => j = (e.ptx, e.pp), ?_, ?_⟩
    · rcases hv.k with h | h | h | h
      · repeat (first | (refine fk_t ?_ ?_; focus (first | rfl | (simp (disch := omega) only [FS, eq_self, List.length_cons, List.length_nil, true_and, and_true, ssz, xadd, xsub, xmul, xmin, xmax] <;> omega) | omega)) | (refine fk_n ?_ ?_; focus (first | rfl | (simp (disch := omega) only [FS, eq_self, List.length_cons, List.length_nil, true_and, and_true, ssz, xadd, xsub, xmul, xmin, xmax] <;> omega) | omega)))
        exact ⟨q, e.page, ⟨hv.v, hp0, hp3⟩, rfl, (e.ptx, e.pp), rfl, trivial, ⟨by rw [hv.pp h], rfl, rfl, trivial⟩, trivial⟩
      all_goals
        have hpp : e.pp = 0 := by rcases r.2.2.2.2.2.2.2.2 with h | h | h <;> omega
        repeat (first | (refine fk_t ?_ ?_; focus (first | rfl | (simp (disch := omega) only [FS, eq_self, List.length_cons, List.length_nil, true_and, and_true, ssz, xadd, xsub, xmul, xmin, xmax] <;> omega) | omega)) | (refine fk_n ?_ ?_; focus (first | rfl | (simp (disch := omega) only [FS, eq_self, List.length_cons, List.length_nil, true_and, and_true, ssz, xadd, xsub, xmul, xmin, xmax] <;> omega) | omega)))
        exact ⟨(e.ptx, e.pp), rfl, trivial, ⟨by rw [hpp], rfl, rfl, trivial⟩, trivial⟩
    · rintro j rfl
      have ev : EnV ((q.l.length : Int) + 1) e := EnV.of r (by omega)
      refine ⟨q.l, q.dur, 0, e, ⟨hv.v.log, r, by omega⟩, rfl, q.ts, (q.l.length : Int) + 1, e, ⟨hv.v.txs, ev, hv.pl, hv.k, hv.tx⟩, by rw [xln_eq]; rfl, q.rows, (q.l.length : Int) + 1, e, ⟨hv.v.rw, ev, fun _ => by rw [hv.v.r3]; exact hp3⟩, by rw [xln_eq]; rfl, ?_⟩
      rw [xln_eq]
      exact hk
end Go.Proofs.YtgjindhjgmplgaaGreat
