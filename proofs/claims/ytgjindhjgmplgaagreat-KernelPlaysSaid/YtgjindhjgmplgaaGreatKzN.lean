/-
  KernelPlays: contracts of the pool: with, Use, Update, Put, Victim, Drop, Clean.
-/
import Derived.Test.YtgjindhjgmplgaaGreatKzO
set_option linter.unusedVariables false
set_option linter.unusedSimpArgs false
set_option maxRecDepth 100000
namespace Go.Proofs.YtgjindhjgmplgaaGreat
open Wp
def useF (fs : List Fr) (id : Int) : List Fr := match findFr fs id with
  | some i => match fs[i]? with
    | some f => fs.set i { f with used := true }
    | none => fs
  | none => fs
def updF (fs : List Fr) (p : Pg) : List Fr := match findFr fs p.id with
  | some i => match fs[i]? with
    | some f => fs.set i ⟨p, true, if f.dirty then f.rec_ else p.lsn, true⟩
    | none => fs
  | none => fs
def putFr (fs : List Fr) (p : Pg) : List Fr := fs ++ [⟨p, false, 0, true⟩]
def clnF (fs : List Fr) (i : Nat) : List Fr := match fs[i]? with
  | some f => fs.set i { f with dirty := false, rec_ := 0 }
  | none => fs
abbrev zFR : Row := [DV.i 0, DV.i 0, DV.b false, DV.s ⟨#[]⟩, DV.b false, DV.s ⟨#[]⟩, DV.b false, DV.s ⟨#[]⟩, DV.b false, DV.s ⟨#[]⟩, DV.b false, DV.s ⟨#[]⟩, DV.b false, DV.s ⟨#[]⟩, DV.b false, DV.s ⟨#[]⟩, DV.b false, DV.s ⟨#[]⟩, DV.b false, DV.s ⟨#[]⟩, DV.b false, DV.s ⟨#[]⟩, DV.b false, DV.s ⟨#[]⟩, DV.b false, DV.s ⟨#[]⟩, DV.b false, DV.s ⟨#[]⟩, DV.b false, DV.s ⟨#[]⟩, DV.b false, DV.s ⟨#[]⟩, DV.b false, DV.s ⟨#[]⟩, DV.b false, DV.i 0, DV.b false]
def T144 : Ct := (144, cloneG shFr 424) :: T136
def T145 : Ct := (145, delG shFr) :: T144
structure WtV (fs : List Fr) (i : Nat) : Prop where
  len : fs.length ≤ 64
  lt : i < fs.length
def g130 (rs : List Row) (k : V → Prop) : Prop := ∃ (fs : List Fr) (i : Nat) (f : Fr), WtV fs i ∧ rs = [[.sl (frsR fs)], [.i (Int.ofNat i)], frR f] ∧ k (.c (.sl shFr (frsR (fs.set i f))))
def T130 : Ct := (130, ctF (psF Tryz.prog 130) g130) :: T145
def g71 (rs : List Row) (k : V → Prop) : Prop := ∃ (size : Int) (fs : List Fr) (hand id : Int), PoolV size fs hand ∧ rs = [poolR size fs hand, [.i id]] ∧ k (.r shPool (poolR size (useF fs id) hand))
def T71 : Ct := (71, ctF (psF Tryz.prog 71) g71) :: T130
structure UpV (size : Int) (fs : List Fr) (hand : Int) (p : Pg) : Prop where
  v : PoolV size fs hand
  pv : PgV p
  f : ∃ (i : Nat) (f : Fr), fs[i]? = some f ∧ f.pg.id = p.id ∧ f.pg.lsn < p.lsn
def g74 (rs : List Row) (k : V → Prop) : Prop := ∃ (size : Int) (fs : List Fr) (hand : Int) (p : Pg), UpV size fs hand p ∧ rs = [poolR size fs hand, pgR p] ∧ k (.t [.r shPool (poolR size (updF fs p) hand), .c (.i .i64 0)])
def T74 : Ct := (74, ctF (psF Tryz.prog 74) g74) :: T71
structure PuV (size : Int) (fs : List Fr) (hand : Int) (p : Pg) : Prop where
  v : PoolV size fs hand
  pv : PgV p
  no : findFr fs p.id = none
  lt : (fs.length : Int) < size
def g86 (rs : List Row) (k : V → Prop) : Prop := ∃ (size : Int) (fs : List Fr) (hand : Int) (p : Pg), PuV size fs hand p ∧ rs = [poolR size fs hand, pgR p] ∧ k (.t [.r shPool (poolR size (putFr fs p) hand), .c (.i .i64 0)])
def T86 : Ct := (86, ctF (psF Tryz.prog 86) g86) :: T74
structure VcV (size : Int) (fs : List Fr) (hand : Int) : Prop where
  v : PoolV size fs hand
  ne : 0 < fs.length
structure VcP (fs : List Fr) (hand : Int) (fs' : List Fr) (i : Nat) (f : Fr) : Prop where
  used : f.used = false
  stay : ∀ f0, fs[hand.toNat]? = some f0 → f0.used = false → fs' = fs ∧ i = hand.toNat
  same : fs'.map (fun f => (f.pg, f.dirty, f.rec_)) = fs.map (fun f => (f.pg, f.dirty, f.rec_))
  at_ : fs'[i]? = some f
def g80 (rs : List Row) (k : V → Prop) : Prop := ∃ (size : Int) (fs : List Fr) (hand : Int), VcV size fs hand ∧ rs = [poolR size fs hand] ∧ ∀ (fs' : List Fr) (i : Nat) (f : Fr), VcP fs hand fs' i f → k (.t [.r shPool (poolR size fs' (Int.ofNat i)), .c (.i .i64 (ri (frR f) 0)), .c (.i .i64 0)])
def vicL (size : Int) : Lp := [(7, .e (List Fr × Nat) (fun _ => []) (fun j => [(0, .E [.i .i64 size, .ow 3, .i .i64 (Int.ofNat j.2)]), (3, .W shFr (frsR j.1))]) 0 [])]
def T80 : Ct := (80, ctF (psF Tryz.prog 80) g80) :: T86
structure DrV (size : Int) (fs : List Fr) (hand : Int) (i : Nat) (f : Fr) : Prop where
  v : PoolV size fs hand
  at_ : fs[i]? = some f
  d : f.dirty = false
structure DrP (fs : List Fr) (i : Nat) (h : Int) : Prop where
  h0 : 0 ≤ h
  h1 : h < max 1 ((fs.eraseIdx i).length : Int)
def g82 (rs : List Row) (k : V → Prop) : Prop := ∃ (size : Int) (fs : List Fr) (hand : Int) (i : Nat) (f : Fr), DrV size fs hand i f ∧ rs = [poolR size fs hand, [.i (ri (frR f) 0)]] ∧ ∀ h : Int, DrP fs i h → k (.t [.r shPool (poolR size (fs.eraseIdx i) h), .c (.i .i64 0)])
def T82 : Ct := (82, ctF (psF Tryz.prog 82) g82) :: T80
structure ClV (size : Int) (fs : List Fr) (hand : Int) (i : Nat) (f : Fr) : Prop where
  v : PoolV size fs hand
  at_ : fs[i]? = some f
  d : f.dirty = true
def g84 (rs : List Row) (k : V → Prop) : Prop := ∃ (size : Int) (fs : List Fr) (hand : Int) (i : Nat) (f : Fr), ClV size fs hand i f ∧ rs = [poolR size fs hand, [.i (ri (frR f) 0)], [.i (ri (frR f) 1)]] ∧ k (.t [.r shPool (poolR size (clnF fs i) hand), .c (.i .i64 0)])
def T84 : Ct := (84, ctF (psF Tryz.prog 84) g84) :: T82
theorem vc130 (fs : List Fr) (i : Nat) (f : Fr) (k : KVk) : dbody Tryz.prog (dcall Tryz.prog T145 (fun _ => []) 5) [] true 130 (argVs (psF Tryz.prog 130) [[.sl (frsR fs)], [.i
  (Int.ofNat i)], frR f]) [] 0 k = (fk (apOk 424 [] (frsR fs)) (fk (inR (Int.ofNat i) (ln (frsR fs))) (fk (nlt (tn (Int.ofNat i)) (frsR fs)) (k (.c (.sl shFr (lst (frsR fs) (tn (Int.ofNat i)) (frR f)))) [] 0) False)
  False) False) := by kernel_rfl
theorem vc71 (size : Int) (fs : List Fr) (hand id : Int) (k : KVk) : dbody Tryz.prog (dcall Tryz.prog T130 (fun _ => []) 5) [] true 71 (argVs (psF Tryz.prog 71) [poolR size fs hand, [.i id]]) [] 0 k = (∃
  size_1 fs_1 hand_1 id_1, PoolV size_1 fs_1 hand_1 ∧ [(poolR size fs hand), [DV.i id]] = [(poolR size_1 fs_1 hand_1), [DV.i id_1]] ∧ fk (ile 0 (findI fs_1 id_1)) (fk (inR (findI fs_1 id_1) (ln (frsR fs))) (∃ fs_2 i f,
  WtV fs_2 i ∧ [[DV.sl (frsR fs)], [DV.i (findI fs_1 id_1)], List.set (rw' (frsR fs) (tn (findI fs_1 id_1))) 36 (DV.b true)] = [[DV.sl (frsR fs_2)], [DV.i (Int.ofNat i)], frR f] ∧ k (.r shPool [DV.i size, DV.sl (frsR
  (fs_2.set i f)), DV.i hand]) [] 0) False) (k (.r shPool (poolR size fs hand)) [] 0)) := by kernel_rfl
theorem vc74 (size : Int) (fs : List Fr) (hand : Int) (p : Pg) (k : KVk) : dbody Tryz.prog (dcall Tryz.prog T71 (fun _ => []) 5) [] true 74 (argVs (psF Tryz.prog 74) [poolR size fs hand, pgR p]) []
  0 k = (∃ size_1 fs_1 hand_1, PoolV size_1 fs_1 hand_1 ∧ [(poolR size fs hand)] = [(poolR size_1 fs_1 hand_1)] ∧ ∃ p_1, PgV p_1 ∧ [pgR p] = [pgR p_1] ∧ ∀ (s : ByteArray), ∃ size_2 fs_2 hand_2 id, fs_2.length ≤ 64 ∧
  [(poolR size fs hand), [DV.i (ri (pgR p) 0)]] = [(poolR size_2 fs_2 hand_2), [DV.i id]] ∧ fk (ilt (findI fs_2 id) 0) (k (.t [.r shPool [DV.i 0, DV.sl [], DV.i 0], .c (.i .i64 18)]) [] 0) (fk (inR (findI fs_2 id) (ln
  (frsR fs))) (fk (ile (ri (pgR p) 1) (ri (rw' (frsR fs) (tn (findI fs_2 id))) 1)) (k (.t [.r shPool [DV.i 0, DV.sl [], DV.i 0], .c (.i .i64 8)]) [] 0) (fk (inR (findI fs_2 id) (ln (frsR fs))) (fk (inR (findI fs_2 id)
  (ln (frsR fs))) (fk (nt (rb (rw' (frsR fs) (tn (findI fs_2 id))) 34)) (∃ fs_3 i f, WtV fs_3 i ∧ [[DV.sl (frsR fs)], [DV.i (findI fs_2 id)], (((List.set (rap (rtk zFR 0) (rap (pgR p) (rdp zFR 34))) 34 (DV.b true)).set
  35 (DV.i (ri (rw' (frsR fs) (tn (findI fs_2 id))) 35))).set 36 (DV.b true)).set 35 (DV.i (ri (pgR p) 1))] = [[DV.sl (frsR fs_3)], [DV.i (Int.ofNat i)], frR f] ∧ k (.t [.r shPool [DV.i size, DV.sl (frsR (fs_3.set i f)),
  DV.i hand], .c (.i .i64 0)]) [] 0) (∃ fs_3 i f, WtV fs_3 i ∧ [[DV.sl (frsR fs)], [DV.i (findI fs_2 id)], ((List.set (rap (rtk zFR 0) (rap (pgR p) (rdp zFR 34))) 34 (DV.b true)).set 35 (DV.i (ri (rw' (frsR fs) (tn
  (findI fs_2 id))) 35))).set 36 (DV.b true)] = [[DV.sl (frsR fs_3)], [DV.i (Int.ofNat i)], frR f] ∧ k (.t [.r shPool [DV.i size, DV.sl (frsR (fs_3.set i f)), DV.i hand], .c (.i .i64 0)]) [] 0)) False) False)) False)) :=
  by kernel_rfl
theorem vc86 (size : Int) (fs : List Fr) (hand : Int) (p : Pg) (k : KVk) : dbody Tryz.prog (dcall Tryz.prog T74 (fun _ => []) 5) [] true 86 (argVs (psF Tryz.prog 86) [poolR size fs hand, pgR p]) [] 0 k =
  (∃ size_1 fs_1 hand_1, PoolV size_1 fs_1 hand_1 ∧ [(poolR size fs hand)] = [(poolR size_1 fs_1 hand_1)] ∧ ∃ p_1, PgV p_1 ∧ [pgR p] = [pgR p_1] ∧ ∀ (s : ByteArray), ∃ size_2 fs_2 hand_2 id, fs_2.length ≤ 64 ∧ [(poolR
  size fs hand), [DV.i (ri (pgR p) 0)]] = [(poolR size_2 fs_2 hand_2), [DV.i id]] ∧ fk (ile 0 (findI fs_2 id)) (k (.t [.r shPool [DV.i 0, DV.sl [], DV.i 0], .c (.i .i64 25)]) [] 0) (fk (ieq (ln (frsR fs)) size) (k (.t
  [.r shPool [DV.i 0, DV.sl [], DV.i 0], .c (.i .i64 21)]) [] 0) (fk (an true (an (ile 0 (ln (frsR fs))) (an (ile (ln (frsR fs)) (ln (frsR fs))) (ieq (ln (frsR fs)) (ln (frsR fs)))))) (fk (true && (nlt 0 [List.set (rap
  (rtk zFR 0) (rap (pgR p) (rdp zFR 34))) 36 (DV.b true)] && apOk 424 (lsub (frsR fs) 0 (ln (frsR fs))) [List.set (rap (rtk zFR 0) (rap (pgR p) (rdp zFR 34))) 36 (DV.b true)])) (k (.t [.r shPool [DV.i size, DV.sl (lap
  (lsub (frsR fs) 0 (ln (frsR fs))) [List.set (rap (rtk zFR 0) (rap (pgR p) (rdp zFR 34))) 36 (DV.b true)]), DV.i hand], .c (.i .i64 0)]) [] 0) False) False))) := by kernel_rfl
theorem vc80 (size : Int) (fs : List Fr) (hand : Int) (k : KVk) : dbody Tryz.prog (dcall Tryz.prog T86 (fun _ => []) 5) (vicL size) true 80 (argVs (psF Tryz.prog 80) [poolR size fs hand]) [] 0 k =
  (∃ size_1 fs_1 hand_1, PoolV size_1 fs_1 hand_1 ∧ [(poolR size fs hand)] = [(poolR size_1 fs_1 hand_1)] ∧ fk (ieq (ln (frsR fs)) 0) (k (.t [.r shPool [DV.i 0, DV.sl [], DV.i 0], .c (.i .i64 0), .c (.i .i64 18)]) [] 0)
  (fk (apOk 424 [] (frsR fs)) (∃ (I : List Fr × Nat → Prop) (μ : List Fr × Nat → Nat), (∃ j, I j ∧ True ∧ ((size = size ∧ True ∧ hand = Int.ofNat j.snd ∧ True) ∧ frsR fs = frsR j.fst ∧ [DV.i 0, DV.sl [], DV.i 0] = [DV.i
  0, DV.sl [], DV.i 0] ∧ True) ∧ True) ∧ ∀ (j : List Fr × Nat), I j → fk (inR (Int.ofNat j.snd) (ln (frsR j.fst))) (fk (nlt (tn (Int.ofNat j.snd)) (frsR j.fst)) (fk (rb (rw' (frsR j.fst) (tn (Int.ofNat j.snd))) 36) (fk
  (inR (Int.ofNat j.snd) (ln (frsR j.fst))) (fk (nlt (tn (Int.ofNat j.snd)) (frsR j.fst)) (fk (ieq (ln (lst (frsR j.fst) (tn (Int.ofNat j.snd)) (List.set (rw' (frsR j.fst) (tn (Int.ofNat j.snd))) 36 (DV.b false)))) 0)
  False (∃ j', I j' ∧ lessN (μ j') (μ j) ∧ True ∧ ((size = size ∧ True ∧ xrem (wr .i64 (xadd (Int.ofNat j.snd) 1)) (ln (lst (frsR j.fst) (tn (Int.ofNat j.snd)) (List.set (rw' (frsR j.fst) (tn (Int.ofNat j.snd))) 36 (DV.b
  false)))) = Int.ofNat j'.snd ∧ True) ∧ lst (frsR j.fst) (tn (Int.ofNat j.snd)) (List.set (rw' (frsR j.fst) (tn (Int.ofNat j.snd))) 36 (DV.b false)) = frsR j'.fst ∧ [DV.i 0, DV.sl [], DV.i 0] = [DV.i 0, DV.sl [], DV.i
  0] ∧ True) ∧ True)) False) False) (fk (inR (Int.ofNat j.snd) (ln (frsR j.fst))) (fk (nlt (tn (Int.ofNat j.snd)) (frsR j.fst)) (k (.t [.r shPool [DV.i size, DV.sl (frsR j.fst), DV.i (Int.ofNat j.snd)], .c (.i .i64 (ri
  (rw' (frsR j.fst) (tn (Int.ofNat j.snd))) 0)), .c (.i .i64 0)]) [] 0) False) False)) False) False) False)) := by kernel_rfl
theorem vc82 (size : Int) (fs : List Fr) (hand : Int) (f : Fr) (k : KVk) : dbody Tryz.prog (dcall Tryz.prog T80 (fun _ => []) 5) [] true 82 (argVs (psF Tryz.prog 82) [poolR size fs hand, [.i (ri (frR f)
  0)]]) [] 0 k = (∃ size_1 fs_1 hand_1, PoolV size_1 fs_1 hand_1 ∧ [(poolR size fs hand)] = [(poolR size_1 fs_1 hand_1)] ∧ ∃ size_2 fs_2 hand_2 id, fs_2.length ≤ 64 ∧ [(poolR size fs hand), [DV.i (ri (frR f) 0)]] =
  [(poolR size_2 fs_2 hand_2), [DV.i id]] ∧ fk (ilt (findI fs_2 id) 0) (k (.t [.r shPool [DV.i 0, DV.sl [], DV.i 0], .c (.i .i64 18)]) [] 0) (fk (inR (findI fs_2 id) (ln (frsR fs))) (fk (rb (rw' (frsR fs) (tn (findI fs_2
  id))) 34) (k (.t [.r shPool [DV.i 0, DV.sl [], DV.i 0], .c (.i .i64 23)]) [] 0) (fk (apOk 424 [] (frsR fs)) (fk (an (ile 0 (findI fs_2 id)) (an (ilt (findI fs_2 id) (wr .i64 (xadd (findI fs_2 id) 1))) (ile (wr .i64
  (xadd (findI fs_2 id) 1)) (ln (frsR fs))))) (fk (ilt (findI fs_2 id) hand) (fk (ile (ln (ldel (frsR fs) (findI fs_2 id) (wr .i64 (xadd (findI fs_2 id) 1)))) (wr .i64 (xsub hand 1))) (k (.t [.r shPool [DV.i size, DV.sl
  (ldel (frsR fs) (findI fs_2 id) (wr .i64 (xadd (findI fs_2 id) 1))), DV.i 0], .c (.i .i64 0)]) [] 0) (k (.t [.r shPool [DV.i size, DV.sl (ldel (frsR fs) (findI fs_2 id) (wr .i64 (xadd (findI fs_2 id) 1))), DV.i (wr
  .i64 (xsub hand 1))], .c (.i .i64 0)]) [] 0)) (fk (ile (ln (ldel (frsR fs) (findI fs_2 id) (wr .i64 (xadd (findI fs_2 id) 1)))) hand) (k (.t [.r shPool [DV.i size, DV.sl (ldel (frsR fs) (findI fs_2 id) (wr .i64 (xadd
  (findI fs_2 id) 1))), DV.i 0], .c (.i .i64 0)]) [] 0) (k (.t [.r shPool [DV.i size, DV.sl (ldel (frsR fs) (findI fs_2 id) (wr .i64 (xadd (findI fs_2 id) 1))), DV.i hand], .c (.i .i64 0)]) [] 0))) False) False)) False))
  := by kernel_rfl
theorem vc84 (size : Int) (fs : List Fr) (hand : Int) (f : Fr) (k : KVk) : dbody Tryz.prog (dcall Tryz.prog T82 (fun _ => []) 5) [] true 84 (argVs (psF Tryz.prog 84) [poolR size fs hand, [.i (ri (frR
  f) 0)], [.i (ri (frR f) 1)]]) [] 0 k = (∃ size_1 fs_1 hand_1, PoolV size_1 fs_1 hand_1 ∧ [(poolR size fs hand)] = [(poolR size_1 fs_1 hand_1)] ∧ ∃ size_2 fs_2 hand_2 id, fs_2.length ≤ 64 ∧ [(poolR size fs hand), [DV.i
  (ri (frR f) 0)]] = [(poolR size_2 fs_2 hand_2), [DV.i id]] ∧ fk (ilt (findI fs_2 id) 0) (k (.t [.r shPool [DV.i 0, DV.sl [], DV.i 0], .c (.i .i64 18)]) [] 0) (fk (inR (findI fs_2 id) (ln (frsR fs))) (fk (ilt (ri (rw'
  (frsR fs) (tn (findI fs_2 id))) 1) (ri (frR f) 1)) (k (.t [.r shPool [DV.i 0, DV.sl [], DV.i 0], .c (.i .i64 9)]) [] 0) (fk (nt (rb (rw' (frsR fs) (tn (findI fs_2 id))) 34)) (k (.t [.r shPool (poolR size fs hand), .c
  (.i .i64 0)]) [] 0) (fk (ieq (ri (frR f) 1) (ri (rw' (frsR fs) (tn (findI fs_2 id))) 1)) (∃ fs_3 i f, WtV fs_3 i ∧ [[DV.sl (frsR fs)], [DV.i (findI fs_2 id)], (List.set (rw' (frsR fs) (tn (findI fs_2 id))) 34 (DV.b
  false)).set 35 (DV.i 0)] = [[DV.sl (frsR fs_3)], [DV.i (Int.ofNat i)], frR f] ∧ k (.t [.r shPool [DV.i size, DV.sl (frsR (fs_3.set i f)), DV.i hand], .c (.i .i64 0)]) [] 0) (fk (ile (ri (rw' (frsR fs) (tn (findI fs_2
  id))) 35) (ri (frR f) 1)) (∃ fs_3 i f_1, WtV fs_3 i ∧ [[DV.sl (frsR fs)], [DV.i (findI fs_2 id)], List.set (rw' (frsR fs) (tn (findI fs_2 id))) 35 (DV.i (wr .i64 (xadd (ri (frR f) 1) 1)))] = [[DV.sl (frsR fs_3)], [DV.i
  (Int.ofNat i)], frR f_1] ∧ k (.t [.r shPool [DV.i size, DV.sl (frsR (fs_3.set i f_1)), DV.i hand], .c (.i .i64 0)]) [] 0) (∃ fs_3 i f, WtV fs_3 i ∧ [[DV.sl (frsR fs)], [DV.i (findI fs_2 id)], rw' (frsR fs) (tn (findI
  fs_2 id))] = [[DV.sl (frsR fs_3)], [DV.i (Int.ofNat i)], frR f] ∧ k (.t [.r shPool [DV.i size, DV.sl (frsR (fs_3.set i f)), DV.i hand], .c (.i .i64 0)]) [] 0))))) False)) := by kernel_rfl
theorem lst_frs (l : List Fr) (i : Nat) (f : Fr) : lst (frsR l) i (frR f) = frsR (l.set i f) := by unfold lst frsR; rw [List.map_set]
theorem lap_frs (l : List Fr) (f : Fr) : lap (frsR l) [frR f] = frsR (l ++ [f]) := by unfold lap frsR; rw [List.map_append]; rfl
theorem frs_del (l : List Fr) (i : Nat) : ldel (frsR l) (i : Int) ((i : Int) + 1) = frsR (l.eraseIdx i) := by
  unfold ldel frsR
  rw [List.eraseIdx_eq_take_drop_succ, List.map_append, List.map_take, List.map_drop]
  rfl
theorem findI_no0 {fs : List Fr} {id : Int} (h : findFr fs id = none) : findI fs id = -1 := by unfold findI; rw [h]
theorem findI_at0 {fs : List Fr} {id : Int} {i : Nat} (h : findFr fs id = some i) : findI fs id = i := by unfold findI; rw [h]
theorem findI_some {fs : List Fr} {id : Int} {i : Nat} (h : findI fs id = i) : findFr fs id = some i := by
  unfold findI at h
  split at h
  · rename_i j hj
    rw [hj]; congr 1; omega
  · omega
theorem used_dec : ∀ {l : List Fr} {i : Nat} {x : Fr}, l[i]? = some x → x.used = true → ((l.set i { x with used := false }).filter Fr.used).length < (l.filter Fr.used).length
  | y :: l, 0, x, h, hu => by
    simp only [List.getElem?_cons_zero, Option.some.injEq] at h
    subst h
    simp [List.set_cons_zero, List.filter_cons, hu]
  | y :: l, i + 1, x, h, hu => by
    simp only [List.getElem?_cons_succ] at h
    have := used_dec h hu
    rw [List.set_cons_succ, List.filter_cons, List.filter_cons]
    split
    · simp only [List.length_cons]; omega
    · exact this
theorem ok144 : CtOk Tryz.prog T144 := ok136.cons (clone_ok (dcall_ok ok136 (LT := fun _ => []) 5) (e := shFr) (by_ := 424) fun gs k => by kernel_rfl)
theorem ok145 : CtOk Tryz.prog T145 := ok144.cons (del_ok (dcall_ok ok144 (LT := fun _ => []) 5) (e := shFr) (by_ := 424) (zr := zFR) fun gs i j k => by kernel_rfl)
theorem ok130 : CtOk Tryz.prog T130 := by
  refine ct_cons ok145 (fz := true) fun rs k h => ?_
  obtain ⟨fs, i, f, hv, rfl, hk⟩ := h
  have h1 := hv.len; have h2 := hv.lt
  refine ⟨_, _, _, (vc130 fs i f k).mpr ?_⟩
  repeat (first | (refine fk_t ?_ ?_; focus (first | rfl | (simp (disch := omega) only [FS, eq_self, List.length_cons, List.length_nil, true_and, and_true, ssz, xadd, xsub, xmul, xmin, xmax] <;> omega) | omega)) | (refine fk_n ?_ ?_; focus (first | rfl | (simp (disch := omega) only [FS, eq_self, List.length_cons, List.length_nil, true_and, and_true, ssz, xadd, xsub, xmul, xmin, xmax] <;> omega) | omega)))
  rw [tn_ofNat, lst_frs]
  exact hk
theorem ok71 : CtOk Tryz.prog T71 := by
  refine ct_cons ok130 (fz := true) fun rs k h => ?_
  obtain ⟨size, fs, hand, id, hv, rfl, hk⟩ := h
  have hn := hv.num
  refine ⟨_, _, _, (vc71 size fs hand id k).mpr ⟨size, fs, hand, id, hv, rfl, ?_⟩⟩
  cases h : findFr fs id with
  | none =>
    rw [show useF fs id = fs by unfold useF; rw [h]] at hk
    rw [findI_no0 h]
    exact fk_n rfl hk
  | some i =>
    obtain ⟨f, hf, e⟩ := findFr_some h
    have hi := (List.getElem?_eq_some_iff.1 hf).1
    rw [show useF fs id = fs.set i { f with used := true } by unfold useF; rw [h]; simp only; rw [hf]] at hk
    rw [findI_at0 h, tn_cast, frs_at hf]
    repeat (first | (refine fk_t ?_ ?_; focus (first | rfl | (simp (disch := omega) only [FS, eq_self, List.length_cons, List.length_nil, true_and, and_true, ssz, xadd, xsub, xmul, xmin, xmax] <;> omega) | omega)) | (refine fk_n ?_ ?_; focus (first | rfl | (simp (disch := omega) only [FS, eq_self, List.length_cons, List.length_nil, true_and, and_true, ssz, xadd, xsub, xmul, xmin, xmax] <;> omega) | omega)))
    exact ⟨fs, i, { f with used := true }, ⟨by omega, hi⟩, rfl, hk⟩
theorem ok74 : CtOk Tryz.prog T74 := by
  refine ct_cons ok71 (fz := true) fun rs k h => ?_
  obtain ⟨size, fs, hand, p, hv, rfl, hk⟩ := h
  have hn := hv.v.num
  obtain ⟨i, f, hf, e, hl⟩ := hv.f
  have hi := (List.getElem?_eq_some_iff.1 hf).1
  have hfi : findI fs p.id = i := e ▸ (hv.v.fr hf).2.1
  refine ⟨_, _, _, (vc74 size fs hand p k).mpr ⟨size, fs, hand, hv.v, rfl, p, hv.pv, rfl, fun s => ⟨size, fs, hand, p.id, by omega, rfl, ?_⟩⟩⟩
  rw [show updF fs p = fs.set i ⟨p, true, if f.dirty then f.rec_ else p.lsn, true⟩ by unfold updF; rw [findI_some hfi]; simp only; rw [hf]] at hk
  rw [hfi, tn_cast, frs_at hf, frR_34]
  repeat (first | (refine fk_t ?_ ?_; focus (first | rfl | (simp (disch := omega) only [FS, eq_self, List.length_cons, List.length_nil, true_and, and_true, ssz, xadd, xsub, xmul, xmin, xmax] <;> omega) | omega)) | (refine fk_n ?_ ?_; focus (first | rfl | (simp (disch := omega) only [FS, eq_self, List.length_cons, List.length_nil, true_and, and_true, ssz, xadd, xsub, xmul, xmin, xmax] <;> omega) | omega)))
  cases hd : f.dirty with
  | false =>
    rw [hd] at hk
    exact fk_t rfl ⟨fs, i, ⟨p, true, p.lsn, true⟩, ⟨by omega, hi⟩, rfl, hk⟩
  | true =>
    rw [hd] at hk
    exact fk_n rfl ⟨fs, i, ⟨p, true, f.rec_, true⟩, ⟨by omega, hi⟩, rfl, hk⟩
theorem ok86 : CtOk Tryz.prog T86 := by
  refine ct_cons ok74 (fz := true) fun rs k h => ?_
  obtain ⟨size, fs, hand, p, hv, rfl, hk⟩ := h
  have hn := hv.v.num
  have hlt := hv.lt
  refine ⟨_, _, _, (vc86 size fs hand p k).mpr ⟨size, fs, hand, hv.v, rfl, p, hv.pv, rfl, fun s => ⟨size, fs, hand, p.id, by omega, rfl, ?_⟩⟩⟩
  rw [findI_no0 hv.no]
  repeat (first | (refine fk_t ?_ ?_; focus (first | rfl | (simp (disch := omega) only [FS, eq_self, List.length_cons, List.length_nil, true_and, and_true, ssz, xadd, xsub, xmul, xmin, xmax] <;> omega) | omega)) | (refine fk_n ?_ ?_; focus (first | rfl | (simp (disch := omega) only [FS, eq_self, List.length_cons, List.length_nil, true_and, and_true, ssz, xadd, xsub, xmul, xmin, xmax] <;> omega) | omega)))
  rw [lsub_all]
  unfold putFr poolR at hk
  rw [← lap_frs] at hk
  exact hk
theorem ok80 : CtOk Tryz.prog T80 := by
  refine ct_cons ok86 (fz := true) fun rs k h => ?_
  obtain ⟨size, fs, hand, hv, rfl, hk⟩ := h
  have hn := hv.v.num
  have hne := hv.ne
  refine ⟨_, _, _, (vc80 size fs hand k).mpr ⟨size, fs, hand, hv.v, rfl, ?_⟩⟩
  repeat (first | (refine fk_t ?_ ?_; focus (first | rfl | (simp (disch := omega) only [FS, eq_self, List.length_cons, List.length_nil, true_and, and_true, ssz, xadd, xsub, xmul, xmin, xmax] <;> omega) | omega)) | (refine fk_n ?_ ?_; focus (first | rfl | (simp (disch := omega) only [FS, eq_self, List.length_cons, List.length_nil, true_and, and_true, ssz, xadd, xsub, xmul, xmin, xmax] <;> omega) | omega)))
  refine ⟨fun j => j.1.map (fun f => (f.pg, f.dirty, f.rec_)) = fs.map (fun f => (f.pg, f.dirty, f.rec_)) ∧ j.2 < j.1.length ∧ ∀ f0, fs[hand.toNat]? = some f0 → f0.used = false → j.1 = fs ∧ j.2 = hand.toNat, fun j => (j.1.filter Fr.used).length,
    ⟨(fs, hand.toNat), ⟨rfl, (by dsimp only; omega), fun _ _ _ => ⟨rfl, rfl⟩⟩, trivial, ⟨⟨rfl, trivial, (by show hand = ((hand.toNat : Nat) : Int); omega), trivial⟩, rfl, rfl, trivial⟩, trivial⟩, ?_⟩
  rintro ⟨l, i⟩ ⟨h1, h2, h9⟩
  dsimp only at h1 h2 h9 ⊢
  have hll : l.length = fs.length := by simpa using congrArg List.length h1
  obtain ⟨x, hx⟩ := at_lt h2
  rw [tn_ofNat, frs_at hx, frR_36]
  repeat (first | (refine fk_t ?_ ?_; focus (first | rfl | (simp (disch := omega) only [FS, eq_self, List.length_cons, List.length_nil, true_and, and_true, ssz, xadd, xsub, xmul, xmin, xmax] <;> omega) | omega)) | (refine fk_n ?_ ?_; focus (first | rfl | (simp (disch := omega) only [FS, eq_self, List.length_cons, List.length_nil, true_and, and_true, ssz, xadd, xsub, xmul, xmin, xmax] <;> omega) | omega)))
  refine fk_of (fun e => ?_) fun e => ?_
  · have e1 : lst (frsR l) i (List.set (frR x) 36 (.b false)) = frsR (l.set i { x with used := false }) := lst_frs l i { x with used := false }
    have e2 : ln (frsR (l.set i { x with used := false })) = l.length := by rw [ln_frs, List.length_set]
    rw [e1, e2]
    repeat (first | (refine fk_t ?_ ?_; focus (first | rfl | (simp (disch := omega) only [FS, eq_self, List.length_cons, List.length_nil, true_and, and_true, ssz, xadd, xsub, xmul, xmin, xmax] <;> omega) | omega)) | (refine fk_n ?_ ?_; focus (first | rfl | (simp (disch := omega) only [FS, eq_self, List.length_cons, List.length_nil, true_and, and_true, ssz, xadd, xsub, xmul, xmin, xmax] <;> omega) | omega)))
    have e3 : wr .i64 (xadd (Int.ofNat i) 1) = ((i + 1 : Nat) : Int) := wr_id (n := (i : Int) + 1) (by omega) (by omega)
    rw [e3]
    exact ⟨(l.set i { x with used := false }, (i + 1) % l.length), ⟨by dsimp only; rw [map_set_same (g := fun f => (f.pg, f.dirty, f.rec_)) (y := { x with used := false }) hx rfl]; exact h1, (by dsimp only; rw [List.length_set]; exact Nat.mod_lt _ (by omega)), fun f0 q1 q2 => by
      obtain ⟨e8, e9⟩ := h9 f0 q1 q2
      rw [e8, e9, q1] at hx
      cases hx
      rw [q2] at e; cases e⟩, used_dec hx e, trivial, ⟨⟨rfl, trivial, rfl, trivial⟩, rfl, rfl, trivial⟩, trivial⟩
  · repeat (first | (refine fk_t ?_ ?_; focus (first | rfl | (simp (disch := omega) only [FS, eq_self, List.length_cons, List.length_nil, true_and, and_true, ssz, xadd, xsub, xmul, xmin, xmax] <;> omega) | omega)) | (refine fk_n ?_ ?_; focus (first | rfl | (simp (disch := omega) only [FS, eq_self, List.length_cons, List.length_nil, true_and, and_true, ssz, xadd, xsub, xmul, xmin, xmax] <;> omega) | omega)))
    exact hk l i x ⟨e, h9, h1, hx⟩
theorem ok82 : CtOk Tryz.prog T82 := by
  refine ct_cons ok80 (fz := true) fun rs k h => ?_
  obtain ⟨size, fs, hand, i, f, hv, rfl, hk⟩ := h
  have hn := hv.v.num
  have hi := (List.getElem?_eq_some_iff.1 hv.at_).1
  have hd := hv.d
  have hel : (fs.eraseIdx i).length = fs.length - 1 := by rw [List.length_eraseIdx, if_pos hi]
  refine ⟨_, _, _, (vc82 size fs hand f k).mpr ⟨size, fs, hand, hv.v, rfl, size, fs, hand, f.pg.id, by omega, rfl, ?_⟩⟩
  have w1 : wr .i64 (xadd (i : Int) 1) = (i : Int) + 1 := wr_id (n := (i : Int) + 1) (by omega) (by omega)
  have w2 : wr .i64 (xsub hand 1) = hand - 1 := wr_id (n := hand - 1) (by omega) (by omega)
  rw [(hv.v.fr hv.at_).2.1, tn_cast, frs_at hv.at_, frR_34, w1, w2, frs_del]
  simp only [ln_frs, hel]
  repeat (first | (refine fk_t ?_ ?_; focus (first | rfl | (simp (disch := omega) only [FS, eq_self, List.length_cons, List.length_nil, true_and, and_true, ssz, xadd, xsub, xmul, xmin, xmax] <;> omega) | omega)) | (refine fk_n ?_ ?_; focus (first | rfl | (simp (disch := omega) only [FS, eq_self, List.length_cons, List.length_nil, true_and, and_true, ssz, xadd, xsub, xmul, xmin, xmax] <;> omega) | omega)))
  refine fk_of (fun e => ?_) fun e => ?_
  · have e := ilt_t e
    refine fk_of (fun e2 => ?_) fun e2 => ?_
    · exact hk 0 ⟨by omega, by omega⟩
    · have e2 := ile_f e2
      exact hk (hand - 1) ⟨by omega, by omega⟩
  · have e := ilt_f e
    refine fk_of (fun e2 => ?_) fun e2 => ?_
    · exact hk 0 ⟨by omega, by omega⟩
    · have e2 := ile_f e2
      exact hk hand ⟨by omega, by omega⟩
theorem ok84 : CtOk Tryz.prog T84 := by
  refine ct_cons ok82 (fz := true) fun rs k h => ?_
  obtain ⟨size, fs, hand, i, f, hv, rfl, hk⟩ := h
  have hn := hv.v.num
  have hi := (List.getElem?_eq_some_iff.1 hv.at_).1
  have hd := hv.d
  refine ⟨_, _, _, (vc84 size fs hand f k).mpr ⟨size, fs, hand, hv.v, rfl, size, fs, hand, f.pg.id, by omega, rfl, ?_⟩⟩
  rw [show clnF fs i = fs.set i { f with dirty := false, rec_ := 0 } by unfold clnF; rw [hv.at_]] at hk
  rw [(hv.v.fr hv.at_).2.1, tn_cast, frs_at hv.at_, frR_34, hd]
  repeat (first | (refine fk_t ?_ ?_; focus (first | rfl | (simp (disch := omega) only [FS, eq_self, List.length_cons, List.length_nil, true_and, and_true, ssz, xadd, xsub, xmul, xmin, xmax] <;> omega) | omega)) | (refine fk_n ?_ ?_; focus (first | rfl | (simp (disch := omega) only [FS, eq_self, List.length_cons, List.length_nil, true_and, and_true, ssz, xadd, xsub, xmul, xmin, xmax] <;> omega) | omega)))
  exact ⟨fs, i, { f with dirty := false, rec_ := 0 }, ⟨by omega, hi⟩, rfl, hk⟩
end Go.Proofs.YtgjindhjgmplgaaGreat
