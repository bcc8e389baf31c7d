/-
  The rounds of a state, all pages and kinds.
-/
import Derived.Test.YtjnfgapfhpihmaaGreatTriC
import Derived.Test.YtjnfgapfhpihmaaGreatSeX
set_option linter.unusedVariables false
set_option linter.unusedSimpArgs false
section
namespace Go.Proofs.YtjnfgapfhpihmaaGreat
open Go.RowKit
def ptrC : AC → Option Bid
  | .p i _ => some i
  | .sl i _ _ _ => some i
  | .su i _ _ _ _ => some i
  | .se i _ => some i
  | .mp i => some i
  | .sr i _ _ => some i
  | _ => none
def pairC : List AC → List AC → List (Bid × Bid) → List (Bid × Bid)
  | x :: l, y :: k, m => pairC l k (match ptrC x, ptrC y with
    | some a, some b => bif m.any (fun z => decide (z.2 = b)) then m else m ++ [(a, b)]
    | _, _ => m)
  | _, _, m => m
def avC : AV → List AC
  | .c x => [x]
  | .a l => l
  | .t _ => []
def autoF (fr : Fr) : List (D16 × D16 × AV) → List (Bid × Bid) → List (Bid × Bid)
  | [], m => m
  | x :: l, m => autoF fr l (match getF x.1 x.2.1 fr with
    | some v => pairC (avC v) (avC x.2.2) m
    | none => m)
def autoB (h : Hp) : List (Bid × AB) → List (Bid × Bid) → List (Bid × Bid)
  | [], m => m
  | x :: l, m => autoB h l (match x.2, m.find? fun z => decide (z.2 = x.1) with
    | .cells c, some z => (match h.get z.1 with
      | some (.cells c') => pairC c' c m
      | _ => m)
    | _, _ => m)
def autoM (s : Lit) (fr : Fr) (h : Hp) : List (Bid × Bid) := autoB h s.mem (autoF fr s.fr [])
noncomputable def endsX (k : En) (nm : Nms) (s : Lit) (r : RC) : Bool := match r with
  | .no => false
  | .nrm fr h => endsAt k (autoM s fr h) nm s (.nrm fr h)
  | .ret fr h => endsAt k (autoM s fr h) nm s (.ret fr h)
  | .ex i fr h => endsAt k (autoM s fr h) nm s (.ex i fr h)
theorem endsX_ok {k : En} {nm : Nms} {s : Lit} {r : RC} (h : endsX k nm s r = true) : ∃ m, endsAt k m nm s r = true := by
  cases r with
  | no => cases h
  | nrm fr q => exact ⟨_, h⟩
  | ret fr q => exact ⟨_, h⟩
  | ex i fr q => exact ⟨_, h⟩
section
variable {P : Program} {E : Env} {T : Tab} {N n : Nat}
theorem Tri.runX (hcode : CodeOk P E T n) {ρ ρ' : Vn} (he : EnvOk E ρ) {ac : ACd} {s s' : Lit} {k : En} {nm : Nms} (hend : endsX k nm s' (aev P E T n ac s.frame s.hp) = true) (hr : Ren ρ ρ' nm) {w0 : World} :
    Tri P N ac (At w0 N ρ s) fun e a w => e = k.exit ∧ At w0 N ρ' s' a w := by
  obtain ⟨m, hm⟩ := endsX_ok hend
  exact Tri.run hcode he hm hr
theorem Tri.pre_runX (hcode : CodeOk P E T n) {ρ ρ' : Vn} (he : EnvOk E ρ) {k : Nat} {ac r : ACd} {l : List ACd} (hcut : cutA k ac = some (l, r)) {s s' : Lit} {nm : Nms} (hend : endsX .nrm nm s' (runL P E T n l s.frame s.hp) = true) (hr : Ren ρ ρ' nm)
    {w0 : World} {Post : Exit → Act → World → Prop} (hrest : Tri P N r (At w0 N ρ' s') Post) : Tri P N ac (At w0 N ρ s) Post := by
  obtain ⟨m, hm⟩ := endsX_ok hend
  exact Tri.pre_run hcode he hcut hm hr hrest
end
end Go.Proofs.YtjnfgapfhpihmaaGreat
end
section
set_option maxRecDepth 100000
namespace Go.Proofs.YtjnfgapfhpihmaaGreat
open Go.RowKit
structure Cs where
  n : Nat
  k : Nat
  q : Nat
  p : Nat
  kd : Nat
  st : Nat
noncomputable def upN {α : Type} (f : Nat → α) (n : Nat) : List α := @Nat.rec (fun _ => List α) [] (fun i ih => ih ++ [f i]) n
noncomputable def upC {α : Type} (f : Nat → List α) (n : Nat) : List α := @Nat.rec (fun _ => List α) [] (fun i ih => ih ++ f i) n
def nX (i : Nat) : Nm := .v (Nat.add 100 i)
def nV (i : Nat) : Nm := .v (Nat.add 110 i)
def nC (i : Nat) : Nm := .v (Nat.add 120 i)
def nD (i : Nat) : Nm := .v (Nat.add 130 i)
def num (n : Nat) : Nm := .num (.ofNat n)
def bN (k : D16) : Bid := ⟨.x0, .x0, k⟩
def i6 (n : Nat) : AC := .i .i64 (.ofNat n)
def s6 (t : Nm) : AC := .si .i64 t
noncomputable def frmC (k q : Nat) : List AC := bif Nat.beq k 2 then pgA (i6 q) (s6 (.v 3)) (.b true) (.ss (.v 10)) ++ [.b true, s6 (.v 5), .b true] else pgA (i6 q) (s6 (nX q)) (.sb (nC q)) (.ss (nD q)) ++ [.b false, i6 0, .b true]
noncomputable def kerC (n k : Nat) : List AC := [i6 n, i6 2, i6 1, .ds shE (.v 0), s6 (.v 4), i6 1, bif Nat.beq k 0 then .sn else .su (bN .x2) 0 1 1 37, i6 0, .ds shG (.v 7), .ds shG (.v 11), .su (bN .x3) 0 1 1 6, .su (bN .x4) 0 n n 3, .sn]
noncomputable def headS (n k q : Nat) : Lit := ⟨[(.x0, .x5, .c (.p (bN .x0) 0)), (.x0, .x6, .c (i6 n)), (.x0, .x7, .c (.p (bN .x1) 0)), (.x0, .x9, .c (i6 1)), (.x0, .xb, .c (.su (bN .x6) 0 n n 1))],
  [(bN .x0, .cells [.ds shB (.v 50), s6 (.v 8)]), (bN .x1, .cells (kerC n k ++ [.su (bN .x5) 0 n n 1, s6 (.v 6), .sn, .b false, .sn])), (bN .x3, .cells [i6 1, i6 1, s6 (.v 2), i6 0, .ds shI (.v 1), .sn]),
    (bN .x4, .cells (upC (fun i => [s6 (nX i), i6 0, i6 0]) n)), (bN .x5, .cells (upN (fun i => .ss (nV i)) n)), (bN .x6, .cells (upN (fun i => .ss (bif Nat.beq k 2 && Nat.beq i q then .v 10 else nD i)) n))] ++ (bif Nat.beq k 0 then [] else [(bN .x2, .cells (frmC k q))]), bN .x7⟩
def Cs.ev (c : Cs) : Bool := Nat.beq c.k 2 && !Nat.beq c.q c.p
def Cs.same (c : Cs) : Bool := Nat.blt 0 c.k && Nat.beq c.q c.p
def Cs.own (c : Cs) : Bool := Nat.beq c.k 2 && Nat.beq c.q c.p
def Cs.rd (c : Cs) : Bool := Nat.beq c.kd 1 && !c.own
def Cs.wr (c : Cs) : Bool := Nat.beq c.kd 0
def subC (p st : Nat) : AC → AC
  | .sb t => bif decide (t = nC p) then .b (Nat.beq st 1) else .sb t
  | .ss t => bif Nat.beq st 0 && decide (t = nD p) then .s [] else .ss t
  | c => c
noncomputable def hs (c : Cs) : Lit := bif c.rd then (headS c.n c.k c.q).map (subC c.p c.st) else headS c.n c.k c.q
def tT (x : Nat) : Nm := .f1 9 (num x)
def tNo : Nm := .lit []
def lY : Nm := .f1 5 (.v 0)
def plus (t : Nm) (k : Nat) : Nm := .f2 1000 t (num k)
def aT1 : Nm := .f2 4001 (.v 50) (.v 8)
def aT2 : Nm := .f2 4001 (.v 50) aT1
def aT3 : Nm := .f2 4001 (.v 50) aT2
def nxT (a : Nm) (n : Nat) : Nm := .f2 4000 (.v 50) (.f2 2002 a (num n))
def chT : Nm := nxT aT2 26
def dtT : Nm := .f1 10 (plus chT 97)
def rowE (lsn kind tx ptx pp ref pg sl bb bd ab ad : Nm) : Nm := .f2 1410 lsn (.f2 1410 kind (.f2 1410 tx (.f2 1410 ptx (.f2 1410 pp (.f2 1410 ref (.f2 1410 pg (.f2 1410 sl (.f2 1412 bb (.f2 1411 bd (.f2 1412 ab (.f2 1411 ad (.f2 1411 tNo (.f1 8 (num 0))))))))))))))
def Cs.kN (c : Cs) : Nat := bif c.ev then 2 else 1
def Cs.nw (c : Cs) : Nm := plus lY c.kN
def Cs.yT (c : Cs) : Nm := bif c.ev then .f2 1403 (.v 0) (rowE (plus lY 1) (num 7) (num 0) (num 0) (num 0) (.v 3) (num c.q) (num 0) (tT 0) tNo (tT 0) tNo) else .v 0
def Cs.yU (c : Cs) : Nm := bif c.wr then .f2 1403 c.yT (rowE c.nw (num 1) (num 1) (.v 2) (bif c.own then .v 3 else nX c.p) (num 0) (num c.p) (num 7) (bif c.own then tT 1 else nC c.p) (bif c.own then .v 10 else nD c.p) (tT 1) dtT) else c.yT
def Cs.rT (c : Cs) (h : Nm) : Nm := .f2 3200 h (.f2 2002 (num c.p) (num (bif c.wr then 2 else 1)))
def Cs.hT (c : Cs) : Nm := bif c.same then c.rT (.v 7) else c.rT (c.rT (.v 7))
def Cs.enc (c : Cs) : Nm := .f2 3100 (.f2 2002 (.v 3) (num c.q)) (.v 10)
def Cs.cb (c : Cs) (i : Nat) : Nm := bif c.rd && Nat.beq i c.p then tT c.st else nC i
def Cs.cd (c : Cs) (i : Nat) : Nm := bif c.rd && (Nat.beq i c.p && Nat.beq c.st 0) then tNo else nD i
def Cs.vq (c : Cs) (i : Nat) : Bool := c.ev && Nat.beq i c.q
noncomputable def rn (c : Cs) : Rn :=
  ⟨[(2, bif c.wr then c.nw else .v 2), (3, bif c.wr then c.nw else .v 3), (4, bif c.ev then .v 3 else .v 4), (5, bif c.wr && !c.own then c.nw else .v 5), (6, bif c.ev then plus (.v 6) 1 else .v 6), (8, bif c.wr then aT3 else aT2)] ++ upN (fun i => (Nat.add 100 i, bif c.vq i then .v 3 else nX i)) c.n,
   (10, bif c.wr then dtT else .v 10) :: (upN (fun i => (Nat.add 110 i, bif c.vq i then c.enc else nV i)) c.n ++ upN (fun i => (Nat.add 130 i, bif c.vq i then .v 10 else c.cd i)) c.n),
   upN (fun i => (Nat.add 120 i, bif c.vq i then tT 1 else c.cb i)) c.n,
   [(0, c.yU), (1, bif c.wr then .f2 1403 (.v 1) (.f2 1410 c.nw (.f1 8 (num 0))) else .v 1), (7, c.hT), (11, nmNil), (50, .v 50)], []⟩
def fPage (c : Cs) (i : Nat) : List Fc := (bif c.rd && (Nat.beq i c.p && Nat.beq c.st 1) then [.rng (nX i) 1 400, .seq (nD i) tNo false, .rng (.f1 6 (nD i)) 1 1] else [.rng (nX i) 0 400]) ++
  [.dif (nX i) lY (-400) 0, .rng (.f1 6 (nV i)) 256 256, .pr 10 [nV i, num i, nX i, c.cb i, c.cd i], .pr 2 [c.cb i, c.cd i], .pr 13 [nX i, c.cb i, c.cd i]]
def fDirty (c : Cs) : List Fc := [.rng (.v 3) 1 400, .dif (.v 3) lY (-400) 0, .rng (.v 5) 1 400, .dif (.v 5) (.v 3) (-400) 0, .rng (.f1 6 (.v 10)) 1 1, .seq (.v 10) tNo false, .dif (nX c.q) (.v 3) (-400) 0, .dif (.v 4) (.v 3) (-400) (-1), .rng (.f1 6 c.enc) 256 256]
def fRound (c : Cs) : List Fc := [.rng (.f2 1 (.f1 5 (.v 50)) (.v 8)) 1 200, .rng aT1 0 200, .rng aT2 0 200, .rng (nxT (.v 8) c.n) (.ofNat c.p) (.ofNat c.p), .rng (nxT aT1 2) (.ofNat c.kd) (.ofNat c.kd), .pr 11 [c.rT (.v 7), num c.n], .pr 11 [c.rT (c.rT (.v 7)), num c.n], .pr 1 [c.yT]] ++
  (bif c.wr then [.rng chT 0 25, .rng (.f1 6 dtT) 1 1] else [])
noncomputable def fHead (c : Cs) : List Fc := [.rng lY 0 400, .rng (.v 2) 0 400, .rng (.f1 5 (.v 1)) 0 400, .dif (.v 2) lY (-400) 0, .dif (.f1 5 (.v 1)) lY (-400) 0, .rng (.v 4) 0 400, .dif (.v 4) lY (-400) 0, .rng (.v 6) 0 400, .rng (.f1 5 (.v 11)) 0 0, .rng (.f1 5 (.v 7)) 0 (.ofNat c.n), .pr 1 [.v 0], .pr 3 [.v 1, .v 2], .pr 11 [.v 7, num c.n], .pr 12 [.v 50], .rng (.v 8) 0 200, .rng (.f1 5 (.v 50)) 0 200] ++ (upC (fPage c) c.n ++ (bif Nat.beq c.k 2 then fDirty c else []))
noncomputable def facts (c : Cs) : List Fc := fHead c ++ fRound c
def mBody : ACd := bodyA c3
def mRes : List AR := resA c3
def mX : ACd := cutR 8 mBody
def mLB : ACd := innA (innA (fstA mX))
def mEnd : ACd := sndA mX
theorem mX_eq : mX = .seq (.block (nat_lit 0) (.loop mLB)) mEnd := by kernel_rfl
theorem mCut : cutA 8 mBody = some (cutL 8 mBody, mX) := by kernel_rfl
noncomputable def runC (c : Cs) : Bool := (rn c).ok && endsX .nrm (rn c).nms (headS c.n (bif c.wr then 2 else bif c.own then 2 else 1) c.p) (aev Tryz.prog (envR (facts c)) (tblM (facts c)) (nat_lit 3000) mLB (hs c).frame (hs c).hp)
end Go.Proofs.YtjnfgapfhpihmaaGreat
end
section
set_option maxRecDepth 100000
namespace Go.Proofs.YtjnfgapfhpihmaaGreat
open Go.RowKit
noncomputable def runP (n k q p : Nat) : Bool := runC ⟨n, k, q, p, 0, 0⟩ && (runC ⟨n, k, q, p, 1, 0⟩ && (bif Nat.beq k 2 && Nat.beq q p then true else runC ⟨n, k, q, p, 1, 1⟩))
end Go.Proofs.YtjnfgapfhpihmaaGreat
end
