/-
  KernelPlays: the plain law's structures as rows of plain data, and what leaves say of them. No function of the program is named here.
-/
import Derived.Test.YtgjindhjgmplgaaGreatDpV
import Derived.Test.YtgjindhjgmplgaaGreatKpR
set_option linter.unusedVariables false
set_option linter.unusedSimpArgs false
namespace Go.Proofs.YtgjindhjgmplgaaGreat
open Wp
abbrev shEn : Sh := [.i .i64, .i .i64, .i .i64, .i .i64, .i .i64, .i .i64, .i .i64, .i .i64, .b, .s, .b, .s, .s]
abbrev shG : Sh := [.i .i64, .i .i64, .i .i64, .i .i64]
abbrev shInt : Sh := [.i .i64]
abbrev shTx : Sh := [.i .i64, .i .i64, .i .i64, .i .i64, .sl [.i .i64], .sl [.i .i64]]
abbrev shRw : Sh := [.i .i64, .i .i64, .i .i64]
abbrev shPg : Sh := [.i .i64, .i .i64, .b, .s, .b, .s, .b, .s, .b, .s, .b, .s, .b, .s, .b, .s, .b, .s, .b, .s, .b, .s, .b, .s, .b, .s, .b, .s, .b, .s, .b, .s, .b, .s]
abbrev shFr : Sh := [.i .i64, .i .i64, .b, .s, .b, .s, .b, .s, .b, .s, .b, .s, .b, .s, .b, .s, .b, .s, .b, .s, .b, .s, .b, .s, .b, .s, .b, .s, .b, .s, .b, .s, .b, .s, .b, .i .i64, .b]
abbrev shLog : Sh := [.i .i64, .sl shEn, .i .i64]
abbrev shPool : Sh := [.i .i64, .sl shFr, .i .i64]
abbrev shLk : Sh := [.sl shG, .sl shG]
abbrev shK : Sh := [.i .i64, .i .i64, .i .i64, .sl shEn, .i .i64, .i .i64, .sl shFr, .i .i64, .sl shG, .sl shG, .sl shTx, .sl shRw, .sl shRw]
def lpI (t : Nat) : LK := .e Nat (fun j => [(t, .c (.i .i64 (Int.ofNat j)))]) (fun _ => []) 0 []
def gR (g : G) : Row := [.i g.tx, .i g.page, .i g.slot, .i g.mode]
def enR (n : Int) (e : En) : Row := [.i n, .i e.kind, .i e.tx, .i e.ptx, .i e.pp, .i e.ref, .i e.page, .i e.slot, .b e.b.1, .s e.b.2, .b e.a.1, .s e.a.2, .s ⟨#[]⟩]
def rwR (r : Int) : Row := [.i r, .i 0, .i 0]
def i1R (r : Int) : Row := [.i r]
def clA (c : List Cl) (i : Nat) : Cl := c.getD i noCl
def pgR (p : Pg) : Row := [.i p.id, .i p.lsn, .b (clA p.cells 0).1, .s (clA p.cells 0).2, .b (clA p.cells 1).1, .s (clA p.cells 1).2, .b (clA p.cells 2).1, .s (clA p.cells 2).2, .b (clA p.cells 3).1, .s (clA p.cells 3).2,
  .b (clA p.cells 4).1, .s (clA p.cells 4).2, .b (clA p.cells 5).1, .s (clA p.cells 5).2, .b (clA p.cells 6).1, .s (clA p.cells 6).2, .b (clA p.cells 7).1, .s (clA p.cells 7).2, .b (clA p.cells 8).1, .s (clA p.cells 8).2,
  .b (clA p.cells 9).1, .s (clA p.cells 9).2, .b (clA p.cells 10).1, .s (clA p.cells 10).2, .b (clA p.cells 11).1, .s (clA p.cells 11).2, .b (clA p.cells 12).1, .s (clA p.cells 12).2, .b (clA p.cells 13).1, .s (clA p.cells 13).2,
  .b (clA p.cells 14).1, .s (clA p.cells 14).2, .b (clA p.cells 15).1, .s (clA p.cells 15).2]
def frR (f : Fr) : Row := [.i f.pg.id, .i f.pg.lsn, .b (clA f.pg.cells 0).1, .s (clA f.pg.cells 0).2, .b (clA f.pg.cells 1).1, .s (clA f.pg.cells 1).2, .b (clA f.pg.cells 2).1, .s (clA f.pg.cells 2).2, .b (clA f.pg.cells 3).1, .s (clA f.pg.cells 3).2,
  .b (clA f.pg.cells 4).1, .s (clA f.pg.cells 4).2, .b (clA f.pg.cells 5).1, .s (clA f.pg.cells 5).2, .b (clA f.pg.cells 6).1, .s (clA f.pg.cells 6).2, .b (clA f.pg.cells 7).1, .s (clA f.pg.cells 7).2, .b (clA f.pg.cells 8).1, .s (clA f.pg.cells 8).2,
  .b (clA f.pg.cells 9).1, .s (clA f.pg.cells 9).2, .b (clA f.pg.cells 10).1, .s (clA f.pg.cells 10).2, .b (clA f.pg.cells 11).1, .s (clA f.pg.cells 11).2, .b (clA f.pg.cells 12).1, .s (clA f.pg.cells 12).2, .b (clA f.pg.cells 13).1, .s (clA f.pg.cells 13).2,
  .b (clA f.pg.cells 14).1, .s (clA f.pg.cells 14).2, .b (clA f.pg.cells 15).1, .s (clA f.pg.cells 15).2, .b f.dirty, .i f.rec_, .b f.used]
def gsR (l : List G) : List Row := l.map gR
def isR (l : List Int) : List Row := l.map i1R
def frsR (l : List Fr) : List Row := l.map frR
def rwsR (l : List Int) : List Row := l.map rwR
def ensF : Int → List En → List Row
  | _, [] => []
  | n, e :: l => enR (n + 1) e :: ensF (n + 1) l
def ensR (l : List En) : List Row := ensF 0 l
def txR (t : TxR) : Row := [.i t.id, .i t.state, .i t.last, .i 0, .sl (isR t.pend), .sl (isR t.saves)]
def txsR (l : List TxR) : List Row := l.map txR
def logR (l : List En) (dur : Int) : Row := [.i 1, .sl (ensR l), .i dur]
def poolR (size : Int) (fs : List Fr) (hand : Int) : Row := [.i size, .sl (frsR fs), .i hand]
def lkR (hs ws : List G) : Row := [.sl (gsR hs), .sl (gsR ws)]
def kR (k : KV) : Row := [.i 3, .i (k.n + 1), .i 1, .sl (ensR k.l), .i k.dur, .i k.size, .sl (frsR k.fs), .i k.hand, .sl (gsR k.hs), .sl (gsR k.ws), .sl (txsR k.ts), .sl (rwsR k.rows), .sl []]
theorem map_at {α : Type} {f : α → Row} {l : List α} {j : Nat} {x : α} (h : l[j]? = some x) : rw' (l.map f) j = f x := by
  unfold rw'
  rw [List.getD_eq_getElem?_getD, List.getElem?_map, h]
  rfl
theorem gs_at {l : List G} {j : Nat} {x : G} (h : l[j]? = some x) : rw' (gsR l) j = gR x := map_at h
theorem is_at {l : List Int} {j : Nat} {x : Int} (h : l[j]? = some x) : rw' (isR l) j = i1R x := map_at h
theorem frs_at {l : List Fr} {j : Nat} {x : Fr} (h : l[j]? = some x) : rw' (frsR l) j = frR x := map_at h
theorem rws_at {l : List Int} {j : Nat} {x : Int} (h : l[j]? = some x) : rw' (rwsR l) j = rwR x := map_at h
theorem txs_at {l : List TxR} {j : Nat} {x : TxR} (h : l[j]? = some x) : rw' (txsR l) j = txR x := map_at h
theorem ensF_at : ∀ {l : List En} {n : Int} {j : Nat} {x : En}, l[j]? = some x → (ensF n l)[j]? = some (enR (n + j + 1) x)
  | y :: l, n, 0, x, h => by
    simp only [List.getElem?_cons_zero, Option.some.injEq] at h
    subst h
    simp [ensF]
  | y :: l, n, j + 1, x, h => by
    simp only [List.getElem?_cons_succ] at h
    have := ensF_at (n := n + 1) h
    rw [ensF, List.getElem?_cons_succ, this, show n + 1 + (j : Int) + 1 = n + ((j + 1 : Nat) : Int) + 1 by omega]
theorem ens_at {l : List En} {j : Nat} {x : En} (h : l[j]? = some x) : rw' (ensR l) j = enR (j + 1) x := by
  unfold rw' ensR
  rw [List.getD_eq_getElem?_getD, ensF_at h, Int.zero_add]
  rfl
theorem gs_len (l : List G) : (gsR l).length = l.length := List.length_map ..
theorem is_len (l : List Int) : (isR l).length = l.length := List.length_map ..
theorem frs_len (l : List Fr) : (frsR l).length = l.length := List.length_map ..
theorem rws_len (l : List Int) : (rwsR l).length = l.length := List.length_map ..
theorem txs_len (l : List TxR) : (txsR l).length = l.length := List.length_map ..
theorem ensF_len : ∀ (l : List En) (n : Int), (ensF n l).length = l.length
  | [], _ => rfl
  | _ :: l, n => by rw [ensF, List.length_cons, List.length_cons, ensF_len l]
theorem ens_len (l : List En) : (ensR l).length = l.length := ensF_len l 0
theorem ln_gs (l : List G) : ln (gsR l) = l.length := by unfold ln; rw [gs_len]
theorem ln_is (l : List Int) : ln (isR l) = l.length := by unfold ln; rw [is_len]
theorem ln_frs (l : List Fr) : ln (frsR l) = l.length := by unfold ln; rw [frs_len]
theorem ln_rws (l : List Int) : ln (rwsR l) = l.length := by unfold ln; rw [rws_len]
theorem ln_txs (l : List TxR) : ln (txsR l) = l.length := by unfold ln; rw [txs_len]
theorem ln_ens (l : List En) : ln (ensR l) = l.length := by unfold ln; rw [ens_len]
theorem ensF_app : ∀ (l m : List En) (n : Int), ensF n (l ++ m) = ensF n l ++ ensF (n + l.length) m
  | [], m, n => by simp [ensF]
  | e :: l, m, n => by
    rw [List.cons_append, ensF, ensF, ensF_app l m, List.cons_append, List.length_cons, show n + 1 + (l.length : Int) = n + ((l.length + 1 : Nat) : Int) by omega]
theorem ens_snoc (l : List En) (e : En) : ensR (l ++ [e]) = ensR l ++ [enR (l.length + 1) e] := by
  unfold ensR
  rw [ensF_app]
  simp [ensF]
theorem wr64 {n : Int} (h0 : -9223372036854775808 ≤ n) (h1 : n ≤ 9223372036854775807) : wr .i64 n = n := wr_id h0 h1
theorem tn_ofNat (n : Nat) : tn (Int.ofNat n) = n := rfl
theorem tn_cast (n : Nat) : tn (n : Int) = n := rfl
theorem at_lt {α : Type} {l : List α} {j : Nat} (h : j < l.length) : ∃ x, l[j]? = some x := ⟨l[j], List.getElem?_eq_getElem h⟩
theorem range_e {n : Nat} {c : Int} (hc : c = n) {Inv : Nat → Prop} {X : Prop} (hX : X) (hl : n ≤ 1048576) (h0 : Inv 0) {Body : Nat → Prop} {B : Prop}
    (hs : ∀ (i : Nat), i < n → Inv i → (Inv (i + 1) → ∃ j', (j' ≤ n ∧ Inv j') ∧ lessN (n - j') (n - i) ∧ (wr .i64 (xadd (Int.ofNat i) 1) = Int.ofNat j' ∧ True) ∧ X ∧ True) → Body i) (he : Inv n → B) :
    (∃ j, (j ≤ n ∧ Inv j) ∧ (0 = Int.ofNat j ∧ True) ∧ X ∧ True) ∧ ∀ j, j ≤ n ∧ Inv j → fk (ilt (Int.ofNat j) c) (fk (inR (Int.ofNat j) c) (Body j) False) B := by
  subst hc
  refine ⟨⟨0, ⟨Nat.zero_le _, h0⟩, ⟨rfl, trivial⟩, hX, trivial⟩, fun j hj => fk_of (fun e => ?_) fun e => ?_⟩
  · have hlt : j < n := by have := ilt_t e; simpa using this
    refine fk_of (fun _ => hs j hlt hj.2 fun hi => ?_) fun e => ?_
    · refine ⟨j + 1, ⟨hlt, hi⟩, ?_, ⟨?_, trivial⟩, hX, trivial⟩
      · show n - (j + 1) < n - j
        omega
      · have h : wr .i64 ((j : Int) + 1) = (j : Int) + 1 := wr_id (by omega) (by omega)
        exact h
    · have := inR_f e; simp at this; omega
  · have hle := ilt_f e
    have h1 := hj.1
    have : j = n := by simp at hle; omega
    exact he (this ▸ hj.2)
theorem ilt_T (a b : Int) : (ilt a b = true) = (a < b) := propext decide_eq_true_iff
theorem ilt_F (a b : Int) : (ilt a b = false) = (b ≤ a) := by unfold ilt; rw [decide_eq_false_iff_not, Int.not_lt]
theorem ile_T (a b : Int) : (ile a b = true) = (a ≤ b) := propext decide_eq_true_iff
theorem ile_F (a b : Int) : (ile a b = false) = (b < a) := by unfold ile; rw [decide_eq_false_iff_not, Int.not_le]
theorem ieq_T (a b : Int) : (ieq a b = true) = (a = b) := propext decide_eq_true_iff
theorem ieq_F (a b : Int) : (ieq a b = false) = (a ≠ b) := by unfold ieq; rw [decide_eq_false_iff_not]
theorem nt_T (a : Bool) : (nt a = true) = (a = false) := by cases a <;> simp [nt]
theorem nt_F (a : Bool) : (nt a = false) = (a = true) := by cases a <;> simp [nt]
theorem an_T (a b : Bool) : (an a b = true) = (a = true ∧ b = true) := by cases a <;> cases b <;> simp [an]
theorem an_F (a b : Bool) : (an a b = false) = (a = false ∨ b = false) := by cases a <;> cases b <;> simp [an]
theorem inR_T (a b : Int) : (inR a b = true) = (0 ≤ a ∧ a < b) := by unfold inR; rw [Bool.and_eq_true, decide_eq_true_eq, decide_eq_true_eq]
theorem inR_F (a b : Int) : (inR a b = false) = (a < 0 ∨ b ≤ a) := by unfold inR; rw [Bool.and_eq_false_iff, decide_eq_false_iff_not, decide_eq_false_iff_not, Int.not_le, Int.not_lt]
theorem seqB_T (a b : ByteArray) : (seqB a b = true) = (a = b) := propext decide_eq_true_iff
theorem beqB_T (a b : Bool) : (beqB a b = true) = (a = b) := propext decide_eq_true_iff
theorem apOk_T (b : Nat) (l m : List Row) : (apOk b l m = true) = (l.length + m.length ≤ 1048576 ∧ (l.length + m.length) * b ≤ 1048576) := by unfold apOk; rw [Bool.and_eq_true, decide_eq_true_eq, decide_eq_true_eq]
theorem nlt_T (i : Nat) (l : List Row) : (nlt i l = true) = (i < l.length) := propext decide_eq_true_iff
theorem band_T (a b : Bool) : ((a && b) = true) = (a = true ∧ b = true) := by rw [Bool.and_eq_true]
theorem lsub_all (l : List Row) : lsub l 0 (ln l) = l := by unfold lsub ln; simp
theorem lsub_len (l : List Row) (b : Int) : (lsub l 0 b).length = min b.toNat l.length := by unfold lsub; simp
theorem lap_len (a b : List Row) : (lap a b).length = a.length + b.length := List.length_append
theorem ln_lap (a b : List Row) : ln (lap a b) = ln a + ln b := by unfold ln; rw [lap_len]; simp
theorem ln_nil : ln [] = 0 := rfl
theorem ln_cons (r : Row) (l : List Row) : ln (r :: l) = ln l + 1 := by unfold ln; simp
theorem ofN (n : Nat) : Int.ofNat n = (n : Int) := rfl
theorem enR_0 (n : Int) (e : En) : ri (enR n e) 0 = n := rfl
theorem enR_1 (n : Int) (e : En) : ri (enR n e) 1 = e.kind := rfl
theorem enR_2 (n : Int) (e : En) : ri (enR n e) 2 = e.tx := rfl
theorem enR_3 (n : Int) (e : En) : ri (enR n e) 3 = e.ptx := rfl
theorem enR_4 (n : Int) (e : En) : ri (enR n e) 4 = e.pp := rfl
theorem enR_5 (n : Int) (e : En) : ri (enR n e) 5 = e.ref := rfl
theorem enR_6 (n : Int) (e : En) : ri (enR n e) 6 = e.page := rfl
theorem enR_7 (n : Int) (e : En) : ri (enR n e) 7 = e.slot := rfl
theorem enR_8 (n : Int) (e : En) : rb (enR n e) 8 = e.b.1 := rfl
theorem enR_9 (n : Int) (e : En) : rs (enR n e) 9 = e.b.2 := rfl
theorem enR_10 (n : Int) (e : En) : rb (enR n e) 10 = e.a.1 := rfl
theorem enR_11 (n : Int) (e : En) : rs (enR n e) 11 = e.a.2 := rfl
theorem enR_12 (n : Int) (e : En) : rs (enR n e) 12 = ⟨#[]⟩ := rfl
theorem gR_0 (g : G) : ri (gR g) 0 = g.tx := rfl
theorem gR_1 (g : G) : ri (gR g) 1 = g.page := rfl
theorem gR_2 (g : G) : ri (gR g) 2 = g.slot := rfl
theorem gR_3 (g : G) : ri (gR g) 3 = g.mode := rfl
theorem rwR_0 (r : Int) : ri (rwR r) 0 = r := rfl
theorem rwR_1 (r : Int) : ri (rwR r) 1 = 0 := rfl
theorem rwR_2 (r : Int) : ri (rwR r) 2 = 0 := rfl
theorem i1R_0 (r : Int) : ri (i1R r) 0 = r := rfl
theorem txR_0 (t : TxR) : ri (txR t) 0 = t.id := rfl
theorem txR_1 (t : TxR) : ri (txR t) 1 = t.state := rfl
theorem txR_2 (t : TxR) : ri (txR t) 2 = t.last := rfl
theorem txR_3 (t : TxR) : ri (txR t) 3 = 0 := rfl
theorem txR_4 (t : TxR) : rl (txR t) 4 = isR t.pend := rfl
theorem txR_5 (t : TxR) : rl (txR t) 5 = isR t.saves := rfl
theorem frR_0 (f : Fr) : ri (frR f) 0 = f.pg.id := rfl
theorem frR_1 (f : Fr) : ri (frR f) 1 = f.pg.lsn := rfl
theorem frR_34 (f : Fr) : rb (frR f) 34 = f.dirty := rfl
theorem frR_35 (f : Fr) : ri (frR f) 35 = f.rec_ := rfl
theorem frR_36 (f : Fr) : rb (frR f) 36 = f.used := rfl
theorem pgR_0 (p : Pg) : ri (pgR p) 0 = p.id := rfl
theorem pgR_1 (p : Pg) : ri (pgR p) 1 = p.lsn := rfl
theorem fk_and {c x : Bool} {k : KVk} : fk c (k (.c (.b x)) [] 0) (k (.c (.b false)) [] 0) = k (.c (.b (c && x))) [] 0 := by cases c <;> rfl
theorem fk_or {c x : Bool} {k : KVk} : fk c (k (.c (.b true)) [] 0) (k (.c (.b x)) [] 0) = k (.c (.b (c || x))) [] 0 := by cases c <;> rfl
theorem map_sub {α : Type} {f : α → Row} (l : List α) (j : Nat) : lsub (l.map f) 0 (Int.ofNat j) = (l.take j).map f := by
  unfold lsub
  rw [List.map_take]
  rfl
theorem gs_sub (l : List G) (j : Nat) : lsub (gsR l) 0 (Int.ofNat j) = gsR (l.take j) := map_sub l j
theorem FS : type_of% (And.intro @lsub_len <| And.intro @apOk_T <| And.intro @nlt_T <| And.intro @band_T <| And.intro @lsub_all <| And.intro @lap_len <| And.intro @ln_lap <| And.intro @ln_nil <| And.intro @ln_cons <| And.intro @tn_cast <| And.intro @tn_ofNat <| And.intro @ilt_T <| And.intro @ilt_F <| And.intro @ile_T <| And.intro @ile_F <| And.intro @ieq_T <| And.intro @ieq_F <| And.intro @nt_T <| And.intro @nt_F <| And.intro @an_T <| And.intro @an_F <| And.intro @inR_T <| And.intro @inR_F <| And.intro @wr64 <| And.intro @ln_gs <| And.intro @ln_is <| And.intro @ln_frs <| And.intro @ln_rws <| And.intro @ln_txs <| And.intro @ln_ens <| And.intro @gs_len <| And.intro @is_len <| And.intro @frs_len <| And.intro @rws_len <| And.intro @txs_len <| And.intro @ens_len <| And.intro @ofN <| And.intro @enR_0 <| And.intro @enR_1 <| And.intro @enR_2 <| And.intro @enR_3 <| And.intro @enR_4 <| And.intro @enR_5 <| And.intro @enR_6 <| And.intro @enR_7 <| And.intro @enR_8 <| And.intro @enR_9 <| And.intro @enR_10 <| And.intro @enR_11 <| And.intro @enR_12 <| And.intro @gR_0 <| And.intro @gR_1 <| And.intro @gR_2 <| And.intro @gR_3 <| And.intro @rwR_0 <| And.intro @rwR_1 <| And.intro @rwR_2 <| And.intro @i1R_0 <| And.intro @txR_0 <| And.intro @txR_1 <| And.intro @txR_2 <| And.intro @txR_3 <| And.intro @txR_4 <| And.intro @txR_5 <| And.intro @frR_0 <| And.intro @frR_1 <| And.intro @frR_34 <| And.intro @frR_35 <| And.intro @frR_36 <| And.intro @pgR_0 <| @pgR_1) := And.intro @lsub_len <| And.intro @apOk_T <| And.intro @nlt_T <| And.intro @band_T <| And.intro @lsub_all <| And.intro @lap_len <| And.intro @ln_lap <| And.intro @ln_nil <| And.intro @ln_cons <| And.intro @tn_cast <| And.intro @tn_ofNat <| And.intro @ilt_T <| And.intro @ilt_F <| And.intro @ile_T <| And.intro @ile_F <| And.intro @ieq_T <| And.intro @ieq_F <| And.intro @nt_T <| And.intro @nt_F <| And.intro @an_T <| And.intro @an_F <| And.intro @inR_T <| And.intro @inR_F <| And.intro @wr64 <| And.intro @ln_gs <| And.intro @ln_is <| And.intro @ln_frs <| And.intro @ln_rws <| And.intro @ln_txs <| And.intro @ln_ens <| And.intro @gs_len <| And.intro @is_len <| And.intro @frs_len <| And.intro @rws_len <| And.intro @txs_len <| And.intro @ens_len <| And.intro @ofN <| And.intro @enR_0 <| And.intro @enR_1 <| And.intro @enR_2 <| And.intro @enR_3 <| And.intro @enR_4 <| And.intro @enR_5 <| And.intro @enR_6 <| And.intro @enR_7 <| And.intro @enR_8 <| And.intro @enR_9 <| And.intro @enR_10 <| And.intro @enR_11 <| And.intro @enR_12 <| And.intro @gR_0 <| And.intro @gR_1 <| And.intro @gR_2 <| And.intro @gR_3 <| And.intro @rwR_0 <| And.intro @rwR_1 <| And.intro @rwR_2 <| And.intro @i1R_0 <| And.intro @txR_0 <| And.intro @txR_1 <| And.intro @txR_2 <| And.intro @txR_3 <| And.intro @txR_4 <| And.intro @txR_5 <| And.intro @frR_0 <| And.intro @frR_1 <| And.intro @frR_34 <| And.intro @frR_35 <| And.intro @frR_36 <| And.intro @pgR_0 <| @pgR_1
end Go.Proofs.YtgjindhjgmplgaaGreat
