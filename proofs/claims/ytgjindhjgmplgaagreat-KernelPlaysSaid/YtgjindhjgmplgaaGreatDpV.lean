/-
  Deep values: contracts of slices.Clone, slices.Delete, slices.Insert. No function of the program is named here.
-/
import Derived.Test.YtgjindhjgmplgaaGreatDpR
set_option linter.unusedVariables false
set_option linter.unusedSimpArgs false
section
namespace Go.Proofs.YtgjindhjgmplgaaGreat
def delVC (e : Sh) (by_ : Nat) (zr : Row) (gs : List Row) (i j : Int) (k : KVk) : Prop :=
  ∀ (c : Int), ile (ln gs) c = true → fk (an (ile 0 i) (an (ile i j) (an (ile j (ln gs)) (ile (ln gs) (xsub (jcap (jof gs c)) 0))))) (fk (ieq i j) (fk (jok (jof gs c) 0 (ln gs)) (k (.c (.ow 0)) [(0, .W e (jsub (jof gs c)
  0 (ln gs)))] 1) False) (fk (an true (an (ile 0 i) (ile i (xsub (jcap (jof gs c)) 0)))) (fk (an (ile 0 j) (an (ile j (xsub (ln gs) 0)) (ile (xsub (ln gs) 0) (xsub (jcap (jof gs c)) 0)))) (fk (jok (jof gs c) (xadd 0 j)
  (xadd 0 (xsub (ln gs) 0))) (fk (ile (xadd (xadd 0 i) (ln (jsub (jof gs c) (xadd 0 j) (xadd 0 (xsub (ln gs) 0))))) (jcap (jof gs c))) (fk (an (ile 0 (xsub (xadd (xadd 0 i) (ln (jsub (jof gs c) (xadd 0 j) (xadd 0 (xsub
  (ln gs) 0))))) 0)) (an (ile (xsub (xadd (xadd 0 i) (ln (jsub (jof gs c) (xadd 0 j) (xadd 0 (xsub (ln gs) 0))))) 0) (xsub (ln gs) 0)) (ile (xsub (ln gs) 0) (xsub (jcap (jput (jof gs c) (xadd 0 i) (jsub (jof gs c) (xadd
  0 j) (xadd 0 (xsub (ln gs) 0))))) 0)))) (fk (jok (jput (jput (jof gs c) (xadd 0 i) (jsub (jof gs c) (xadd 0 j) (xadd 0 (xsub (ln gs) 0)))) (xadd 0 (xsub (xadd (xadd 0 i) (ln (jsub (jof gs c) (xadd 0 j) (xadd 0 (xsub
  (ln gs) 0))))) 0)) (lrep (xsub (xadd 0 (xsub (ln gs) 0)) (xadd 0 (xsub (xadd (xadd 0 i) (ln (jsub (jof gs c) (xadd 0 j) (xadd 0 (xsub (ln gs) 0))))) 0))) zr)) 0 (xadd (xadd 0 i) (ln (jsub (jof gs c) (xadd 0 j) (xadd 0
  (xsub (ln gs) 0)))))) (fk (ilt 0 (jcap (jput (jput (jof gs c) (xadd 0 i) (jsub (jof gs c) (xadd 0 j) (xadd 0 (xsub (ln gs) 0)))) (xadd 0 (xsub (xadd (xadd 0 i) (ln (jsub (jof gs c) (xadd 0 j) (xadd 0 (xsub (ln gs)
  0))))) 0)) (lrep (xsub (xadd 0 (xsub (ln gs) 0)) (xadd 0 (xsub (xadd (xadd 0 i) (ln (jsub (jof gs c) (xadd 0 j) (xadd 0 (xsub (ln gs) 0))))) 0))) zr)))) (k (.c (.ow 1)) [(1, .W e (jsub (jput (jput (jof gs c) (xadd 0 i)
  (jsub (jof gs c) (xadd 0 j) (xadd 0 (xsub (ln gs) 0)))) (xadd 0 (xsub (xadd (xadd 0 i) (ln (jsub (jof gs c) (xadd 0 j) (xadd 0 (xsub (ln gs) 0))))) 0)) (lrep (xsub (xadd 0 (xsub (ln gs) 0)) (xadd 0 (xsub (xadd (xadd 0
  i) (ln (jsub (jof gs c) (xadd 0 j) (xadd 0 (xsub (ln gs) 0))))) 0))) zr)) 0 (xadd (xadd 0 i) (ln (jsub (jof gs c) (xadd 0 j) (xadd 0 (xsub (ln gs) 0)))))))] 2) False) False) False) (fk (jok (jof gs c) 0 (xadd 0 i) &&
  apOk by_ (jsub (jof gs c) 0 (xadd 0 i)) (jsub (jof gs c) (xadd 0 j) (xadd 0 (xsub (ln gs) 0)))) (∀ (c_1 : Int), ile (ln (lap (jsub (jof gs c) 0 (xadd 0 i)) (jsub (jof gs c) (xadd 0 j) (xadd 0 (xsub (ln gs) 0))))) c_1 =
  true → fk (an (ile 0 (ln (lap (jsub (jof gs c) 0 (xadd 0 i)) (jsub (jof gs c) (xadd 0 j) (xadd 0 (xsub (ln gs) 0)))))) (an (ile (ln (lap (jsub (jof gs c) 0 (xadd 0 i)) (jsub (jof gs c) (xadd 0 j) (xadd 0 (xsub (ln gs)
  0))))) (xsub (ln gs) 0)) (ile (xsub (ln gs) 0) (xsub (jcap (jof (lap (jsub (jof gs c) 0 (xadd 0 i)) (jsub (jof gs c) (xadd 0 j) (xadd 0 (xsub (ln gs) 0)))) c_1)) 0)))) (fk (jok (jput (jof (lap (jsub (jof gs c) 0 (xadd
  0 i)) (jsub (jof gs c) (xadd 0 j) (xadd 0 (xsub (ln gs) 0)))) c_1) (xadd 0 (ln (lap (jsub (jof gs c) 0 (xadd 0 i)) (jsub (jof gs c) (xadd 0 j) (xadd 0 (xsub (ln gs) 0)))))) (lrep (xsub (xadd 0 (xsub (ln gs) 0)) (xadd 0
  (ln (lap (jsub (jof gs c) 0 (xadd 0 i)) (jsub (jof gs c) (xadd 0 j) (xadd 0 (xsub (ln gs) 0))))))) zr)) 0 (ln (lap (jsub (jof gs c) 0 (xadd 0 i)) (jsub (jof gs c) (xadd 0 j) (xadd 0 (xsub (ln gs) 0)))))) (k (.c (.ow
  1)) [(1, .W e (jsub (jput (jof (lap (jsub (jof gs c) 0 (xadd 0 i)) (jsub (jof gs c) (xadd 0 j) (xadd 0 (xsub (ln gs) 0)))) c_1) (xadd 0 (ln (lap (jsub (jof gs c) 0 (xadd 0 i)) (jsub (jof gs c) (xadd 0 j) (xadd 0 (xsub
  (ln gs) 0)))))) (lrep (xsub (xadd 0 (xsub (ln gs) 0)) (xadd 0 (ln (lap (jsub (jof gs c) 0 (xadd 0 i)) (jsub (jof gs c) (xadd 0 j) (xadd 0 (xsub (ln gs) 0))))))) zr)) 0 (ln (lap (jsub (jof gs c) 0 (xadd 0 i)) (jsub (jof
  gs c) (xadd 0 j) (xadd 0 (xsub (ln gs) 0))))))), (0, .J e (ln gs) (jof gs c))] 2) False) False) False)) False) False) False)) False
def insVC (e : Sh) (by_ : Nat) (zr : Row) (gs : List Row) (i : Int) (g : Row) (k : KVk) : Prop :=
  ∀ (c : Int), ile (ln gs) c = true → fk (an (ile 0 i) (an (ile i (xsub (ln gs) 0)) (ile (xsub (ln gs) 0) (xsub (jcap (jof gs c)) 0)))) (fk (ieq (ln [g]) 0) (fk (jok (jof gs c) 0 (ln gs)) (k (.c (.ow 0)) [(0, .W e (jsub
  (jof gs c) 0 (ln gs))), (1, .W e [g])] 2) False) (fk (ieq i (xsub (ln gs) 0)) (fk (ile (xadd (ln gs) (ln [g])) (jcap (jof gs c))) (fk (jok (jput (jof gs c) (ln gs) [g]) 0 (xadd (ln gs) (ln [g]))) (fk (ilt 0 (jcap (jput
  (jof gs c) (ln gs) [g]))) (k (.c (.ow 2)) [(2, .W e (jsub (jput (jof gs c) (ln gs) [g]) 0 (xadd (ln gs) (ln [g])))), (1, .W e [g])] 3) False) False) (fk (jok (jof gs c) 0 (ln gs) && apOk by_ (jsub (jof gs c) 0 (ln gs))
  [g]) (k (.c (.ow 2)) [(2, .W e (lap (jsub (jof gs c) 0 (ln gs)) [g])), (0, .J e (ln gs) (jof gs c)), (1, .W e [g])] 3) False)) (fk (ilt (xsub (jcap (jof gs c)) 0) (wr .i64 (xadd (xsub (ln gs) 0) (ln [g])))) (fk (an
  true (an (ile 0 i) (ile i (xsub (jcap (jof gs c)) 0)))) (fk (an true (ile 0 (wr .i64 (xsub (wr .i64 (xadd (xsub (ln gs) 0) (ln [g]))) i)))) (fk (ile (xadd (xadd 0 i) (wr .i64 (xsub (wr .i64 (xadd (xsub (ln gs) 0) (ln
  [g]))) i))) (jcap (jof gs c))) False (fk (jok (jof gs c) 0 (xadd 0 i) && apOk by_ (jsub (jof gs c) 0 (xadd 0 i)) (lrep (wr .i64 (xsub (wr .i64 (xadd (xsub (ln gs) 0) (ln [g]))) i)) zr)) (∀ (c_1 : Int), ile (ln (lap
  (jsub (jof gs c) 0 (xadd 0 i)) (lrep (wr .i64 (xsub (wr .i64 (xadd (xsub (ln gs) 0) (ln [g]))) i)) zr))) c_1 = true → fk (an (ile 0 i) (an (ile i (xsub (ln (lap (jsub (jof gs c) 0 (xadd 0 i)) (lrep (wr .i64 (xsub (wr
  .i64 (xadd (xsub (ln gs) 0) (ln [g]))) i)) zr))) 0)) (ile (xsub (ln (lap (jsub (jof gs c) 0 (xadd 0 i)) (lrep (wr .i64 (xsub (wr .i64 (xadd (xsub (ln gs) 0) (ln [g]))) i)) zr))) 0) (xsub (jcap (jof (lap (jsub (jof gs
  c) 0 (xadd 0 i)) (lrep (wr .i64 (xsub (wr .i64 (xadd (xsub (ln gs) 0) (ln [g]))) i)) zr)) c_1)) 0)))) (fk (an (ile 0 (wr .i64 (xadd i (ln [g])))) (an (ile (wr .i64 (xadd i (ln [g]))) (xsub (ln (lap (jsub (jof gs c) 0
  (xadd 0 i)) (lrep (wr .i64 (xsub (wr .i64 (xadd (xsub (ln gs) 0) (ln [g]))) i)) zr))) 0)) (ile (xsub (ln (lap (jsub (jof gs c) 0 (xadd 0 i)) (lrep (wr .i64 (xsub (wr .i64 (xadd (xsub (ln gs) 0) (ln [g]))) i)) zr))) 0)
  (xsub (jcap (jput (jof (lap (jsub (jof gs c) 0 (xadd 0 i)) (lrep (wr .i64 (xsub (wr .i64 (xadd (xsub (ln gs) 0) (ln [g]))) i)) zr)) c_1) (xadd 0 i) (ltk [g] (xmin (xsub (xadd 0 (xsub (ln (lap (jsub (jof gs c) 0 (xadd 0
  i)) (lrep (wr .i64 (xsub (wr .i64 (xadd (xsub (ln gs) 0) (ln [g]))) i)) zr))) 0)) (xadd 0 i)) (ln [g]))))) 0)))) (fk (an (ile 0 i) (an (ile i (xsub (ln gs) 0)) (ile (xsub (ln gs) 0) (xsub (jcap (jof gs c)) 0)))) (fk
  (jok (jof gs c) (xadd 0 i) (xadd (xadd 0 i) (xmin (xsub (xadd 0 (xsub (ln (lap (jsub (jof gs c) 0 (xadd 0 i)) (lrep (wr .i64 (xsub (wr .i64 (xadd (xsub (ln gs) 0) (ln [g]))) i)) zr))) 0)) (xadd 0 (wr .i64 (xadd i (ln
  [g]))))) (xsub (xadd 0 (xsub (ln gs) 0)) (xadd 0 i))))) (fk (jok (jput (jput (jof (lap (jsub (jof gs c) 0 (xadd 0 i)) (lrep (wr .i64 (xsub (wr .i64 (xadd (xsub (ln gs) 0) (ln [g]))) i)) zr)) c_1) (xadd 0 i) (ltk [g]
  (xmin (xsub (xadd 0 (xsub (ln (lap (jsub (jof gs c) 0 (xadd 0 i)) (lrep (wr .i64 (xsub (wr .i64 (xadd (xsub (ln gs) 0) (ln [g]))) i)) zr))) 0)) (xadd 0 i)) (ln [g])))) (xadd 0 (wr .i64 (xadd i (ln [g])))) (jsub (jof gs
  c) (xadd 0 i) (xadd (xadd 0 i) (xmin (xsub (xadd 0 (xsub (ln (lap (jsub (jof gs c) 0 (xadd 0 i)) (lrep (wr .i64 (xsub (wr .i64 (xadd (xsub (ln gs) 0) (ln [g]))) i)) zr))) 0)) (xadd 0 (wr .i64 (xadd i (ln [g]))))) (xsub
  (xadd 0 (xsub (ln gs) 0)) (xadd 0 i)))))) 0 (ln (lap (jsub (jof gs c) 0 (xadd 0 i)) (lrep (wr .i64 (xsub (wr .i64 (xadd (xsub (ln gs) 0) (ln [g]))) i)) zr)))) (k (.c (.ow 2)) [(2, .W e (jsub (jput (jput (jof (lap (jsub
  (jof gs c) 0 (xadd 0 i)) (lrep (wr .i64 (xsub (wr .i64 (xadd (xsub (ln gs) 0) (ln [g]))) i)) zr)) c_1) (xadd 0 i) (ltk [g] (xmin (xsub (xadd 0 (xsub (ln (lap (jsub (jof gs c) 0 (xadd 0 i)) (lrep (wr .i64 (xsub (wr .i64
  (xadd (xsub (ln gs) 0) (ln [g]))) i)) zr))) 0)) (xadd 0 i)) (ln [g])))) (xadd 0 (wr .i64 (xadd i (ln [g])))) (jsub (jof gs c) (xadd 0 i) (xadd (xadd 0 i) (xmin (xsub (xadd 0 (xsub (ln (lap (jsub (jof gs c) 0 (xadd 0
  i)) (lrep (wr .i64 (xsub (wr .i64 (xadd (xsub (ln gs) 0) (ln [g]))) i)) zr))) 0)) (xadd 0 (wr .i64 (xadd i (ln [g]))))) (xsub (xadd 0 (xsub (ln gs) 0)) (xadd 0 i)))))) 0 (ln (lap (jsub (jof gs c) 0 (xadd 0 i)) (lrep
  (wr .i64 (xsub (wr .i64 (xadd (xsub (ln gs) 0) (ln [g]))) i)) zr))))), (0, .J e (ln gs) (jof gs c)), (1, .W e [g])] 3) False) False) False) False) False) False)) False) False) (fk (an true (an (ile 0 (wr .i64 (xadd
  (xsub (ln gs) 0) (ln [g])))) (ile (wr .i64 (xadd (xsub (ln gs) 0) (ln [g]))) (xsub (jcap (jof gs c)) 0)))) (fk (an (ile 0 (wr .i64 (xadd i (ln [g])))) (an (ile (wr .i64 (xadd i (ln [g]))) (xsub (xadd 0 (wr .i64 (xadd
  (xsub (ln gs) 0) (ln [g])))) 0)) (ile (xsub (xadd 0 (wr .i64 (xadd (xsub (ln gs) 0) (ln [g])))) 0) (xsub (jcap (jof gs c)) 0)))) (fk (ilt (xadd 0 (wr .i64 (xadd i (ln [g])))) (xadd 0 (xsub (xadd 0 (wr .i64 (xadd (xsub
  (ln gs) 0) (ln [g])))) 0))) (fk (an (ile 0 (wr .i64 (xadd i (ln [g])))) (an (ile (wr .i64 (xadd i (ln [g]))) (xsub (xadd 0 (wr .i64 (xadd (xsub (ln gs) 0) (ln [g])))) 0)) (ile (xsub (xadd 0 (wr .i64 (xadd (xsub (ln gs)
  0) (ln [g])))) 0) (xsub (jcap (jof gs c)) 0)))) (fk (an (ile 0 i) (an (ile i (xsub (xadd 0 (wr .i64 (xadd (xsub (ln gs) 0) (ln [g])))) 0)) (ile (xsub (xadd 0 (wr .i64 (xadd (xsub (ln gs) 0) (ln [g])))) 0) (xsub (jcap
  (jof gs c)) 0)))) (fk (jok (jof gs c) (xadd 0 i) (xadd (xadd 0 i) (xmin (xsub (xadd 0 (xsub (xadd 0 (wr .i64 (xadd (xsub (ln gs) 0) (ln [g])))) 0)) (xadd 0 (wr .i64 (xadd i (ln [g]))))) (xsub (xadd 0 (xsub (xadd 0 (wr
  .i64 (xadd (xsub (ln gs) 0) (ln [g])))) 0)) (xadd 0 i))))) (fk (an (ile 0 i) (an (ile i (xsub (xadd 0 (wr .i64 (xadd (xsub (ln gs) 0) (ln [g])))) 0)) (ile (xsub (xadd 0 (wr .i64 (xadd (xsub (ln gs) 0) (ln [g])))) 0)
  (xsub (jcap (jput (jof gs c) (xadd 0 (wr .i64 (xadd i (ln [g])))) (jsub (jof gs c) (xadd 0 i) (xadd (xadd 0 i) (xmin (xsub (xadd 0 (xsub (xadd 0 (wr .i64 (xadd (xsub (ln gs) 0) (ln [g])))) 0)) (xadd 0 (wr .i64 (xadd i
  (ln [g]))))) (xsub (xadd 0 (xsub (xadd 0 (wr .i64 (xadd (xsub (ln gs) 0) (ln [g])))) 0)) (xadd 0 i))))))) 0)))) (fk (jok (jput (jput (jof gs c) (xadd 0 (wr .i64 (xadd i (ln [g])))) (jsub (jof gs c) (xadd 0 i) (xadd
  (xadd 0 i) (xmin (xsub (xadd 0 (xsub (xadd 0 (wr .i64 (xadd (xsub (ln gs) 0) (ln [g])))) 0)) (xadd 0 (wr .i64 (xadd i (ln [g]))))) (xsub (xadd 0 (xsub (xadd 0 (wr .i64 (xadd (xsub (ln gs) 0) (ln [g])))) 0)) (xadd 0
  i)))))) (xadd 0 i) (ltk [g] (xmin (xsub (xadd 0 (xsub (xadd 0 (wr .i64 (xadd (xsub (ln gs) 0) (ln [g])))) 0)) (xadd 0 i)) (ln [g])))) 0 (xadd 0 (wr .i64 (xadd (xsub (ln gs) 0) (ln [g]))))) (fk (ilt 0 (jcap (jput (jput
  (jof gs c) (xadd 0 (wr .i64 (xadd i (ln [g])))) (jsub (jof gs c) (xadd 0 i) (xadd (xadd 0 i) (xmin (xsub (xadd 0 (xsub (xadd 0 (wr .i64 (xadd (xsub (ln gs) 0) (ln [g])))) 0)) (xadd 0 (wr .i64 (xadd i (ln [g]))))) (xsub
  (xadd 0 (xsub (xadd 0 (wr .i64 (xadd (xsub (ln gs) 0) (ln [g])))) 0)) (xadd 0 i)))))) (xadd 0 i) (ltk [g] (xmin (xsub (xadd 0 (xsub (xadd 0 (wr .i64 (xadd (xsub (ln gs) 0) (ln [g])))) 0)) (xadd 0 i)) (ln [g])))))) (k
  (.c (.ow 2)) [(2, .W e (jsub (jput (jput (jof gs c) (xadd 0 (wr .i64 (xadd i (ln [g])))) (jsub (jof gs c) (xadd 0 i) (xadd (xadd 0 i) (xmin (xsub (xadd 0 (xsub (xadd 0 (wr .i64 (xadd (xsub (ln gs) 0) (ln [g])))) 0))
  (xadd 0 (wr .i64 (xadd i (ln [g]))))) (xsub (xadd 0 (xsub (xadd 0 (wr .i64 (xadd (xsub (ln gs) 0) (ln [g])))) 0)) (xadd 0 i)))))) (xadd 0 i) (ltk [g] (xmin (xsub (xadd 0 (xsub (xadd 0 (wr .i64 (xadd (xsub (ln gs) 0)
  (ln [g])))) 0)) (xadd 0 i)) (ln [g])))) 0 (xadd 0 (wr .i64 (xadd (xsub (ln gs) 0) (ln [g])))))), (1, .W e [g])] 3) False) False) False) False) False) False) False) False) False)))) False
theorem jsub_of {l : List (Option Row)} {a b : Nat} {R : List Row} (hab : a ≤ b) (hb : b ≤ l.length) (hR : R.length = b - a) (h : ∀ (i : Nat) (hi : i < R.length), l[a + i]? = some (some R[i])) : jok l a b = true ∧ jsub l a b = R := by
  have e : (l.take b).drop a = R.map some := by
    apply List.ext_getElem?
    intro i
    rw [List.getElem?_drop, List.getElem?_map]
    by_cases hi : i < R.length
    · rw [List.getElem?_take_of_lt (by omega), h i hi, List.getElem?_eq_getElem hi]; rfl
    · rw [List.getElem?_take_eq_none (by omega), List.getElem?_eq_none (by omega)]; rfl
  constructor
  · have : ((l.take b).drop a).all Option.isSome = true := by rw [e]; simp
    simp [jok, this]; omega
  · show ((l.take b).drop a).filterMap id = R
    rw [e, List.filterMap_map]
    simp
theorem jcap_jof {gs : List Row} {C : Nat} (h : gs.length ≤ C) : jcap (jof gs C) = C := by unfold jcap; rw [jof_len h]
theorem jcap_jput {l : List (Option Row)} {A : Nat} {rows : List Row} (h : A + rows.length ≤ l.length) : jcap (jput l A rows) = jcap l := by unfold jcap; rw [jput_len h]
theorem jof_at {gs : List Row} {C i : Nat} (h : i < gs.length) : (jof gs C)[i]? = some (some gs[i]) := by
  unfold jof
  rw [List.getElem?_append_left (by simpa using h), List.getElem?_map, List.getElem?_eq_getElem h]; rfl
theorem delVC_ok {e : Sh} {by_ : Nat} {zr : Row} {gs : List Row} {I J : Nat} {k : KVk} (hij : I < J) (hj : J ≤ gs.length) (h : k (.c (.ow 1)) [(1, .W e (gs.take I ++ gs.drop J))] 2) : delVC e by_ zr gs I J k := by
  intro c hc
  have hc : (gs.length : Int) ≤ c := of_decide_eq_true hc
  obtain ⟨C, rfl⟩ : ∃ C : Nat, c = C := ⟨c.toNat, by omega⟩
  have hC : gs.length ≤ C := by omega
  have e0 : ∀ x : Int, xadd 0 x = x := fun x => by unfold xadd; omega
  have e1 : ∀ x : Int, xsub x 0 = x := fun x => by unfold xsub; omega
  simp only [e0, e1]
  have l0 : (jof gs C).length = C := jof_len hC
  obtain ⟨s1, s2⟩ := jsub_of (l := jof gs C) (a := J) (b := gs.length) (R := gs.drop J) hj (by omega) (by simp) fun i hi => by
    rw [jof_at (by simp at hi; omega), List.getElem_drop]
  have hln : ln gs = ((gs.length : Nat) : Int) := rfl
  rw [hln, s1, s2]
  have hdl : (gs.drop J).length = gs.length - J := by simp
  have hsum : xadd (I : Int) (ln (gs.drop J)) = ((I + (gs.length - J) : Nat) : Int) := by unfold xadd ln; omega
  rw [hsum]
  have f1 : I + (gs.drop J).length ≤ (jof gs C).length := by omega
  have hl1 : (jput (jof gs C) (I : Int) (gs.drop J)).length = C := by rw [jput_len f1, l0]
  have hrep : lrep (xsub (gs.length : Int) ((I + (gs.length - J) : Nat) : Int)) zr = List.replicate (J - I) zr := by unfold lrep xsub; congr 1; omega
  rw [hrep]
  have f2 : (I + (gs.length - J)) + (List.replicate (J - I) zr).length ≤ (jput (jof gs C) (I : Int) (gs.drop J)).length := by rw [hl1]; simp; omega
  obtain ⟨t1, t2⟩ := jsub_of (l := jput (jput (jof gs C) (I : Int) (gs.drop J)) ((I + (gs.length - J) : Nat) : Int) (List.replicate (J - I) zr)) (a := 0) (b := I + (gs.length - J)) (R := gs.take I ++ gs.drop J) (Nat.zero_le _) (by rw [jput_len f2, hl1]; omega) (by simp; omega) fun i hi => by
    rw [Nat.zero_add, jput_get f2, if_pos (by simp at hi; omega), jput_get f1]
    by_cases h1 : i < I
    · rw [if_pos h1, jof_at (by omega), List.getElem_append_left (by simp; omega), List.getElem_take]
    · rw [if_neg h1, if_pos (by simp at hi ⊢; omega), List.getElem?_eq_getElem (by simp at hi ⊢; omega), List.getElem_append_right (by simp; omega)]
      have hm : (gs.take I).length = I := by simp; omega
      simp only [Option.map_some, hm]
  have t1 : jok (jput (jput (jof gs C) (I : Int) (gs.drop J)) ((I + (gs.length - J) : Nat) : Int) (List.replicate (J - I) zr)) 0 ((I + (gs.length - J) : Nat) : Int) = true := t1
  have t2 : jsub (jput (jput (jof gs C) (I : Int) (gs.drop J)) ((I + (gs.length - J) : Nat) : Int) (List.replicate (J - I) zr)) 0 ((I + (gs.length - J) : Nat) : Int) = _ := t2
  rw [t1, t2, jcap_jput f2, jcap_jput f1, jcap_jof hC]
  refine fk_t (by simp [an, ile]; omega) (fk_n (by simp [ieq]; omega) (fk_t (by simp [an, ile]; omega) (fk_t (by simp [an, ile]; omega) (fk_t rfl (fk_t (by simp [ile]; omega) (fk_t (by simp [an, ile]; omega) (fk_t rfl (fk_t (by simp [ilt]; omega) h))))))))
theorem insVC_ok {e : Sh} {by_ : Nat} {zr : Row} {gs : List Row} {I : Nat} {g : Row} {k : KVk} (hi : I ≤ gs.length) (hb : gs.length + 1 ≤ 1048576) (hb2 : (gs.length + 1) * by_ ≤ 1048576) (h : ∀ m, look 2 m = some (.W e (gs.take I ++ g :: gs.drop I)) → k (.c (.ow 2)) m 3) : insVC e by_ zr gs I g k := by
  intro c hc
  have hc : (gs.length : Int) ≤ c := of_decide_eq_true hc
  obtain ⟨C, rfl⟩ : ∃ C : Nat, c = C := ⟨c.toNat, by omega⟩
  have hC : gs.length ≤ C := by omega
  have e0 : ∀ x : Int, xadd 0 x = x := fun x => by unfold xadd; omega
  have e1 : ∀ x : Int, xsub x 0 = x := fun x => by unfold xsub; omega
  have hg : ln [g] = 1 := rfl
  have hln : ln gs = ((gs.length : Nat) : Int) := rfl
  simp only [e0, e1, hg, hln]
  obtain ⟨n, hn⟩ : ∃ n, n = gs.length := ⟨_, rfl⟩
  rw [← hn] at hi hb hb2 hC hc ⊢
  have w1 : wr .i64 ((n + 1 : Nat) : Int) = ((n + 1 : Nat) : Int) := wr_id (by omega) (by omega)
  have w2 : wr .i64 (xsub ((n + 1 : Nat) : Int) (I : Int)) = ((n + 1 - I : Nat) : Int) := by unfold xsub; rw [wr_id (by omega) (by omega)]; omega
  have w3 : wr .i64 (xadd (I : Int) 1) = ((I + 1 : Nat) : Int) := by unfold xadd; rw [wr_id (by omega) (by omega)]; omega
  have w4 : xadd (n : Int) 1 = ((n + 1 : Nat) : Int) := by unfold xadd; omega
  simp only [w4, w1, w2, w3]
  have l0 : (jof gs C).length = C := jof_len (by omega)
  have res : ∀ {R : List Row}, R = gs.take I ++ g :: gs.drop I → ∀ m, look 2 m = some (.W e R) → k (.c (.ow 2)) m 3 := fun hR m hl => h m (hR ▸ hl)
  have src : ∀ a b : Nat, a ≤ b → b ≤ n → jok (jof gs C) a b = true ∧ jsub (jof gs C) a b = (gs.take b).drop a := fun a b h1 h2 => jsub_of h1 (by omega) (by simp; omega) fun i hi => by
    have hi2 : a + i < gs.length := by simp at hi; omega
    rw [jof_at hi2, List.getElem_drop, List.getElem_take]
  have one : ∀ x : Int, 1 ≤ x → ltk [g] (xmin x 1) = [g] := fun x hx => by
    have : xmin x 1 = 1 := by unfold xmin; omega
    rw [this]; rfl
  have fin : ∀ (l : List (Option Row)), n + 1 ≤ l.length → (∀ i, i < I → (hlt : i < gs.length) → l[i]? = some (some gs[i])) → jok (jput (jput l ((I + 1 : Nat) : Int) (gs.drop I)) (I : Int) [g]) 0 ((n + 1 : Nat) : Int) = true ∧ jsub (jput (jput l ((I + 1 : Nat) : Int) (gs.drop I)) (I : Int) [g]) 0 ((n + 1 : Nat) : Int) = gs.take I ++ g :: gs.drop I := by
    intro l hl hg
    have f1 : (I + 1) + (gs.drop I).length ≤ l.length := by simp; omega
    have f2 : I + [g].length ≤ (jput l ((I + 1 : Nat) : Int) (gs.drop I)).length := by rw [jput_len f1]; simp; omega
    refine jsub_of (a := 0) (b := n + 1) (Nat.zero_le _) (by rw [jput_len f2, jput_len f1]; omega) (by simp; omega) fun i hi' => ?_
    have hi2 : i < n + 1 := by simp at hi'; omega
    have hm : (gs.take I).length = I := by simp; omega
    rw [Nat.zero_add, jput_get f2]
    by_cases h1 : i < I
    · rw [if_pos h1, jput_get f1, if_pos (by omega), hg i h1 (by omega), List.getElem_append_left (by omega), List.getElem_take]
    · rw [if_neg h1]
      by_cases h2 : i = I
      · subst h2
        rw [if_pos (by simp), Nat.sub_self, List.getElem_append_right (by omega)]
        simp [hm]
      · rw [if_neg (by simp; omega), jput_get f1, if_neg (by omega), if_pos (by simp; omega), List.getElem?_eq_getElem (by simp; omega), List.getElem_append_right (by omega), Option.map_some]
        congr 2
        simp only [hm, List.getElem_drop]
        rw [List.getElem_cons]
        rw [dif_neg (by omega), List.getElem_drop]
        simp only [Nat.sub_sub]
  have fin2 : ∀ (l : List (Option Row)), n + 1 ≤ l.length → (∀ i, i < I → (hlt : i < gs.length) → l[i]? = some (some gs[i])) → jok (jput (jput l (I : Int) [g]) ((I + 1 : Nat) : Int) (gs.drop I)) 0 ((n + 1 : Nat) : Int) = true ∧ jsub (jput (jput l (I : Int) [g]) ((I + 1 : Nat) : Int) (gs.drop I)) 0 ((n + 1 : Nat) : Int) = gs.take I ++ g :: gs.drop I := by
    intro l hl hg
    have f1 : I + [g].length ≤ l.length := by simp; omega
    have f2 : (I + 1) + (gs.drop I).length ≤ (jput l (I : Int) [g]).length := by rw [jput_len f1]; simp; omega
    refine jsub_of (a := 0) (b := n + 1) (Nat.zero_le _) (by rw [jput_len f2, jput_len f1]; omega) (by simp; omega) fun i hi' => ?_
    have hi2 : i < n + 1 := by simp at hi'; omega
    have hm : (gs.take I).length = I := by simp; omega
    rw [Nat.zero_add, jput_get f2]
    by_cases h1 : i < I
    · rw [if_pos (by omega), jput_get f1, if_pos h1, hg i h1 (by omega), List.getElem_append_left (by omega), List.getElem_take]
    · by_cases h2 : i = I
      · subst h2
        rw [if_pos (by omega), jput_get f1, if_neg (by omega), if_pos (by simp), Nat.sub_self, List.getElem_append_right (by omega)]
        simp [hm]
      · rw [if_neg (by omega), if_pos (by simp; omega), List.getElem?_eq_getElem (by simp; omega), List.getElem_append_right (by omega), Option.map_some]
        congr 2
        simp only [hm, List.getElem_drop]
        rw [List.getElem_cons]
        rw [dif_neg (by omega), List.getElem_drop]
        simp only [Nat.sub_sub]
  have j0 : jcap (jof gs C) = C := jcap_jof (by omega)
  refine fk_t (by simp [an, ile, j0]; omega) (fk_n (by simp [ieq]) (fk_of (fun q => ?_) fun q => ?_))
  · -- at the end
    have q : I = n := by have := ieq_t q; omega
    have hdt : gs.take I ++ g :: gs.drop I = gs ++ [g] := by rw [q, hn]; simp
    refine fk_of (fun hr => ?_) fun hr => ?_
    · have hr : n + 1 ≤ C := by have := ile_t hr; rw [j0] at this; omega
      have f1 : n + [g].length ≤ (jof gs C).length := by rw [l0]; simpa using hr
      obtain ⟨t1, t2⟩ := jsub_of (l := jput (jof gs C) (n : Int) [g]) (a := 0) (b := n + 1) (R := gs ++ [g]) (Nat.zero_le _) (by rw [jput_len f1]; omega) (by simp [hn]) fun i hi' => by
        have hi2 : i < n + 1 := by simp at hi'; omega
        rw [Nat.zero_add, jput_get f1]
        by_cases h1 : i < n
        · rw [if_pos h1, jof_at (by omega), List.getElem_append_left (by omega)]
        · have : i = n := by omega
          subst this
          rw [if_neg h1, if_pos (by simp), Nat.sub_self, List.getElem_append_right (by omega)]
          simp
      have t1 : jok (jput (jof gs C) (n : Int) [g]) 0 ((n + 1 : Nat) : Int) = true := t1
      have t2 : jsub (jput (jof gs C) (n : Int) [g]) 0 ((n + 1 : Nat) : Int) = _ := t2
      refine fk_t t1 (fk_t (by rw [jcap_jput f1, j0]; simp [ilt]; omega) (res (t2.trans hdt.symm) _ rfl))
    · obtain ⟨s1, s2⟩ := src 0 n (Nat.zero_le _) (Nat.le_refl _)
      have s1 : jok (jof gs C) 0 (n : Int) = true := s1
      have s2 : jsub (jof gs C) 0 (n : Int) = _ := s2
      have s3 : (gs.take n).drop 0 = gs := by rw [hn]; simp
      rw [s1, s2, s3]
      refine fk_t ?_ (res (show lap gs [g] = _ by rw [hdt]; rfl) _ rfl)
      simp only [apOk, Bool.true_and, List.length_cons, List.length_nil, Bool.and_eq_true, decide_eq_true_eq]
      rw [← hn]
      exact ⟨by omega, by simpa using hb2⟩
  · have q : I < n := by have := ieq_f q; omega
    refine fk_of (fun hr => ?_) fun hr => ?_
    · have hr : C < n + 1 := by have := ilt_t hr; rw [j0] at this; omega
      obtain ⟨s1, s2⟩ := src 0 I (Nat.zero_le _) (by omega)
      have s1 : jok (jof gs C) 0 (I : Int) = true := s1
      have s2 : jsub (jof gs C) 0 (I : Int) = _ := s2
      have s3 : (gs.take I).drop 0 = gs.take I := by simp
      rw [s1, s2, s3]
      have hx : xadd (I : Int) ((n + 1 - I : Nat) : Int) = ((n + 1 : Nat) : Int) := by unfold xadd; omega
      rw [hx]
      have hL : (lap (gs.take I) (lrep ((n + 1 - I : Nat) : Int) zr)).length = n + 1 := by simp [lap, lrep]; omega
      have hlL : ln (lap (gs.take I) (lrep ((n + 1 - I : Nat) : Int) zr)) = ((n + 1 : Nat) : Int) := by unfold ln; rw [hL]
      rw [hlL]
      refine fk_t (by simp [an, ile, j0]; omega) (fk_t (by simp [an, ile]) (fk_n (by simp [ile, j0]; omega) (fk_t ?_ fun c1 hc1 => ?_)))
      · simp only [apOk, Bool.true_and, Bool.and_eq_true, decide_eq_true_eq]
        have : (gs.take I).length + (lrep ((n + 1 - I : Nat) : Int) zr).length = n + 1 := by simp [lrep]; omega
        rw [this]
        exact ⟨hb, hb2⟩
      · have hc1 : ((n + 1 : Nat) : Int) ≤ c1 := of_decide_eq_true hc1
        obtain ⟨C1, rfl⟩ : ∃ C1 : Nat, c1 = C1 := ⟨c1.toNat, by omega⟩
        have j1 : jcap (jof (lap (gs.take I) (lrep ((n + 1 - I : Nat) : Int) zr)) C1) = C1 := jcap_jof (by rw [hL]; omega)
        have l1 : (jof (lap (gs.take I) (lrep ((n + 1 - I : Nat) : Int) zr)) C1).length = C1 := jof_len (by rw [hL]; omega)
        have o1 : ltk [g] (xmin (xsub ((n + 1 : Nat) : Int) (I : Int)) 1) = [g] := one _ (by unfold xsub; omega)
        have m1 : xadd (I : Int) (xmin (xsub ((n + 1 : Nat) : Int) ((I + 1 : Nat) : Int)) (xsub (n : Int) (I : Int))) = ((n : Nat) : Int) := by unfold xadd xmin xsub; omega
        obtain ⟨p1, p2⟩ := src I n (by omega) (Nat.le_refl _)
        have p3 : (gs.take n).drop I = gs.drop I := by rw [hn]; simp
        rw [p3] at p2
        rw [o1, m1, p1, p2]
        have f1 : I + [g].length ≤ (jof (lap (gs.take I) (lrep ((n + 1 - I : Nat) : Int) zr)) C1).length := by rw [l1]; simp; omega
        rw [jcap_jput f1, j1, j0]
        obtain ⟨t1, t2⟩ := fin2 (jof (lap (gs.take I) (lrep ((n + 1 - I : Nat) : Int) zr)) C1) (by omega) fun i h1 hlt => by
          have hi3 : i < (lap (gs.take I) (lrep ((n + 1 - I : Nat) : Int) zr)).length := by omega
          have h9 : (lap (gs.take I) (lrep ((n + 1 - I : Nat) : Int) zr))[i]? = some gs[i] := by
            show (gs.take I ++ lrep ((n + 1 - I : Nat) : Int) zr)[i]? = _
            rw [List.getElem?_append_left (by simp; omega), List.getElem?_take_of_lt h1, List.getElem?_eq_getElem]
          rw [List.getElem?_eq_getElem hi3] at h9
          rw [jof_at hi3, Option.some.inj h9]
        rw [t1]
        refine fk_t (by simp [an, ile]; omega) (fk_t (by simp [an, ile]; omega) (fk_t (by simp [an, ile]; omega) (fk_t rfl (fk_t rfl (res t2 _ rfl)))))
    · have hr : n + 1 ≤ C := by have := ilt_f hr; rw [j0] at this; omega
      have m1 : xadd (I : Int) (xmin (xsub ((n + 1 : Nat) : Int) ((I + 1 : Nat) : Int)) (xsub ((n + 1 : Nat) : Int) (I : Int))) = ((n : Nat) : Int) := by unfold xadd xmin xsub; omega
      obtain ⟨p1, p2⟩ := src I n (by omega) (Nat.le_refl _)
      have p3 : (gs.take n).drop I = gs.drop I := by rw [hn]; simp
      rw [p3] at p2
      have o1 : ltk [g] (xmin (xsub ((n + 1 : Nat) : Int) (I : Int)) 1) = [g] := one _ (by unfold xsub; omega)
      rw [m1, p1, p2, o1]
      have f1 : (I + 1) + (gs.drop I).length ≤ (jof gs C).length := by rw [l0]; simp; omega
      have f2 : I + [g].length ≤ (jput (jof gs C) ((I + 1 : Nat) : Int) (gs.drop I)).length := by rw [jput_len f1, l0]; simp; omega
      obtain ⟨t1, t2⟩ := fin (jof gs C) (by omega) fun i h1 hlt => jof_at hlt
      rw [t1, t2, jcap_jput f2, jcap_jput f1, j0]
      refine fk_t (by simp [an, ile]; omega) (fk_t (by simp [an, ile]; omega) (fk_t (by simp [ilt]; omega) (fk_t (by simp [an, ile]; omega) (fk_t (by simp [an, ile]; omega) (fk_t rfl (fk_t (by simp [an, ile]; omega) (fk_t rfl (fk_t (by simp [ilt]; omega) (res rfl _ rfl)))))))))
end Go.Proofs.YtgjindhjgmplgaaGreat
end
section
namespace Go.Proofs.YtgjindhjgmplgaaGreat
section
variable {P : Program}
theorem CallG.weak {f : Nat} {vs : List V} {E : Mem} {nx : Nat} {k : KVk} (h : CallG P f vs E nx fun v m n => ∃ m0, (∀ x B, look x m0 = some B → look x m = some B) ∧ k v m0 n) : CallG P f vs E nx k := by
  intro G φ z w us hm hlt hus
  refine (h G φ z w us hm hlt hus).mono ?_
  rintro e w' ⟨v, m', nx', φ', z', u, h1, ⟨m0, h2, h3⟩, h4, h5, h6, h7, h8, h9⟩
  exact ⟨v, m0, nx', φ', z', u, h1, h3, h4, h5, h6.forget h2, h7, h8, h9⟩
theorem sub_one {x : Nat} {B : Blk} {m : Mem} (h : look x m = some B) : ∀ y B', look y [(x, B)] = some B' → look y m = some B' := by
  intro y B' hy
  by_cases e : x = y
  · subst e; rw [look_same] at hy; cases hy; exact h
  · rw [look_ne e] at hy; cases hy
def cloneG (e : Sh) (by_ : Nat) (vs : List V) (E : Mem) (nx : Nat) (k : KVk) : Prop := match vs, E, nx with
  | [.c (.sl e' l)], [], 0 => fk (shEq e e' && apOk by_ [] l) (k (.c (.ow 1)) [(1, .W e l)] 2) False
  | _, _, _ => False
def cloneVC (e : Sh) (by_ : Nat) (gs : List Row) (k : KVk) : Prop := ∀ b : Bool, (b = true → gs = []) → fk b (k (.c .sn) [] 0) (fk (apOk by_ [] gs) (k (.c (.ow 1)) [(1, .W e (lap [] gs))] 2) False)
theorem clone_ok {call : CallF} (hC : CallOk P call) {f : Nat} {e : Sh} {by_ : Nat} (vc : ∀ gs k, dbody P call [] false f [.c (.sl e gs)] [] 0 k = cloneVC e by_ gs k) : ∀ vs E nx k, cloneG e by_ vs E nx k → CallG P f vs E nx k := by
  intro vs E nx k h
  unfold cloneG at h
  split at h
  · rename_i e' l
    obtain ⟨h1, hk⟩ := fk_yes h
    obtain ⟨h2, h3⟩ := and2 h1
    have := shEq_eq _ _ h2
    subst this
    have hb : dbody P call [] false f [.c (.sl e l)] [] 0 fun v m n => (v = .c .sn ∧ m = [] ∧ l = []) ∨ (v = .c (.ow 1) ∧ m = [(1, .W e l)] ∧ n = 2) := by
      rw [vc]
      intro b hb
      refine fk_of (fun h => .inl ⟨rfl, rfl, hb h⟩) fun _ => fk_t h3 (.inr ⟨rfl, ?_, rfl⟩)
      show [(1, Blk.W e (lap [] l))] = _
      rfl
    intro G φ z w us hm hlt hus
    refine (dbody_ok hC hb G φ z w us hm hlt hus).mono ?_
    rintro ed w' ⟨v, m', nx', φ', z', u, h1, h2 | ⟨rfl, rfl, rfl⟩, h4, h5, h6, h7, h8, h9⟩
    · obtain ⟨rfl, rfl, rfl⟩ := h2
      have hu : u = .slice none 0 0 := h9
      subst hu
      have n1 : (fun x => if x < 1 then φ x else none : Emb) 1 = none := rfl
      let φ1 : Emb := φ
      have hno : ∀ x, φ x = none := fun x => hlt.none (Nat.zero_le _)
      have r0 : MR G φ z' [] w' := h6.part fun x hx => by cases hx
      have r1 := r0.new (nx := 1) (hno 1) (v := .slice none 0 0) (B := .W e []) (o := none) (w' := w') rfl rfl rfl rfl rfl (.inl ⟨Emb.add_same _ _ _, rfl⟩)
      refine ⟨_, _, _, φ.add 1 (.slice none 0 0), z', _, h1, hk, Emb.le_add (hno 1) _, h5, r1, fun x v hv => ?_, by omega, ⟨Emb.add_same _ _ _, _, _, _, rfl⟩⟩
      by_cases hx : x = 1
      · exact .inr ⟨by omega, by omega⟩
      · rw [Emb.add_ne hx] at hv; exact .inl hv
    · exact ⟨_, _, _, φ', z', u, h1, hk, h4, h5, h6, h7, h8, h9⟩
  · exact h.elim
def delG (e : Sh) (vs : List V) (E : Mem) (nx : Nat) (k : KVk) : Prop := match vs, E, nx with
  | [.c (.ow 0), .c (.i .i64 i), .c (.i .i64 j)], [(0, .W e' gs)], 1 => fk (shEq e e') (fk (an (ile 0 i) (an (ilt i j) (ile j (ln gs)))) (k (.c (.ow 1)) [(1, .W e (ldel gs i j))] 2) False) False
  | _, _, _ => False
theorem del_ok {call : CallF} (hC : CallOk P call) {f : Nat} {e : Sh} {by_ : Nat} {zr : Row} (vc : ∀ gs i j k, dbody P call [] false f [.c (.ow 0), .c (.i .i64 i), .c (.i .i64 j)] [(0, .W e gs)] 1 k = delVC e by_ zr gs i j k) : ∀ vs E nx k, delG e vs E nx k → CallG P f vs E nx k := by
  intro vs E nx k h
  unfold delG at h
  split at h
  · rename_i i j e' gs
    obtain ⟨h1, h0⟩ := fk_yes h
    obtain ⟨h2, hk⟩ := fk_yes h0
    have := shEq_eq _ _ h1
    subst this
    obtain ⟨c1, c2⟩ := and2 h2
    obtain ⟨c2, c3⟩ := and2 c2
    have c1 := ile_t c1
    have c2 := ilt_t c2
    have c3 : j ≤ gs.length := ile_t c3
    refine dbody_ok hC (lp := []) (fz := false) ?_
    rw [vc]
    have := delVC_ok (e := e) (by_ := by_) (zr := zr) (gs := gs) (I := i.toNat) (J := j.toNat) (k := k) (by omega) (by omega) hk
    rwa [Int.toNat_of_nonneg c1, Int.toNat_of_nonneg (by omega)] at this
  · exact h.elim
def insG (e : Sh) (by_ : Nat) (vs : List V) (E : Mem) (nx : Nat) (k : KVk) : Prop := match vs, E, nx with
  | [.c (.ow 0), .c (.i .i64 i), .c (.ow 1)], [(0, .W e' gs), (1, .W e2 [g])], 2 => fk (shEq e e' && shEq e e2) (fk (an (ile 0 i) (ile i (ln gs))) (fk (apOk by_ gs [g]) (k (.c (.ow 2)) [(2, .W e (lins gs i g))] 3) False) False) False
  | _, _, _ => False
theorem ins_okG {call : CallF} (hC : CallOk P call) {f : Nat} {e : Sh} {by_ : Nat} {zr : Row} (vc : ∀ gs i g k, dbody P call [] false f [.c (.ow 0), .c (.i .i64 i), .c (.ow 1)] [(0, .W e gs), (1, .W e [g])] 2 k = insVC e by_ zr gs i g k) : ∀ vs E nx k, insG e by_ vs E nx k → CallG P f vs E nx k := by
  intro vs E nx k h
  unfold insG at h
  split at h
  · rename_i i e' gs e2 g
    obtain ⟨h1, h0⟩ := fk_yes h
    obtain ⟨h2, h3⟩ := fk_yes h0
    obtain ⟨h4, hk⟩ := fk_yes h3
    obtain ⟨c1, c2⟩ := and2 h1
    have := shEq_eq _ _ c1
    subst this
    have := shEq_eq _ _ c2
    subst this
    obtain ⟨c1, c2⟩ := and2 h2
    obtain ⟨d1, d2⟩ := and2 h4
    have c1 := ile_t c1
    have c2 : i ≤ gs.length := ile_t c2
    have d1 : gs.length + 1 ≤ 1048576 := of_decide_eq_true d1
    have d2 : (gs.length + 1) * by_ ≤ 1048576 := of_decide_eq_true d2
    refine CallG.weak (dbody_ok hC (lp := []) (fz := false) ?_)
    rw [vc]
    have := insVC_ok (e := e) (by_ := by_) (zr := zr) (gs := gs) (I := i.toNat) (g := g) (k := fun v m n => ∃ m0, (∀ x B, look x m0 = some B → look x m = some B) ∧ k v m0 n) (by omega) d1 d2 fun m hm => ⟨[(2, .W e (lins gs i g))], sub_one hm, hk⟩
    rwa [Int.toNat_of_nonneg c1] at this
  · exact h.elim
theorem MR.rename1 {G : Gd} {φ : Emb} {z : Fz} {m m' : Mem} {w : World} {x n : Nat} {e : Sh} {l : List Row} {v : Value} (r : MR G φ z m w) (hx : look x m = some (.W e l)) (hv : φ x = some v) (hn : φ n = none) (hm : ∀ y B, look y m' = some B → y ≠ x ∧ look y m = some B) : MR G (φ.add n v) z ((n, .W e l) :: m') w := by
  have hle := Emb.le_add hn v
  have hnn : ∀ y B, look y m = some B → y ≠ n := by
    rintro y B hB rfl
    obtain ⟨q, hq⟩ := (r.blk y B hB).has
    rw [hn] at hq; cases hq
  have own : ∀ y b, Owns (φ.add n v) ((n, .W e l) :: m') y b → (y = n ∧ Owns φ m x b) ∨ (y ≠ n ∧ y ≠ x ∧ Owns φ m y b) := by
    rintro y b ⟨⟨B, hB, hl⟩, u, hu, hb⟩
    by_cases hy : y = n
    · subst hy
      rw [Emb.add_same] at hu
      cases hu
      exact .inl ⟨rfl, ⟨_, hx, rfl⟩, v, hv, hb⟩
    · rw [look_ne (fun e => hy e.symm)] at hB
      rw [Emb.add_ne hy] at hu
      exact .inr ⟨hy, (hm y B hB).1, ⟨B, (hm y B hB).2, hl⟩, u, hu, hb⟩
  have at_ : ∀ y b, Owns (φ.add n v) ((n, .W e l) :: m') y b → ∃ y', Owns φ m y' b := fun y b h => by
    rcases own y b h with ⟨_, h⟩ | ⟨_, _, h⟩
    · exact ⟨_, h⟩
    · exact ⟨_, h⟩
  refine ⟨fun y B hB => ?_, fun y y' b h1 h2 => ?_, fun y b h => ?_, fun y b h => ?_, r.frz, r.zin, r.znew, r.old, r.size, r.os, r.tape, r.output⟩
  · by_cases hy : y = n
    · subst hy
      rw [look_same] at hB
      cases hB
      have := r.blk x _ hx
      rcases this with ⟨q1, q2⟩ | ⟨b, off, arr, T, cap, q1, q2⟩
      · rw [hv] at q1
        cases q1
        exact .inl ⟨Emb.add_same _ _ _, q2⟩
      · rw [hv] at q1
        cases q1
        exact .inr ⟨b, off, arr, T, cap, Emb.add_same _ _ _, q2⟩
    · rw [look_ne (fun e => hy e.symm)] at hB
      exact (r.blk y B (hm y B hB).2).le hle (.refl z)
  · rcases own y b h1 with ⟨e1, h3⟩ | ⟨e1, e2, h3⟩ <;> rcases own y' b h2 with ⟨f1, h4⟩ | ⟨f1, f2, h4⟩
    · rw [e1, f1]
    · exact absurd (r.inj _ _ _ h3 h4).symm f2
    · exact absurd (r.inj _ _ _ h3 h4) e2
    · exact r.inj _ _ _ h3 h4
  · obtain ⟨y', h⟩ := at_ y b h
    exact r.sep y' b h
  · obtain ⟨y', h⟩ := at_ y b h
    exact r.low y' b h
theorem CallG.fresh {f : Nat} {vs : List V} {E : Mem} {nx : Nat} {k : KVk} (h : CallG P f vs E nx fun v m n => k v m n ∨ ∃ x e l m', v = .c (.ow x) ∧ look x m = some (.W e l) ∧ (∀ y B, look y m' = some B → y ≠ x ∧ look y m = some B) ∧ k (.c (.ow n)) ((n, .W e l) :: m') (n + 1)) : CallG P f vs E nx k := by
  intro G φ z w us hm hlt hus
  refine (h G φ z w us hm hlt hus).mono ?_
  rintro ed w' ⟨v, m1, n, φ', z', u, h1, h2 | ⟨x, e, l, m', rfl, hx, hmm, hk⟩, h4, h5, h6, h7, h8, h9⟩
  · exact ⟨v, m1, n, φ', z', u, h1, h2, h4, h5, h6, h7, h8, h9⟩
  · have hn : φ' n = none := by
      cases hv : φ' n with
      | none => rfl
      | some q =>
        rcases h7 n q hv with h | h
        · have := hlt n q h; omega
        · omega
    obtain ⟨hu, hsl⟩ := h9
    refine ⟨_, _, _, φ'.add n u, z', u, h1, hk, h4.trans (Emb.le_add hn u), h5, h6.rename1 hx hu hn hmm, fun y q hq => ?_, by omega, ⟨Emb.add_same _ _ _, hsl⟩⟩
    by_cases hy : y = n
    · exact .inr ⟨by omega, by omega⟩
    · rw [Emb.add_ne hy] at hq
      rcases h7 y q hq with h | h
      · exact .inl h
      · exact .inr ⟨h.1, by omega⟩
end
end Go.Proofs.YtgjindhjgmplgaaGreat
end
