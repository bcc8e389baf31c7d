/-
  A verified evaluator: what is decided about terms over a string that is not known.
-/
import Derived.Test.YtmbbciidknchiaaGreatSym
set_option linter.unusedVariables false
namespace Go.Proofs.YtmbbciidknchiaaGreat
open Go.RowKit
def small6 (x : LF) : Bool := decide (-1000000 ≤ x.1) && decide (x.1 ≤ 1000000) && decide (-1000 ≤ x.2) && decide (x.2 ≤ 1000)
theorem small6_ok {x : LF} (h : small6 x = true) {L : Nat} (hL : L ≤ 12) : -1012000 ≤ x.val L ∧ x.val L ≤ 1012000 := by
  unfold small6 at h
  rw [Bool.and_eq_true, Bool.and_eq_true, Bool.and_eq_true, decide_eq_true_eq, decide_eq_true_eq, decide_eq_true_eq, decide_eq_true_eq] at h
  obtain ⟨⟨⟨h1, h2⟩, h3⟩, h4⟩ := h
  unfold LF.val
  have a1 : x.2 * (L : Int) ≤ 1000 * (L : Int) := Int.mul_le_mul_of_nonneg_right h4 (Int.natCast_nonneg L)
  have a2 : -1000 * (L : Int) ≤ x.2 * (L : Int) := Int.mul_le_mul_of_nonneg_right h3 (Int.natCast_nonneg L)
  omega
/-- between which bounds a number lies -/
def rangeL (x : LF) : Int × Int := bif decide (0 ≤ x.2) then (x.1, x.1 + 12 * x.2) else (x.1 + 12 * x.2, x.1)
theorem rangeL_ok (x : LF) {L : Nat} (hL : L ≤ 12) : (rangeL x).1 ≤ x.val L ∧ x.val L ≤ (rangeL x).2 := by
  unfold rangeL LF.val
  cases hk : decide (0 ≤ x.2) with
  | true =>
    have hk := of_decide_eq_true hk
    have a1 : x.2 * (L : Int) ≤ x.2 * 12 := Int.mul_le_mul_of_nonneg_left (by omega) hk
    have a2 : 0 ≤ x.2 * (L : Int) := Int.mul_nonneg hk (Int.natCast_nonneg L)
    simp only [cond_true]
    omega
  | false =>
    have hk := of_decide_eq_false hk
    have a1 : x.2 * 12 ≤ x.2 * (L : Int) := Int.mul_le_mul_of_nonpos_left (by omega) (by omega)
    have a2 : x.2 * (L : Int) ≤ 0 := Int.mul_nonpos_of_nonpos_of_nonneg (by omega) (Int.natCast_nonneg L)
    simp only [cond_false]
    omega
def rangeOf (d : Nat) : AC → Option (Int × Int)
  | .i .i64 n => some (n, n)
  | .si .i64 a => match (lin d a).2 with
    | some x => some (rangeL x)
    | none => none
  | _ => none
def cmpR (op : BinOp) (x y : Int × Int) : Option Bool :=
  match op with
  | .lss => bif decide (x.2 < y.1) then some true else bif decide (y.2 ≤ x.1) then some false else none
  | .leq => bif decide (x.2 ≤ y.1) then some true else bif decide (y.2 < x.1) then some false else none
  | .gtr => bif decide (y.2 < x.1) then some true else bif decide (x.2 ≤ y.1) then some false else none
  | .geq => bif decide (y.2 ≤ x.1) then some true else bif decide (x.2 < y.1) then some false else none
  | _ => none
theorem bif2 {a b : Bool} {r : Bool} {u v : Bool} (h : (bif a then some u else bif b then some v else none) = some r) : (a = true ∧ r = u) ∨ (b = true ∧ r = v) := by
  cases a <;> cases b <;> simp at h <;> simp [h]
theorem cmpR_ok {op : BinOp} {x y : Int × Int} {r : Bool} (h : cmpR op x y = some r) {m n : Int} (hx : x.1 ≤ m ∧ m ≤ x.2) (hy : y.1 ≤ n ∧ n ≤ y.2) : slow op .i64 m n = some (.b r) := by
  unfold cmpR at h
  split at h
  all_goals first | (cases h; done) | skip
  all_goals
    rcases bif2 h with ⟨h1, rfl⟩ | ⟨h1, rfl⟩
    all_goals
      have h1 := of_decide_eq_true h1
      simp only [slow, Option.some.injEq, AC.b.injEq, decide_eq_true_eq, decide_eq_false_iff_not]
      omega
def termOf : AC → Option Nm
  | .s l => some (.lit l)
  | .ss t => some t
  | _ => none
def intTerm : AC → Option Nm
  | .i .i64 n => some (.num n)
  | .si .i64 t => some t
  | _ => none
theorem bytes_of {y : ByteArray} {l : List Nat} (h : y.data.toList.map UInt8.toNat = l) : y = ⟨(l.map UInt8.ofNat).toArray⟩ := by
  subst h
  rw [ofNat_toNat8]
theorem termOf_ok {ρ : Vn} (hs : Std ρ) {φ : Emb} {c : AC} {t : Nm} {v : Value} (h : termOf c = some t) (hv : VC ρ φ c v) : v = .string (ρ.s t) := by
  cases c <;> first | (cases h; done) | skip
  · rename_i l
    cases h
    obtain ⟨y, rfl, hy⟩ := hv
    rw [hs.lit, ← bytes_of hy]
  · cases h
    exact hv
theorem intTerm_ok {ρ : Vn} (hs : Std ρ) {φ : Emb} {c : AC} {t : Nm} {v : Value} (h : intTerm c = some t) (hv : VC ρ φ c v) : v = .int .i64 (ρ.i t) := by
  unfold intTerm at h
  split at h
  · cases h
    rw [hs.num]
    exact hv
  · cases h
    exact hv
  · cases h
def symLen (d : Nat) (t : Nm) : Option AC := match (lin d t).1 with
  | some (c, k) => bif decide (k = 0) && decide (0 ≤ c) then some (.i .i64 c) else some (.si .i64 (.f1 2 t))
  | none => none
def symCmp (op : BinOp) (u v : AC) : Option Bool := match op, u, v with
  | .eql, .ss a, .ss b => bif decide (a = b) then some true else none
  | .neq, .ss a, .ss b => bif decide (a = b) then some false else none
  | _, _, _ => none
def symBin (d : Nat) (op : BinOp) (u v : AC) : Option AC := match op, u, v with
  | .sub, .i .i64 c, .si .i64 a => match (lin d a).2 with
    | some x => bif small6 x && small6 (c, 0) then some (.si .i64 (.f2 3 (.num c) a)) else none
    | none => none
  | op, u, v => match rangeOf d u, rangeOf d v with
    | some x, some y => (cmpR op x y).map .b
    | _, _ => none
def symCv : IntKind → IntKind → Nm → Option AC
  | .i64, .u8, .v n => bif Nat.blt n 2 then some (.si .i64 (.v n)) else none
  | .i64, .u32, .f1 4 t => some (.si .i64 (.f1 4 t))
  | _, _, _ => none
def catG (d : Nat) (a b : Nm) : Option AV := match (lin d a).1, (lin d b).1 with
  | some x, some y => bif small6 x && small6 y then some (.c (.ss (.f2 0 a b))) else none
  | _, _ => none
def symGen (tab : List (Nat × Nat × Nat)) (d : Nat) : Op → List (Option AV) → Option AV
  | .binOp .add _ _ _ _, [some (.c a), some (.c b)] => match termOf a, termOf b with
    | some t, some u => catG d t u
    | _, _ => none
  | o, l => remGen tab o l
def symProp (tab : List (Nat × Nat × Nat)) (d : Nat) (ρ : Vn) : Prop :=
  Std ρ ∧ (ρ.s (.v d)).size ≤ 12 ∧ (∀ y, y < 2 → 0 ≤ ρ.i (.v y) ∧ ρ.i (.v y) < 256) ∧ ∀ x ∈ tab, (ρ.i (.v x.1)).tmod (x.2.1 : Int) = (x.2.2 : Int)
def symEnv (tab : List (Nat × Nat × Nat)) (d : Nat) : Env := ⟨symProp tab d, symCmp, symLen d, symCv, symBin d, symGen tab d⟩
theorem crcF_lt (l : List UInt8) : crcF l < 4294967296 := xor_lt (by decide) (crcL_lt l (by decide))
theorem symEnv_ok {tab : List (Nat × Nat × Nat)} {d : Nat} {ρ : Vn} (h : symProp tab d ρ) : EnvOk (symEnv tab d) ρ := by
  obtain ⟨hs, hL, hb, ht⟩ := h
  have hrange : ∀ {φ : Emb} {c : AC} {v : Value} {x : Int × Int}, rangeOf d c = some x → VC ρ φ c v → ∃ m, v = .int .i64 m ∧ x.1 ≤ m ∧ m ≤ x.2 := by
    intro φ c v x e hv
    unfold rangeOf at e
    split at e
    · cases e; exact ⟨_, hv, Int.le_refl _, Int.le_refl _⟩
    · split at e
      · rename_i y hy
        cases e
        have := (lin_ok hs hL _).2 y hy
        have h2 := rangeL_ok y hL
        rw [← this] at h2
        exact ⟨_, hv, h2⟩
      · cases e
    · cases e
  refine ⟨⟨hs, hL, hb, ht⟩, ?_, ?_, ?_, ?_, ?_⟩
  · intro op u v b e φ x y hx hy P t p q w
    have e' : symCmp op u v = some b := e
    unfold symCmp at e'
    split at e'
    · rename_i a c
      cases hd : decide (a = c) with
      | false => rw [hd] at e'; cases e'
      | true =>
        rw [hd] at e'; cases e'
        have := of_decide_eq_true hd
        subst this
        rw [show x = .string (ρ.s a) from hx, show y = .string (ρ.s a) from hy]
        have := run_strEq (P := P) (w := w) t p q (ρ.s a) (ρ.s a) false
        simpa using this
    · rename_i a c
      cases hd : decide (a = c) with
      | false => rw [hd] at e'; cases e'
      | true =>
        rw [hd] at e'; cases e'
        have := of_decide_eq_true hd
        subst this
        rw [show x = .string (ρ.s a) from hx, show y = .string (ρ.s a) from hy]
        have := run_strEq (P := P) (w := w) t p q (ρ.s a) (ρ.s a) true
        simpa using this
    · cases e'
  · intro op u v r e φ x y hx hy P t p q w
    have e' : symBin d op u v = some r := e
    unfold symBin at e'
    split at e'
    · rename_i c a
      split at e'
      · rename_i z hz
        cases hb2 : (small6 z && small6 (c, 0)) with
        | false => rw [hb2] at e'; cases e'
        | true =>
          rw [hb2] at e'
          cases e'
          rw [Bool.and_eq_true] at hb2
          have hv := (lin_ok hs hL a).2 z hz
          have b1 := small6_ok hb2.1 hL
          have b2 := small6_ok (L := 0) hb2.2 (by omega)
          rw [← hv] at b1
          simp only [LF.val] at b2
          have hxx : x = .int .i64 c := hx
          have hyy : y = .int .i64 (ρ.i a) := hy
          refine ⟨.int .i64 (c - ρ.i a), ?_, ?_⟩
          · rw [hxx, hyy]
            obtain ⟨z', hz1, hz2⟩ := slow_run (ρ := ρ) (φ := φ) (P := P) (w := w) (op := .sub) (k := .i64) (m := c) (n := ρ.i a) rfl t p q
            have : z' = .int .i64 (IntKind.i64.wrap (c - ρ.i a)) := hz1
            rw [hz2, this, IntWalk.i64_in _ (by omega)]
          · show Value.int .i64 (c - ρ.i a) = .int .i64 (ρ.i (.f2 3 (.num c) a))
            rw [hs.sub]
      · cases e'
    · split at e'
      · rename_i xr yr hxr hyr
        obtain ⟨b, hb2, rfl⟩ := map_some e'
        obtain ⟨m, rfl, hm⟩ := hrange hxr hx
        obtain ⟨n, rfl, hn⟩ := hrange hyr hy
        obtain ⟨z', hz1, hz2⟩ := slow_run (ρ := ρ) (φ := φ) (P := P) (w := w) (cmpR_ok hb2 hm hn) t p q
        exact ⟨z', hz2, hz1⟩
      · cases e'
  · intro y c e φ
    have e' : symLen d y = some c := e
    unfold symLen at e'
    split at e'
    · rename_i a k hck
      have hv := (lin_ok hs hL y).1 _ hck
      cases hb2 : (decide (k = 0) && decide (0 ≤ a)) with
      | true =>
        rw [hb2] at e'
        cases e'
        rw [Bool.and_eq_true, decide_eq_true_eq] at hb2
        show Value.int .i64 _ = .int .i64 a
        rw [hv, LF.val, hb2.1]
        simp
      | false =>
        rw [hb2] at e'
        cases e'
        show Value.int .i64 _ = .int .i64 (ρ.i (.f1 2 y))
        rw [hs.len]
    · cases e'
  · intro k q y c e φ
    have e' : symCv k q y = some c := e
    unfold symCv at e'
    split at e'
    · rename_i n
      cases hn : Nat.blt n 2 with
      | false => rw [hn] at e'; cases e'
      | true =>
        rw [hn] at e'
        cases e'
        have := hb n (Nat.le_of_ble_eq_true hn)
        show Value.int .i64 _ = .int .i64 (ρ.i (.v n))
        rw [IntWalk.i64_in _ (by omega)]
    · rename_i t
      cases e'
      have h1 := hs.sum t
      have h2 := crcF_lt (ρ.s t).data.toList
      show Value.int .i64 _ = .int .i64 (ρ.i (.f1 4 t))
      rw [IntWalk.i64_in _ (by rw [h1]; omega)]
    · cases e'
  · intro o l v e P φ f ty w hl
    have e' : symGen tab d o l = some v := e
    unfold symGen at e'
    split at e'
    · rename_i tt x y uu a b
      split at e'
      · rename_i ta tb hta htb
        unfold catG at e'
        split at e'
        · rename_i la lb hla hlb
          cases hb2 : (small6 la && small6 lb) with
          | false => rw [hb2] at e'; cases e'
          | true =>
            rw [hb2] at e'
            cases e'
            rw [Bool.and_eq_true] at hb2
            have hl' : All2 (fun (a : Option AV) x => ∀ b, a = some b → VV ρ φ b (f x)) [some (.c a), some (.c b)] [x, y] := hl
            cases hl' with
            | cons a1 t1 =>
              cases t1 with
              | cons a2 t2 =>
                have e1 := termOf_ok hs hta (a1 _ rfl)
                have e2 := termOf_ok hs htb (a2 _ rfl)
                have s1 := (lin_ok hs hL ta).1 la hla
                have s2 := (lin_ok hs hL tb).1 lb hlb
                have b1 := small6_ok hb2.1 hL
                have b2 := small6_ok hb2.2 hL
                rw [← s1] at b1
                rw [← s2] at b2
                refine ⟨.string (ρ.s (.f2 0 ta tb)), ?_, rfl⟩
                have hle : ¬ (((ρ.s ta).size + (ρ.s tb).size : Nat) : Int) > IntKind.i64.max := by
                  have : IntKind.i64.max = 9223372036854775807 := rfl
                  rw [this]
                  omega
                have hcat : ρ.s ta ++ ρ.s tb = ρ.s (.f2 0 ta tb) := by
                  rw [hs.cat]
                  apply ByteArray.ext
                  simp
                simp only [opR, execOp, e1, e2, eqGuard, binOp, Op.stringOp]
                rw [if_neg hle, hcat]
                simp
        · cases e'
      · cases e'
    · exact remGen_ok ht e' P φ f ty w hl
end Go.Proofs.YtmbbciidknchiaaGreat
