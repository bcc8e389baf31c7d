/-
  Deep values: calls, and regions that keep their order. No function of the program is named here.
-/
import Derived.Test.YtgjindhjgmplgaaGreatDpH
import Derived.MapKept
import Derived.Lib.Overlaps
import Derived.Laws.Externs
import Derived.Orders
set_option linter.unusedVariables false
set_option linter.unusedSimpArgs false
section
set_option linter.constructorNameAsVariable false
namespace Go.Proofs.YtgjindhjgmplgaaGreat
open Go.RowKit
theorem ba_beq (p q : ByteArray) : (p == q) = true ↔ p = q := by
  cases p with
  | mk p => cases q with
    | mk q =>
      show (p == q) = true ↔ _
      rw [beq_iff_eq]
      exact ⟨fun h => by rw [h], fun h => by cases h; rfl⟩
theorem bEq_ok {a b : Bool} (h : bEq a b = true) : a = b := by cases a <;> cases b <;> first | rfl | cases h
section
variable {P : Program} {G : Gd} {φ : Emb} {z : Fz} {fr : Frs} {m : Mem} {nx : Nat} {a : Act} {w : World} {k : KVk} {ty : TypeId} {call : CallF}
theorem CellD.uniq {k : Kd} (hk : bK k = true) {d e : DV} {u v : Value} (h : CellD z k d u) (h' : CellD z k e v) : d = e ↔ u = v := by
  cases k <;> simp only [CellD] at h h'
  · obtain ⟨x, rfl, rfl⟩ := h; obtain ⟨y, rfl, rfl⟩ := h'; simp
  · obtain ⟨x, rfl, rfl⟩ := h; obtain ⟨y, rfl, rfl⟩ := h'; simp
  · obtain ⟨x, rfl, rfl⟩ := h; obtain ⟨y, rfl, rfl⟩ := h'; simp
  · cases hk
theorem RowD.uniq : ∀ {s : Sh} {r q : Row} {us vs : List Value}, s.all bK = true → RowD z s r us → RowD z s q vs → (r = q ↔ us = vs)
  | [], r, q, us, vs, _, h, h' => by
    simp only [RowD] at h h'
    obtain ⟨rfl, rfl⟩ := h; obtain ⟨rfl, rfl⟩ := h'; simp
  | k :: s, r, q, us, vs, hs, h, h' => by
    simp only [RowD] at h h'
    obtain ⟨d, r', v, vs', rfl, rfl, h3, h4⟩ := h
    obtain ⟨e, q', u, us', rfl, rfl, h5, h6⟩ := h'
    simp only [List.all_cons, Bool.and_eq_true] at hs
    rw [List.cons.injEq, List.cons.injEq, h3.uniq hs.1 h5, RowD.uniq hs.2 h4 h6]
theorem eqDV_iff {k : Kd} (hk : bK k = true) {d e : DV} {u v : Value} (h : CellD z k d u) (h' : CellD z k e v) {b : Bool} (hb : eqDV k d e = some b) : b = true ↔ d = e := by
  cases k <;> simp only [CellD] at h h'
  · obtain ⟨x, rfl, rfl⟩ := h; obtain ⟨y, rfl, rfl⟩ := h'; cases hb; rw [DV.b.injEq]; exact decide_eq_true_iff
  · obtain ⟨x, rfl, rfl⟩ := h; obtain ⟨y, rfl, rfl⟩ := h'; cases hb; rw [DV.i.injEq]; exact decide_eq_true_iff
  · obtain ⟨x, rfl, rfl⟩ := h; obtain ⟨y, rfl, rfl⟩ := h'; cases hb; rw [DV.s.injEq]; exact decide_eq_true_iff
  · cases hk
theorem rat_drop {r : Row} {j : Nat} {d : DV} {r' : Row} (h : r.drop j = d :: r') : rat r j = d ∧ r.drop (j + 1) = r' := by
  constructor
  · unfold rat
    have : r[j]? = some d := by
      have := congrArg (fun l => l[0]?) h
      simpa using this
    rw [List.getD_eq_getElem?_getD, this]; rfl
  · have := congrArg (List.drop 1) h
    simpa [List.drop_drop, Nat.add_comm] using this
theorem eqRow_iff : ∀ {s : Sh} {r q : Row} {j : Nat} {r' q' : Row} {us vs : List Value} {b : Bool}, s.all bK = true → RowD z s r' us → RowD z s q' vs → r.drop j = r' → q.drop j = q' → eqRow s r q j = some b → (b = true ↔ r' = q')
  | [], r, q, j, r', q', us, vs, b, _, h, h', _, _, e => by
    simp only [RowD] at h h'
    obtain ⟨rfl, _⟩ := h; obtain ⟨rfl, _⟩ := h'
    cases e; simp
  | k :: s, r, q, j, r', q', us, vs, b, hs, h, h', hr, hq, e => by
    simp only [RowD] at h h'
    obtain ⟨d, r'', v, vs', rfl, rfl, h3, h4⟩ := h
    obtain ⟨d2, q'', u, us', rfl, rfl, h5, h6⟩ := h'
    simp only [List.all_cons, Bool.and_eq_true] at hs
    obtain ⟨e1, e2⟩ := rat_drop hr
    obtain ⟨e3, e4⟩ := rat_drop hq
    simp only [eqRow, e1, e3] at e
    split at e
    · rename_i x y hx hy
      cases e
      have i1 := eqDV_iff hs.1 h3 h5 hx
      have i2 := eqRow_iff hs.2 h4 h6 e2 e4 hy
      rw [List.cons.injEq, ← i1, ← i2]
      unfold an; rw [Bool.and_eq_true]
    · cases e
theorem eqRow_some : ∀ {s : Sh} (r q : Row) (j : Nat), s.all bK = true → ∃ b, eqRow s r q j = some b
  | [], r, q, j, _ => ⟨true, rfl⟩
  | k :: s, r, q, j, hs => by
    simp only [List.all_cons, Bool.and_eq_true] at hs
    obtain ⟨b, hb⟩ := eqRow_some (s := s) r q (j + 1) hs.2
    simp only [eqRow, hb]
    cases k <;> first | exact ⟨_, rfl⟩ | cases hs.1
mutual
theorem dvB_iff : ∀ a b : DV, dvB a b = true ↔ a = b
  | .b x, y => by cases y <;> simp [dvB]
  | .i x, y => by cases y <;> simp [dvB]
  | .s x, y => by cases y <;> simp [dvB]
  | .sl x, .sl y => by simp [dvB, rwsB_iff x y]
  | .sl x, .b y => by simp [dvB]
  | .sl x, .i y => by simp [dvB]
  | .sl x, .s y => by simp [dvB]
theorem rowB_iff : ∀ a b : List DV, rowB a b = true ↔ a = b
  | [], [] => by simp [rowB]
  | [], _ :: _ => by simp [rowB]
  | _ :: _, [] => by simp [rowB]
  | a :: l, b :: m => by simp [rowB, dvB_iff a b, rowB_iff l m]
theorem rwsB_iff : ∀ a b : List (List DV), rwsB a b = true ↔ a = b
  | [], [] => by simp [rwsB]
  | [], _ :: _ => by simp [rwsB]
  | _ :: _, [] => by simp [rwsB]
  | a :: l, b :: m => by simp [rwsB, rowB_iff a b, rwsB_iff l m]
end
theorem keq_iff {a b : Row} : keq a b = true ↔ a = b := rowB_iff a b
theorem keq_of {a b : Row} {c : Bool} (h : c = true ↔ a = b) : c = keq a b := by
  cases c with
  | true => exact (keq_iff.2 (h.1 rfl)).symm
  | false =>
    cases hk : keq a b with
    | false => rfl
    | true => exact absurd (h.2 (keq_iff.1 hk)) (by simp)
theorem keq_symm (a b : Row) : keq a b = keq b a := by
  cases h : keq a b with
  | true => have := keq_iff.1 h; subst this; exact h.symm
  | false =>
    cases h2 : keq b a with
    | false => rfl
    | true => have := keq_iff.1 h2; subst this; rw [h2] at h; cases h
theorem KVv.one {s : Sh} {r : Row} {v : Value} (h : KVv z false s r v) : v.cells = #[v] := cells_one (h.2.2 rfl)
structure KeyOk (P : Program) (z : Fz) (w : World) (kt : TypeId) (ka : Bool) (ks : Sh) : Prop where
  basic : ks.all bK = true
  chk : ∀ (r : Row) (v : Value) (e : Bool), KVv z ka ks r v → (Instr.checkKey e 10000 kt v).run P w = .ok () w
  fnd : ∀ (r : Row) (v : Value), KVv z ka ks r v → ∀ (l : List Row) (es : List MapEntry), All2 (fun p e => KVv z ka ks p e.key) l es → (Instr.findKey kt v es).run P w = .ok ((l.findIdx? fun p => keq p r).bind fun i => es[i]?.map fun e => (i, e.val)) w
theorem findIdx_cons {α : Type} (p : α → Bool) (x : α) (l : List α) : (x :: l).findIdx? p = if p x then some 0 else (l.findIdx? p).map (· + 1) := by
  rw [List.findIdx?_cons]
theorem fnd_plain {kt : TypeId} {d : TypeDesc} (hd : P.underlying kt = some d) {ka : Bool} {ks : Sh} {r : Row} {v : Value} (heq : ∀ (p : Row) (u : Value), KVv z ka ks p u → Instr.sameNow d v u = some (keq p r)) : ∀ (l : List Row) (es : List MapEntry) (i : Nat), All2 (fun p e => KVv z ka ks p e.key) l es → Instr.findNow d v es i = some ((l.findIdx? fun p => keq p r).bind fun j => es[j]?.map fun e => (i + j, e.val)) := by
  intro l es i h
  induction h generalizing i with
  | nil => rfl
  | cons h1 h2 ih =>
    rename_i p e l es
    simp only [Instr.findNow, heq p e.key h1, findIdx_cons]
    cases keq p r with
    | true => simp
    | false =>
      simp only [Bool.false_eq_true, if_false]
      rw [ih (i + 1)]
      cases List.findIdx? (fun p => keq p r) l with
      | none => simp
      | some j => simp [Nat.add_assoc, Nat.add_comm 1 j]
theorem fnd_wide {kt : TypeId} {ka : Bool} {ks : Sh} {r : Row} {v : Value} (heq : ∀ (p : Row) (u : Value), KVv z ka ks p u → (Op.equal kt v u).run P w = .ok (keq p r) w) : ∀ (l : List Row) (es : List MapEntry) (i : Nat), All2 (fun p e => KVv z ka ks p e.key) l es → (Instr.findAsking kt v es i).run P w = .ok ((l.findIdx? fun p => keq p r).bind fun j => es[j]?.map fun e => (i + j, e.val)) w := by
  intro l es i h
  induction h generalizing i with
  | nil => rfl
  | cons h1 h2 ih =>
    rename_i p e l es
    simp only [Instr.findAsking, Sem.run_bind, heq p e.key h1, findIdx_cons, Result.andThen_ok]
    cases keq p r with
    | true => simp
    | false =>
      simp only [Bool.false_eq_true, if_false]
      rw [ih (i + 1)]
      cases List.findIdx? (fun p => keq p r) l with
      | none => simp
      | some j => simp [Nat.add_assoc, Nat.add_comm 1 j]
theorem key_bsc {kt : TypeId} {d : TypeDesc} (hd : P.underlying kt = some d) {k : Kd} (hk : bK k = true) (heq : ∀ (x y : DV) (u v : Value), CellD z k x u → CellD z k y v → Instr.sameNow d u v = some (keq [y] [x])) (hc : ∀ (x : DV) (u : Value) (e : Bool), CellD z k x u → (Instr.checkKey e 10000 kt u).run P w = .ok () w) : KeyOk P z w kt false [k] := by
  have cell : ∀ {r : Row} {v : Value}, KVv z false [k] r v → ∃ x, r = [x] ∧ CellD z k x v := by
    intro r v h
    have h1 := h.1
    rw [h.one] at h1
    simp only [RowD] at h1
    obtain ⟨x, r', u, vs', rfl, e2, h3, rfl, _⟩ := h1
    simp at e2
    exact ⟨x, rfl, by rw [e2.1]; exact h3⟩
  refine ⟨by simp [hk], fun r v e h => ?_, fun r v h l es hl => ?_⟩
  · obtain ⟨x, rfl, h1⟩ := cell h; exact hc x v e h1
  · obtain ⟨x, rfl, h1⟩ := cell h
    have := fnd_plain hd (r := [x]) (v := v) (fun p u hp => by
      obtain ⟨y, rfl, h2⟩ := cell hp
      exact heq x y v u h1 h2) l es 0 hl
    rw [MapKept.run_findKey hd this]
    simp
theorem key_struct {kt : TypeId} {fs : Array Field} (hu : P.underlying kt = some (.struct fs)) {s : Sh} (he : eqT P kt = some s) (hf : fldB P fs.toList 0 = true) (hl : fs.toList.length ≤ s.length) (hb : s.all bK = true) : KeyOk P z w kt true s := by
  have agg : ∀ {r : Row} {v : Value}, KVv z true s r v → ∃ cs : List Value, v = .agg cs.toArray ∧ RowD z s r cs := by
    intro r v h
    obtain ⟨cs, rfl⟩ := h.2.1 rfl
    exact ⟨cs.toList, by simp, h.1⟩
  refine ⟨hb, fun r v e h => ?_, fun r v h l es hl => ?_⟩
  · obtain ⟨cs, rfl, hr⟩ := agg h
    have hlen := hr.all.2.1
    show (Instr.checkKey e (9999 + 1) kt _).run P w = _
    unfold Instr.checkKey
    simp only [Sem.run_bind, run_underlying hu, Result.andThen_ok]
    rw [← Array.forIn_toList]
    have go : ∀ (l : List Field) (n : Nat), fldB P l n = true → n + l.length ≤ cs.length → (forIn l () fun f (_ : Unit) => (do
        if f.name ≠ "_" then Instr.checkKey e 9999 f.type (← part f.type cs.toArray f.offset)
        pure (ForInStep.yield ()) : Sem (ForInStep Unit))).run P w = .ok () w := by
      intro l
      induction l with
      | nil => intro n _ _; rfl
      | cons f l ih =>
        intro n h1 h2
        obtain ⟨g1, g2⟩ := and2 (show (Nat.beq f.offset n && (bscT P f.type && ((match aggT P f.type with | some (false, 1) => true | _ => false) && fldB P l (n + 1)))) = true from h1)
        obtain ⟨g2, g3⟩ := and2 g2
        obtain ⟨g3, g4⟩ := and2 g3
        have g1 := Nat.eq_of_beq_eq_true g1
        have ha : aggT P f.type = some (false, 1) := by
          split at g3
          · assumption
          · cases g3
        have hlt : n < cs.length := by simp at h2; omega
        have hp : (part f.type cs.toArray f.offset).run P w = .ok cs[n] w := by
          rw [g1]
          exact run_part ha (vs := cs) (off := n) (fun h => nomatch h) (fun _ => List.getElem?_eq_getElem hlt) w
        have hck : (Instr.checkKey e 9999 f.type cs[n]).run P w = .ok () w := by
          show (Instr.checkKey e (9998 + 1) f.type cs[n]).run P w = _
          unfold Instr.checkKey
          unfold bscT at g2
          split at g2
          · rename_i hq; simp [run_underlying hq]
          · rename_i hq; simp [run_underlying hq]
          · rename_i hq; simp [run_underlying hq]
          · cases g2
        rw [List.forIn_cons]
        have hih := ih (n + 1) g4 (by simp at h2 ⊢; omega)
        by_cases hn : f.name = "_"
        · simp only [hn, Sem.run_bind, Sem.run_pure, Result.andThen_ok, ne_eq, not_true_eq_false, if_false]
          exact hih
        · simp only [hn, Sem.run_bind, Sem.run_pure, Result.andThen_ok, ne_eq, not_false_eq_true, if_true, hp, hck]
          exact hih
    have := go fs.toList 0 hf (by simp at hl ⊢; omega)
    exact congrArg (fun r => Result.andThen r fun (_ : PUnit) w' => Result.ok () w') this
  · obtain ⟨cs, rfl, hr⟩ := agg h
    have hwide : (Instr.findKey kt (.agg cs.toArray) es).run P w = (Instr.findAsking kt (.agg cs.toArray) es).run P w := by
      cases es with
      | nil => simp [Instr.findKey, run_underlying hu, Instr.findNow, Instr.findAsking]
      | cons e es => simp [Instr.findKey, run_underlying hu, Instr.findNow, Instr.sameNow]
    rw [hwide]
    have := fnd_wide (P := P) (w := w) (kt := kt) (r := r) (v := .agg cs.toArray) (fun p u hp => by
      obtain ⟨cs2, rfl, hr2⟩ := agg hp
      obtain ⟨b, hb'⟩ := eqRow_some r p 0 hb
      unfold eqT at he
      split at he
      · cases he
      · split at he
        · rename_i s1 n h1 h2
          split at he
          · rename_i hn
            cases he
            obtain ⟨dd, i, hu2, hi, hd, hsz⟩ := aggT_desc h2
            have hst : szT P kt = some s.length := by simp [szT, hi, hsz, hn]
            obtain ⟨p', q', hp', hq', hrun⟩ := plain_run (P := P) (z := z) (w := w) 8 kt s h1 hst 10000 (by omega) s r p cs cs2 0 b hr hr2 (by simp) hb'
            rw [run_part_agg hu2 hd hst] at hp' hq'
            cases hp'; cases hq'
            have l1 := hr.all.2.1
            have l2 := hr2.all.2.1
            rw [List.drop_zero, List.drop_zero, List.take_of_length_le (by omega), List.take_of_length_le (by omega)] at hrun
            show (Op.equalIn 10000 kt _ _).run P w = _
            rw [hrun]
            congr 1
            rw [keq_symm]
            exact keq_of (eqRow_iff hb hr hr2 (by simp) (by simp) hb')
          · cases he
        · cases he) l es 0 hl
    rw [this]
    simp
theorem keyT_ok {kt : TypeId} {ka : Bool} {ks : Sh} (h : keyT P kt = some (ka, ks)) : KeyOk P z w kt ka ks := by
  have ck : ∀ {d : TypeDesc}, P.underlying kt = some d → (d = .bool ∨ (∃ q, d = .int q) ∨ d = .string) → ∀ (u : Value) (e : Bool), (Instr.checkKey e 10000 kt u).run P w = .ok () w := by
    intro d hd hk u e
    show (Instr.checkKey e (9999 + 1) kt u).run P w = _
    unfold Instr.checkKey
    rcases hk with rfl | ⟨q, rfl⟩ | rfl <;> simp [run_underlying hd]
  unfold keyT at h
  split at h
  · rename_i hu
    cases h
    refine key_bsc hu rfl (fun x y u v h1 h2 => ?_) fun x u e _ => ck hu (.inl rfl) u e
    simp only [CellD] at h1 h2
    obtain ⟨p, rfl, rfl⟩ := h1; obtain ⟨q, rfl, rfl⟩ := h2
    simp only [Instr.sameNow]
    congr 1
    exact keq_of ⟨fun h => by rw [eq_of_beq h], fun h => by cases h; exact beq_self_eq_true _⟩
  · rename_i q hu
    cases h
    refine key_bsc hu rfl (fun x y u v h1 h2 => ?_) fun x u e _ => ck hu (.inr (.inl ⟨_, rfl⟩)) u e
    simp only [CellD] at h1 h2
    obtain ⟨p, rfl, rfl⟩ := h1; obtain ⟨q, rfl, rfl⟩ := h2
    simp only [Instr.sameNow, if_true]
    congr 1
    exact keq_of ⟨fun h => by rw [eq_of_beq h], fun h => by cases h; exact beq_self_eq_true _⟩
  · rename_i hu
    cases h
    refine key_bsc hu rfl (fun x y u v h1 h2 => ?_) fun x u e _ => ck hu (.inr (.inr rfl)) u e
    simp only [CellD] at h1 h2
    obtain ⟨p, rfl, rfl⟩ := h1; obtain ⟨q, rfl, rfl⟩ := h2
    simp only [Instr.sameNow]
    congr 1
    exact keq_of ⟨fun h => by rw [(ba_beq p q).1 h], fun h => by cases h; exact (ba_beq p p).2 rfl⟩
  · rename_i fs hu
    split at h
    · rename_i s he
      cases hb : (fldB P fs.toList 0 && (Nat.ble fs.toList.length s.length && s.all bK)) with
      | false => rw [hb] at h; cases h
      | true =>
        rw [hb] at h; cases h
        obtain ⟨h1, h2⟩ := and2 hb
        obtain ⟨h2, h3⟩ := and2 h2
        exact key_struct hu he h1 (Nat.le_of_ble_eq_true h2) h3
    · cases h
  · cases h
theorem mapT_ok {t : TypeId} {ka va : Bool} {ks vs : Sh} (h : mapT P t = some (ka, ks, va, vs)) : ∃ kt et n, P.underlying t = some (.map kt et) ∧ keyT P kt = some (ka, ks) ∧ aggT P et = some (va, n) ∧ n = vs.length ∧ elemT P t = et := by
  unfold mapT at h
  split at h
  · rename_i kt et hu
    split at h
    · rename_i a s b n e h1 h2 h3
      cases hb : Nat.beq n e.length with
      | false => rw [hb] at h; cases h
      | true =>
        rw [hb] at h; cases h
        exact ⟨kt, et, n, hu, h1, h2, Nat.eq_of_beq_eq_true hb, by unfold elemT; rw [hu]⟩
    · cases h
  · cases h
theorem mapAt_ok {t : TypeId} {ka va : Bool} {ks vs : Sh} {c : DC} {y : Nat} {l : List (Row × Row)} {u : Value} (hm : MR G φ z m w) (ht : mapT P t = some (ka, ks, va, vs)) (h : mapAt m (mapT P t) c = some (y, l)) (hc : CV φ z c u) : look y m = some (.P ka va ks vs l) ∧ φ y = some u ∧ ∃ (b : Nat) (es : Array MapEntry) (clock : Nat), u = .map (some b) ∧ w.heap[b]? = some (.map es clock) ∧ All2 (fun p e => KVv z ka ks p.1 e.key ∧ KVv z va vs p.2 e.val) l es.toList := by
  rw [ht] at h
  unfold mapAt at h
  split at h
  · rename_i a s b e y' heq
    cases heq
    split at h
    · rename_i a' b' s' e' l' hy
      cases hb : (bEq ka a' && (bEq va b' && (shEq ks s' && shEq vs e'))) with
      | false => rw [hb] at h; cases h
      | true =>
        rw [hb] at h; cases h
        obtain ⟨h1, h2⟩ := and2 hb
        obtain ⟨h2, h3⟩ := and2 h2
        obtain ⟨h3, h4⟩ := and2 h3
        have := bEq_ok h1; subst this
        have := bEq_ok h2; subst this
        have := shEq_eq _ _ h3; subst this
        have := shEq_eq _ _ h4; subst this
        obtain ⟨bk, es, clock, q1, q2, q3⟩ := hm.blk _ _ hy
        obtain ⟨hu, _⟩ := hc
        rw [q1] at hu; cases hu
        exact ⟨hy, q1, bk, es, clock, rfl, q2, q3⟩
    · cases h
  · cases h
theorem kvv_of {s : Sh} {v : V} {r : Row} {u : Value} (h : VR φ z v u) (e : rowFor s v = some r) {ag : Bool} (ha : isAggV v = ag) : KVv z ag s r u := by
  refine ⟨rowFor_ok e h, fun hg => ?_, fun hg => ?_⟩
  · cases v with
    | c x => rw [← ha] at hg; cases hg
    | r s' q => obtain ⟨vs, rfl, _⟩ := h; exact ⟨_, rfl⟩
    | a l => obtain ⟨vs, rfl, _⟩ := h; exact ⟨_, rfl⟩
    | t l => cases e
  · cases v with
    | c x => exact CV.one (φ := φ) (z := z) (c := x) h
    | r s' q => rw [← ha] at hg; cases hg
    | a l => rw [← ha] at hg; cases hg
    | t l => cases e
theorem keys2 {ka va : Bool} {ks vs : Sh} {l : List (Row × Row)} {es : List MapEntry} (h : All2 (fun p e => KVv z ka ks p.1 e.key ∧ KVv z va vs p.2 e.val) l es) : All2 (fun p e => KVv z ka ks p e.key) (l.map (·.1)) es := by
  induction h with
  | nil => exact .nil
  | cons h _ ih => exact .cons h.1 ih
theorem VR.vs0 {v : V} {u : Value} (h : VR φ z v u) (hn : ∀ l, v ≠ .t l) : VS φ z v u := by
  cases v with
  | t l => exact absurd rfl (hn l)
  | _ => exact h
theorem d_makeMap {t : TypeId} (g : Gv G φ z fr m nx a w k) (h : dop P call fr m nx (.makeMap t none) k) : Done P G φ z nx (.makeMap t none) ty a.eval w k := by
  simp only [dop] at h
  split at h
  · rename_i ka ks va vs ht
    have hnew := g.new _ _ _ h nx (Nat.le_refl _) (Nat.lt_succ_self _)
    have hle := Emb.le_add hnew (.map (some w.heap.size))
    refine ⟨_, _, _, φ.add nx (.map (some w.heap.size)), z, .map (some w.heap.size), { w with heap := w.heap.push (.map #[] 0) }, .value (.map (some w.heap.size)), h, hle, .refl z, ?_, Dom.add _ _ _, Nat.le_succ _, ⟨Emb.add_same _ _ _, _, rfl⟩, ?_, rfl⟩
    · exact g.m.new hnew (o := some (.map #[] 0)) rfl rfl rfl rfl rfl ⟨w.heap.size, #[], 0, Emb.add_same _ _ _, by simp, .nil⟩
    · simp [opR, execOp, Instr.makeMap, run_newObj]
  · exact h.elim
theorem find_map {ka va : Bool} {ks vs : Sh} {kr : Row} : ∀ {l : List (Row × Row)} {es : List MapEntry}, All2 (fun p e => KVv z ka ks p.1 e.key ∧ KVv z va vs p.2 e.val) l es →
    ((l.map (·.1)).findIdx? (fun p => keq p kr) = none ∧ mhas l kr = false ∧ (∀ x, mget l kr x = x) ∧ ∀ v, mput l kr v = l ++ [(kr, v)]) ∨
    ∃ i p e, (l.map (·.1)).findIdx? (fun p => keq p kr) = some i ∧ l[i]? = some p ∧ es[i]? = some e ∧ keq p.1 kr = true ∧ KVv z ka ks p.1 e.key ∧ KVv z va vs p.2 e.val ∧ mhas l kr = true ∧ (∀ x, mget l kr x = p.2) ∧ ∀ v, mput l kr v = l.set i (p.1, v)
  | [], _, .nil => .inl ⟨rfl, rfl, fun _ => rfl, fun _ => rfl⟩
  | p :: l, e :: es, .cons h t => by
    rw [List.map_cons, findIdx_cons]
    cases hk : keq p.1 kr with
    | true => exact .inr ⟨0, p, e, by simp, rfl, rfl, hk, h.1, h.2, by simp [mhas, hk], fun x => by simp [mget, hk], fun v => by simp [mput, mputG, hk]⟩
    | false =>
      rcases find_map (kr := kr) t with ⟨h1, h2, h3, h4⟩ | ⟨i, p', e', h1, h2, h3, h4, h5, h6, h7, h8, h9⟩
      · refine .inl ⟨by simp [h1], by simpa [mhas, hk] using h2, fun x => ?_, fun v => by have := h4 v; simp only [mput] at this; simp [mput, mputG, hk, this]⟩
        have := h3 x
        simp only [mget, List.find?_cons, hk] at this ⊢
        exact this
      · refine .inr ⟨i + 1, p', e', by simp [h1], by simpa using h2, by simpa using h3, h4, h5, h6, by simpa [mhas, hk] using h7, fun x => ?_, fun v => by have := h9 v; simp only [mput] at this; simp [mput, mputG, hk, this]⟩
        have := h8 x
        simp only [mget, List.find?_cons, hk] at this ⊢
        exact this
theorem d_lookup {t : TypeId} {y i : Operand} {ok : Bool} (g : Gv G φ z fr m nx a w k) (h : dop P call fr m nx (.lookup t y i ok) k) : Done P G φ z nx (.lookup t y i ok) ty a.eval w k := by
  obtain ⟨c, h1, hA⟩ := onC_ok h
  obtain ⟨iv, h2, hB⟩ := oP_ok hA
  clear h hA
  have hc : CV φ z c (a.eval y) := ev_ok g.fr h1
  have hi : VR φ z iv (a.eval i) := ev_ok g.fr h2
  unfold lookM at hB
  split at hB
  · rename_i ka ks va vs y' l ht hat
    split at hB
    · rename_i ir e' zr hr hz
      obtain ⟨hcond, hC⟩ := fk_yes hB
      obtain ⟨v, hv, hk⟩ := oP_ok hC
      clear hB hC
      obtain ⟨c1, c2'⟩ := and2 hcond
      obtain ⟨c3, c2⟩ := and2 c2'
      have c1 := bEq_ok c1
      have c2 := shEq_eq _ _ c2
      subst c2
      obtain ⟨kt, et, n, q1, q2, q3, q4, q5⟩ := mapT_ok ht
      have K := keyT_ok (z := z) (w := w) q2
      obtain ⟨hy, hφ, b, es, clock, hu, hb, hall⟩ := mapAt_ok g.m ht hat hc
      have hkv : KVv z ka ks ir (a.eval i) := kvv_of hi hr c1
      have hck := K.chk ir _ es.isEmpty hkv
      have hfd := K.fnd ir _ hkv _ _ (keys2 hall)
      rw [q5] at hz
      obtain ⟨inf, zv, z1, z2, z3, z4⟩ := zeroR_ok (z := z) hz
      obtain ⟨dd, inf', u1, u2, u3, u4⟩ := aggT_desc q3
      have val : ∀ {row : Row} {uv : Value}, KVv z va vs row uv → valAt va vs vs row 0 = some v → VR φ z v uv := by
        intro row uv hkv hv
        have hf : fits vs 0 vs = true := by unfold fits; simp [shEq_refl]
        obtain ⟨i1, i2, i3⟩ := valAt_ok (φ := φ) hkv.1 hf hv
        have hlen := hkv.1.all.2.1
        have e0 : (uv.cells.toList.drop 0).take vs.length = uv.cells.toList := by rw [List.drop_zero, List.take_of_length_le (by omega)]
        rw [e0] at i1
        have : mkU va uv.cells.toList = uv := by
          cases va with
          | true => obtain ⟨cs, rfl⟩ := hkv.2.1 rfl; simp [mkU, Value.cells]
          | false => rw [hkv.one]; rfl
        rwa [this] at i1
      have zkv : KVv z va vs zr zv := by
        rw [q5] at c3
        unfold zAgg at c3
        rw [z1] at c3
        dsimp only at c3
        rw [z2] at c3
        refine ⟨z4, fun hva => ?_, fun hva => ?_⟩
        · subst hva
          cases zv <;> first | exact ⟨_, rfl⟩ | cases c3
        · subst hva
          cases zv <;> first | (cases c3; done) | exact c3
      have fin : ∀ {u2 : Value} {o : Bool}, VR φ z v u2 → o = mhas l ir → (opR a.eval (.lookup t y i ok) ty).run P w = .ok (.value (if ok then .tuple #[u2, .bool o] else u2)) w → Done P G φ z nx (.lookup t y i ok) ty a.eval w k := by
        intro u2 o hv2 ho hrun
        refine Done.val g hk ?_ hrun
        have hvs : VS φ z v u2 := hv2.vs0 (by
          intro l hl
          subst hl
          unfold valAt at hv
          cases va with
          | true => cases hv
          | false => simp only [cond_false] at hv; split at hv <;> cases hv)
        cases ok with
        | true => exact ⟨[u2, .bool o], rfl, .cons hvs (.cons (by rw [ho]; rfl) .nil)⟩
        | false => exact hv2
      have hget : (getObj b).run P w = .ok (.map es clock) w := MapKept.run_getObj_map hb
      rcases find_map (kr := ir) hall with ⟨f1, f2, f3, f4⟩ | ⟨j, p, e, f1, f2, f3, f4, f5, f6, f7, f8, f9⟩
      · rw [f3] at hv
        refine fin (u2 := zv) (o := false) (val zkv hv) f2.symm ?_
        rw [f1] at hfd
        cases ok <;> simp [opR, execOp, Instr.lookup, run_underlying q1, hu, hget, hck, hfd, z3]
      · rw [f8] at hv
        refine fin (u2 := e.val) (o := true) (val f6 hv) f7.symm ?_
        rw [f1] at hfd
        have f3' : es[j]? = some e := by simpa using f3
        simp only [Option.bind_some, Array.getElem?_toList, f3', Option.map_some] at hfd
        cases ok <;> simp [opR, execOp, Instr.lookup, run_underlying q1, hu, hget, hck, hfd]
    · exact hB.elim
  · exact hB.elim
theorem sameBits_self : ∀ {v : Value} (n : Nat), (match v with | .bool _ => true | .int _ _ => true | .string _ => true | _ => false) = true → Instr.sameBits n v v = true := by
  intro v n h
  cases v <;> first | (cases h; done) | (simp [Instr.sameBits]; done) | (simp only [Instr.sameBits]; exact (ba_beq _ _).2 rfl)
theorem cell_bits {kd : Kd} (hk : bK kd = true) {d : DV} {v : Value} (h : CellD z kd d v) (n : Nat) : Instr.sameBits n v v = true := by
  cases kd <;> simp only [CellD] at h
  · obtain ⟨x, rfl, rfl⟩ := h; exact sameBits_self n rfl
  · obtain ⟨x, rfl, rfl⟩ := h; exact sameBits_self n rfl
  · obtain ⟨x, rfl, rfl⟩ := h; exact sameBits_self n rfl
  · cases hk
theorem row_bits : ∀ {s : Sh} {r : Row} {vs : List Value}, s.all bK = true → RowD z s r vs → ∀ n, (vs.zip vs).all (fun p => Instr.sameBits n p.1 p.2) = true
  | [], r, vs, _, h, n => by
    simp only [RowD] at h
    obtain ⟨_, rfl⟩ := h; rfl
  | kd :: s, r, vs, hs, h, n => by
    simp only [RowD] at h
    obtain ⟨d, r', v, vs', rfl, rfl, h3, h4⟩ := h
    simp only [List.all_cons, Bool.and_eq_true] at hs
    rw [List.zip_cons_cons, List.all_cons, cell_bits hs.1 h3, row_bits hs.2 h4 n]; rfl
theorem key_bits {ka : Bool} {ks : Sh} {r : Row} {u v : Value} (hs : ks.all bK = true) (h : KVv z ka ks r u) (h' : KVv z ka ks r v) : u = v ∧ Instr.sameBits 10000 u v = true := by
  have e := (h.1.uniq hs h'.1).1 rfl
  cases ka with
  | true =>
    obtain ⟨cs, rfl⟩ := h.2.1 rfl
    obtain ⟨cs2, rfl⟩ := h'.2.1 rfl
    have : cs = cs2 := Array.ext' e
    subst this
    refine ⟨rfl, ?_⟩
    show Instr.sameBits (9999 + 1) _ _ = true
    simp only [Instr.sameBits, beq_self_eq_true, Bool.true_and]
    exact row_bits hs h.1 9999
  | false =>
    have e1 := h.one
    have e2 := h'.one
    rw [e1, e2] at e
    have : u = v := by simpa using e
    subst this
    refine ⟨rfl, ?_⟩
    have h1 := h.1
    rw [e1] at h1
    obtain ⟨k1, k2, k3⟩ := h1.all
    have hl : ks.length = 1 := by simpa using k2.symm
    obtain ⟨d, v', _, h5, h6⟩ := k3 0 ks[0] (List.getElem?_eq_getElem (by omega))
    simp at h5
    subst h5
    exact cell_bits (List.all_eq_true.1 hs _ (List.getElem_mem _)) h6 10000
theorem ins_ok {t : TypeId} {y i x : Operand} {op : Op} (hop : op = .insert t y i x ∨ op = .mapUpdate t y i x) (g : Gv G φ z fr m nx a w k) (h : onC fr y fun c => oP (ev fr i) fun iv => oP (ev fr x) fun v => insM P t m c iv v fun m' => k (.t []) m' nx) : Done P G φ z nx op ty a.eval w k := by
  obtain ⟨c, h1, hA⟩ := onC_ok h
  obtain ⟨iv, h2, hB⟩ := oP_ok hA
  obtain ⟨v, h3, hC⟩ := oP_ok hB
  clear h hA hB
  have hc : CV φ z c (a.eval y) := ev_ok g.fr h1
  have hi : VR φ z iv (a.eval i) := ev_ok g.fr h2
  have hx : VR φ z v (a.eval x) := ev_ok g.fr h3
  unfold insM at hC
  split at hC
  · rename_i ka ks va vs y' l ht hat
    split at hC
    · rename_i ir r hir hr
      obtain ⟨hcond, hk⟩ := fk_yes hC
      clear hC
      obtain ⟨c1, c2⟩ := and2 hcond
      have c1 := bEq_ok c1
      have c2 := bEq_ok c2
      obtain ⟨kt, et, n, q1, q2, q3, q4, q5⟩ := mapT_ok ht
      have K := keyT_ok (z := z) (w := w) q2
      obtain ⟨hy, hφ, b, es, clock, hu, hb, hall⟩ := mapAt_ok g.m ht hat hc
      have hkv : KVv z ka ks ir (a.eval i) := kvv_of hi hir c1
      have hvv : KVv z va vs r (a.eval x) := kvv_of hx hr c2
      have hck := K.chk ir _ false hkv
      have hfd := K.fnd ir _ hkv _ _ (keys2 hall)
      have hget : (getObj b).run P w = .ok (.map es clock) w := MapKept.run_getObj_map hb
      have fin : ∀ {es' : Array MapEntry} {clock' : Nat} {l' : List (Row × Row)}, mput l ir r = l' → All2 (fun p e => KVv z ka ks p.1 e.key ∧ KVv z va vs p.2 e.val) l' es'.toList → (Instr.mapUpdate t (a.eval y) (a.eval i) (a.eval x)).run P w = .ok () { w with heap := w.heap.setIfInBounds b (.map es' clock') } → Done P G φ z nx op ty a.eval w k := by
        intro es' clock' l' hl hall' hrun
        rw [hl] at hk
        obtain ⟨s1, s2⟩ := MapKept.heap_set (o' := .map es' clock') hb
        refine ⟨_, _, _, φ, z, undef, { w with heap := w.heap.setIfInBounds b (.map es' clock') }, .skip, hk, .refl φ, .refl z, ?_, Dom.refl _ _, Nat.le_refl _, undef_ok, ?_, rfl⟩
        · exact g.m.upd hy rfl hφ (by rw [hu]; rfl) s2 (by simp) rfl rfl rfl ⟨b, es', clock', by rw [hφ, hu], s1, hall'⟩
        · rcases hop with rfl | rfl <;> (simp only [opR, execOp]; rw [Sem.run_bind, hrun]; rfl)
      rcases find_map (kr := ir) hall with ⟨f1, f2, f3, f4⟩ | ⟨j, p, e, f1, f2, f3, f4, f5, f6, f7, f8, f9⟩
      · refine fin (es' := es.push { key := a.eval i, val := a.eval x, born := clock }) (clock' := clock + 1) (f4 r) ?_ ?_
        · simp only [Array.toList_push]
          exact hall.append (.cons ⟨hkv, hvv⟩ .nil)
        · rw [f1] at hfd
          simp [Instr.mapUpdate, run_underlying q1, hu, hget, hck, hfd, MapKept.run_setObj_map _ hb]
      · have f3' : es[j]? = some e := by simpa using f3
        have hke := keq_iff.1 f4
        obtain ⟨b1, b2⟩ := key_bits K.basic (hke ▸ f5) hkv
        refine fin (es' := es.modify j fun e => { e with key := a.eval i, val := a.eval x }) (clock' := clock) (f9 r) ?_ ?_
        · have hlt := (Array.getElem?_eq_some_iff.1 f3').1
          have hm : (es.modify j fun e => { e with key := a.eval i, val := a.eval x }).toList = es.toList.set j { e with key := a.eval i, val := a.eval x } := by
            apply List.ext_getElem?
            intro q
            rw [Array.getElem?_toList, Array.getElem?_modify]
            by_cases hq : j = q
            · subst hq
              rw [if_pos rfl, f3', List.getElem?_set_self (by simpa using hlt)]; rfl
            · rw [if_neg hq, List.getElem?_set_ne hq, Array.getElem?_toList]
          rw [hm]
          exact hall.set j ⟨by rw [hke]; exact hkv, hvv⟩
        · rw [f1] at hfd
          simp only [Option.bind_some, Array.getElem?_toList, f3', Option.map_some] at hfd
          have hkey : (Instr.keyThatStays (((es[j]?).map (·.key)).getD (a.eval i)) (a.eval i)).run P w = .ok (a.eval i) w := by
            rw [f3']
            show (Instr.keyThatStays e.key (a.eval i)).run P w = _
            unfold Instr.keyThatStays
            rw [if_pos b2]; rfl
          simp only [Instr.mapUpdate, Sem.run_bind, run_underlying q1, hu, hget, hck, hfd, hkey, Result.andThen_ok, MapKept.run_setObj_map _ hb]
    · exact hC.elim
  · exact hC.elim
end
end Go.Proofs.YtgjindhjgmplgaaGreat
end
section
set_option linter.constructorNameAsVariable false
namespace Go.Proofs.YtgjindhjgmplgaaGreat
open Go.RowKit
theorem look_append {α : Type} (x : Nat) : ∀ (l l' : List (Nat × α)), look x (l ++ l') = match look x l with | some v => some v | none => look x l'
  | [], l' => rfl
  | (y, v) :: l, l' => by
    rw [List.cons_append, look_cons, look_cons, look_append x l l']
    cases Nat.beq y x <;> rfl
theorem look_reach : ∀ (n : Nat) (m : Mem) (ids : List Nat) (x : Nat) (B : Blk), look x (reach m n ids) = some B → look x m = some B
  | 0, m, ids, x, B, h => by cases h
  | n + 1, m, [], x, B, h => by cases h
  | n + 1, m, y :: l, x, B, h => by
    simp only [reach] at h
    split at h
    · rename_i b hb
      by_cases hx : y = x
      · subst hx; rw [look_same] at h; cases h; exact hb
      · rw [look_ne hx] at h
        exact (look_drp_some (look_reach n _ _ x B h)).2
    · exact look_reach n _ _ x B h
theorem look_without : ∀ (t m : Mem) (x : Nat), look x (without m t) = match look x t with | some _ => none | none => look x m
  | [], m, x => rfl
  | (y, b) :: t, m, x => by
    have h : look x (without (drp y m) t) = _ := look_without t (drp y m) x
    show look x (without (drp y m) t) = _
    rw [h]
    by_cases hx : y = x
    · subst hx
      rw [look_same]
      cases look y t with
      | none => exact look_drp_same y m
      | some b' => rfl
    · rw [look_ne hx, look_drp_ne (fun e => hx e.symm)]
section
variable {P : Program} {G : Gd} {φ φ' : Emb} {z z' : Fz} {fr : Frs} {m E : Mem} {nx : Nat} {a : Act} {w w' : World} {k : KVk} {call : CallF}
theorem CV.part {c : DC} {v : Value} (h : CV φ z c v) (hi : ∀ x ∈ idsC c, φ' x = φ x) : CV φ' z c v := by
  cases c with
  | pv x off => obtain ⟨b, h1, h2⟩ := h; exact ⟨b, by rw [hi x (by simp [idsC])]; exact h1, h2⟩
  | pw x e i off => obtain ⟨b, o, n, cap, h1, h2⟩ := h; exact ⟨b, o, n, cap, by rw [hi x (by simp [idsC])]; exact h1, h2⟩
  | bp x e lo hi' => obtain ⟨p, n, cap, l, u, h1, h2⟩ := h; exact ⟨p, n, cap, l, u, by rw [hi x (by simp [idsC])]; exact h1, h2⟩
  | mp x => exact ⟨by rw [hi x (by simp [idsC])]; exact h.1, h.2⟩
  | oe x n => obtain ⟨b, h1, h2⟩ := h; exact ⟨b, by rw [hi x (by simp [idsC])]; exact h1, h2⟩
  | fb f x => obtain ⟨b, h1, h2⟩ := h; exact ⟨b, by rw [hi x (by simp [idsC])]; exact h1, h2⟩
  | ow x => exact ⟨by rw [hi x (by simp [idsC])]; exact h.1, h.2⟩
  | fn f l =>
    obtain ⟨xs, h1, h2⟩ := h
    refine ⟨xs, h1, ?_⟩
    have hl : ∀ x ∈ l, φ' x = φ x := hi
    clear h1 hi
    induction h2 with
    | nil => exact .nil
    | cons h t ih =>
      obtain ⟨b, h3, h4⟩ := h
      exact .cons ⟨b, by rw [hl _ (by simp)]; exact h3, h4⟩ (ih fun x hx => hl x (by simp [hx]))
  | _ => exact h
theorem CVs.part {l : List DC} {vs : List Value} (h : All2 (CV φ z) l vs) (hi : ∀ x ∈ l.flatMap idsC, φ' x = φ x) : All2 (CV φ' z) l vs := by
  induction h with
  | nil => exact .nil
  | cons h t ih => exact .cons (h.part fun x hx => hi x (by simp [hx])) (ih fun x hx => hi x (by simp only [List.flatMap_cons, List.mem_append]; exact .inr hx))
theorem VS.part {v : V} {u : Value} (h : VS φ z v u) (hi : ∀ x ∈ idsP v, φ' x = φ x) : VS φ' z v u := by
  cases v with
  | c c => exact CV.part h hi
  | r s r => exact h
  | a l => obtain ⟨vs, h1, h2⟩ := h; exact ⟨vs, h1, CVs.part h2 hi⟩
  | t l => exact h
theorem VSs.part {l : List V} {vs : List Value} (h : All2 (VS φ z) l vs) (hi : ∀ x ∈ l.flatMap idsP, φ' x = φ x) : All2 (VS φ' z) l vs := by
  induction h with
  | nil => exact .nil
  | cons h t ih => exact .cons (h.part fun x hx => hi x (by simp [hx])) (ih fun x hx => hi x (by simp only [List.flatMap_cons, List.mem_append]; exact .inr hx))
theorem VR.part {v : V} {u : Value} (h : VR φ z v u) (hi : ∀ x ∈ idsV v, φ' x = φ x) : VR φ' z v u := by
  cases v with
  | t l =>
    obtain ⟨vs, h1, h2⟩ := h
    refine ⟨vs, h1, ?_⟩
    exact VSs.part h2 hi
  | c c => exact VS.part (v := .c c) h hi
  | r s r => exact h
  | a l => exact VS.part (v := .a l) h hi
theorem VRs.part {l : List V} {vs : List Value} (h : All2 (VR φ z) l vs) (hi : ∀ v ∈ l, ∀ x ∈ idsV v, φ' x = φ x) : All2 (VR φ' z) l vs := by
  induction h with
  | nil => exact .nil
  | cons h t ih => exact .cons (h.part fun x hx => hi _ (by simp) x hx) (ih fun v hv => hi v (by simp [hv]))
theorem BR.part {x : Nat} {B : Blk} (h : BR φ z w x B) (hx : φ' x = φ x) (hi : ∀ y ∈ idsB B, φ' y = φ y) : BR φ' z w x B := by
  cases B with
  | R s r => obtain ⟨b, arr, T, h1, h2⟩ := h; exact ⟨b, arr, T, by rw [hx]; exact h1, h2⟩
  | E l => obtain ⟨b, arr, T, h1, h2, h3⟩ := h; exact ⟨b, arr, T, by rw [hx]; exact h1, h2, CVs.part h3 hi⟩
  | W e rows =>
    rcases h with ⟨h1, h2⟩ | ⟨b, off, arr, T, cap, h1, h2⟩
    · exact .inl ⟨by rw [hx]; exact h1, h2⟩
    · exact .inr ⟨b, off, arr, T, cap, by rw [hx]; exact h1, h2⟩
  | J e n l =>
    rcases h with ⟨h1, h2⟩ | ⟨b, off, arr, T, q, h1, h2⟩
    · exact .inl ⟨by rw [hx]; exact h1, h2⟩
    · exact .inr ⟨b, off, arr, T, q, by rw [hx]; exact h1, h2⟩
  | P ka va ks vs l => obtain ⟨b, es, clock, h1, h2⟩ := h; exact ⟨b, es, clock, by rw [hx]; exact h1, h2⟩
  | Z e rows => obtain ⟨v, h1, h2⟩ := h; exact ⟨v, by rw [hx]; exact h1, h2⟩
theorem idsM_key : ∀ {m : Mem} {x : Nat} {B : Blk}, look x m = some B → x ∈ idsM m ∧ ∀ y ∈ idsB B, y ∈ idsM m
  | (y, b) :: m, x, B, h => by
    rw [look_cons] at h
    cases hb : Nat.beq y x with
    | true =>
      rw [hb] at h
      cases h
      have := Nat.eq_of_beq_eq_true hb
      subst this
      exact ⟨by simp [idsM], fun q hq => by simp [idsM, hq]⟩
    | false =>
      rw [hb] at h
      obtain ⟨h1, h2⟩ := idsM_key h
      exact ⟨by simp [idsM, h1], fun q hq => by simp [idsM, h2 q hq]⟩
theorem MR.cut (r : MR G φ z m w) (hE : ∀ x B, look x E = some B → look x m = some B) (hi : ∀ x ∈ idsM E, φ' x = φ x) : MR ⟨w, fun b => ∃ x, Owns φ E x b, z⟩ φ' z E w := by
  have own : ∀ x b, Owns φ' E x b → Owns φ E x b := by
    intro x b ⟨⟨B, hB, hl⟩, v, hv, hb⟩
    rw [hi x (idsM_key hB).1] at hv
    exact ⟨⟨B, hB, hl⟩, v, hv, hb⟩
  have sub : ∀ x b, Owns φ E x b → Owns φ m x b := fun x b h => h.sub fun x B hB hl => ⟨B, hE x B hB, hl⟩
  exact ⟨fun x B h => (r.blk x B (hE x B h)).part (hi x (idsM_key h).1) fun y hy => hi y ((idsM_key h).2 y hy), fun x y b h1 h2 => r.inj x y b (sub _ _ (own _ _ h1)) (sub _ _ (own _ _ h2)), fun x b h => r.sep x b (sub _ _ (own _ _ h)), fun x b h => .inr ⟨x, own _ _ h⟩, r.frz, .refl z, fun b o h => .inl h, fun b _ _ => rfl, Nat.le_refl _, rfl, rfl, rfl⟩
theorem MR.join (r : MR G φ z m w) (hE : ∀ x B, look x E = some B → look x m = some B) {m' : Mem} {φr : Emb} {φ'' : Emb} (r' : MR ⟨w, fun b => ∃ x, Owns φ E x b, z⟩ φ' z' m' w') (hz : Fz.le z z') (h1 : Emb.le φ' φ'') (h2 : Emb.le φ φ'') : MR G φ'' z' (m' ++ without m E) w' := by
  have hlook : ∀ x B, look x (m' ++ without m E) = some B → look x m' = some B ∨ (look x m' = none ∧ look x E = none ∧ look x m = some B) := by
    intro x B h
    rw [look_append] at h
    cases hm : look x m' with
    | some B' => rw [hm] at h; cases h; exact .inl rfl
    | none =>
      rw [hm, look_without] at h
      cases he : look x E with
      | some B' => rw [he] at h; cases h
      | none => rw [he] at h; exact .inr ⟨rfl, rfl, h⟩
  have oldOwn : ∀ x b B, B.live = true → look x m = some B → look x E = none → (∃ v, φ'' x = some v ∧ blkNo v = some b) → Owns φ m x b ∧ (∀ y, ¬ Owns φ E y b) := by
    intro x b B hl hm he ⟨v, hv, hb⟩
    obtain ⟨v0, hv0⟩ := (r.blk x B hm).has
    have := h2 x v0 hv0
    rw [hv] at this
    cases this
    have ho : Owns φ m x b := ⟨⟨B, hm, hl⟩, v, hv0, hb⟩
    refine ⟨ho, fun y hy => ?_⟩
    have := r.inj x y b ho (hy.sub fun q B' hB' hl' => ⟨B', hE q B' hB', hl'⟩)
    subst this
    obtain ⟨⟨B', hB', _⟩, _⟩ := hy
    rw [he] at hB'; cases hB'
  have newOwn : ∀ x b, (∃ B, look x m' = some B ∧ B.live = true) → (∃ v, φ'' x = some v ∧ blkNo v = some b) → Owns φ' m' x b := by
    intro x b ⟨B, hB, hl⟩ ⟨v, hv, hb⟩
    obtain ⟨v0, hv0⟩ := (r'.blk x B hB).has
    have := h1 x v0 hv0
    rw [hv] at this
    cases this
    exact ⟨⟨B, hB, hl⟩, v, hv0, hb⟩
  have sizes : w.heap.size ≤ w'.heap.size := r'.size
  refine ⟨?_, ?_, ?_, ?_, r'.frz, r.zin.trans hz, ?_, ?_, Nat.le_trans r.size sizes, r'.os.trans r.os, r'.tape.trans r.tape, r'.output.trans r.output⟩
  · intro x B h
    rcases hlook x B h with h3 | ⟨_, h3, h4⟩
    · exact (r'.blk x B h3).le h1 (.refl z')
    · refine ((r.blk x B h4).le h2 hz).world fun hl b v hv hb => ?_
      obtain ⟨ho, hn⟩ := oldOwn x b B hl h4 h3 ⟨v, hv, hb⟩
      exact r'.old b (ho.lt r) fun ⟨y, hy⟩ => hn y hy
  · intro x y b ⟨⟨B1, hB1, hl1⟩, hv1⟩ ⟨⟨B2, hB2, hl2⟩, hv2⟩
    rcases hlook x B1 hB1 with h3 | ⟨_, h3, h4⟩ <;> rcases hlook y B2 hB2 with h5 | ⟨_, h5, h6⟩
    · exact r'.inj x y b (newOwn x b ⟨_, h3, hl1⟩ hv1) (newOwn y b ⟨_, h5, hl2⟩ hv2)
    · obtain ⟨ho, hn⟩ := oldOwn y b B2 hl2 h6 h5 hv2
      rcases r'.low x b (newOwn x b ⟨_, h3, hl1⟩ hv1) with h7 | ⟨q, h7⟩
      · have := ho.lt r; simp only at h7; omega
      · exact absurd h7 (hn q)
    · obtain ⟨ho, hn⟩ := oldOwn x b B1 hl1 h4 h3 hv1
      rcases r'.low y b (newOwn y b ⟨_, h5, hl2⟩ hv2) with h7 | ⟨q, h7⟩
      · have := ho.lt r; simp only at h7; omega
      · exact absurd h7 (hn q)
    · exact r.inj x y b (oldOwn x b B1 hl1 h4 h3 hv1).1 (oldOwn y b B2 hl2 h6 h5 hv2).1
  · intro x b ⟨⟨B, hB, hl⟩, hv⟩
    rcases hlook x B hB with h3 | ⟨_, h3, h4⟩
    · exact r'.sep x b (newOwn x b ⟨_, h3, hl⟩ hv)
    · obtain ⟨ho, hn⟩ := oldOwn x b B hl h4 h3 hv
      cases hzb : z' b with
      | none => rfl
      | some o =>
        rcases r'.znew b o hzb with h5 | h5 | ⟨q, h5⟩
        · have h5 : z b = some o := h5
          have := r.sep x b ho; rw [h5] at this; cases this
        · have := ho.lt r; simp only at h5; omega
        · exact absurd h5 (hn q)
  · intro x b ⟨⟨B, hB, hl⟩, hv⟩
    rcases hlook x B hB with h3 | ⟨_, h3, h4⟩
    · rcases r'.low x b (newOwn x b ⟨_, h3, hl⟩ hv) with h5 | ⟨q, h5⟩
      · exact .inl (Nat.le_trans r.size h5)
      · exact r.low q b (h5.sub fun q B' hB' hl' => ⟨B', hE q B' hB', hl'⟩)
    · exact r.low x b (oldOwn x b B hl h4 h3 hv).1
  · intro b o h
    rcases r'.znew b o h with h5 | h5 | ⟨q, h5⟩
    · exact r.znew b o h5
    · exact .inr (.inl (Nat.le_trans r.size h5))
    · exact .inr (r.low q b (h5.sub fun q B' hB' hl' => ⟨B', hE q B' hB', hl'⟩))
  · intro b hb hne
    rw [← r.old b hb hne]
    refine r'.old b (Nat.lt_of_lt_of_le hb r.size) fun ⟨q, h5⟩ => ?_
    rcases r.low q b (h5.sub fun q B' hB' hl' => ⟨B', hE q B' hB', hl'⟩) with h6 | h6
    · omega
    · exact hne h6
def CallG (P : Program) (f : Nat) (vs : List V) (E : Mem) (nx : Nat) (k : KVk) : Prop :=
  ∀ (G : Gd) (φ : Emb) (z : Fz) (w : World) (us : List Value), MR G φ z E w → Lt φ nx → All2 (VR φ z) vs us → Calls P f us.toArray w fun e w' =>
    ∃ v m' nx' φ' z' u, e = .returned u ∧ k v m' nx' ∧ Emb.le φ φ' ∧ Fz.le z z' ∧ MR G φ' z' m' w' ∧ Dom φ φ' nx nx' ∧ nx ≤ nx' ∧ VR φ' z' v u
def CallOk (P : Program) (call : CallF) : Prop := ∀ f vs E nx k, call f vs E nx k → CallG P f vs E nx k
def OpWp (P : Program) (G : Gd) (φ : Emb) (z : Fz) (nx : Nat) (o : Oper) (a : Act) (w : World) (k : KVk) : Prop :=
  ∀ (next : Act → World → Prop) (Q : Exit → Act → World → Prop), (∀ w' v m' nx' φ' z' u, k v m' nx' → Emb.le φ φ' → Fz.le z z' → MR G φ' z' m' w' → Dom φ φ' nx nx' → nx ≤ nx' → VR φ' z' v u → next (a.put o.dst u) w') → o.wp P a w next Q
theorem Done.op {o : Oper} (h : Done P G φ z nx o.op o.type a.eval w k) : OpWp P G φ z nx o a w k := by
  intro next Q hn
  obtain ⟨v, m', nx', φ', z', u, w', n, h1, h2, h3, h4, h5, h6, h7, h8, h9⟩ := h
  unfold Oper.wp
  rw [execOp_eq, h8]
  cases n with
  | value x => cases h9; exact hn _ _ _ _ _ _ _ h1 h2 h3 h4 h5 h6 h7
  | skip => cases h9; exact hn _ _ _ _ _ _ _ h1 h2 h3 h4 h5 h6 h7
  | _ => cases h9
theorem entB_run {f : Nat} (h : entB P f = true) (args : Array Value) (w : World) : (callFunc f args).run P w = .ok (.enter f args) w := by
  unfold entB at h
  split at h
  · rename_i fn hf
    obtain ⟨h1, h2⟩ := and2 h
    have h3 : fn.name ≠ "runtime.NumGoroutine" := by simpa using h2
    cases hb : fn.body with
    | none => rw [hb] at h1; cases h1
    | some c => simp [callFunc, hf, h3, hb]
  · cases h
theorem call_op (hC : CallOk P call) {o : Oper} {f : Nat} {vs : List V} {us : List Value} (g : Gv G φ z fr m nx a w k) (hus : All2 (VR φ z) vs us) (hop : opR a.eval o.op o.type = callFunc f us.toArray) (h : doCall P call f vs m nx k) : OpWp P G φ z nx o a w k := by
  unfold doCall at h
  cases hc : (entB P f && below nx (vs.flatMap idsV ++ idsM (reach m 40 (vs.flatMap idsV)))) with
  | false => rw [hc] at h; exact h.elim
  | true =>
    rw [hc] at h
    obtain ⟨he, hb⟩ := and2 hc
    have h : call f vs (reach m 40 (vs.flatMap idsV)) nx fun v m' nx' => k v (m' ++ without m (reach m 40 (vs.flatMap idsV))) nx' := h
    generalize hE : reach m 40 (vs.flatMap idsV) = E at h hb
    have hEm : ∀ x B, look x E = some B → look x m = some B := by
      intro x B hx; rw [← hE] at hx; exact look_reach _ _ _ _ _ hx
    intro next Q hn
    unfold Oper.wp
    rw [execOp_eq, hop, entB_run he]
    show Calls P f us.toArray w _
    generalize hS : vs.flatMap idsV ++ idsM E = S at hb
    have hlt : ∀ x ∈ S, x < nx := by
      intro x hx
      have := List.all_eq_true.1 hb x hx
      simpa using this
    let φr : Emb := fun x => if x ∈ S then φ x else none
    have hφr : ∀ x ∈ S, φr x = φ x := fun x hx => if_pos hx
    have hr := g.m.cut hEm (φ' := φr) fun x hx => hφr x (by rw [← hS]; simp [hx])
    have hargs : All2 (VR φr z) vs us := by
      have hi : ∀ v ∈ vs, ∀ x ∈ idsV v, φr x = φ x := fun v hv x hx => hφr x (by rw [← hS, List.mem_append, List.mem_flatMap]; exact .inl ⟨v, hv, hx⟩)
      exact VRs.part hus hi
    refine (hC _ _ _ _ _ h _ φr z w us hr (fun x v hv => ?_) hargs).mono ?_
    · have : (if x ∈ S then φ x else none) = some v := hv
      split at this
      · rename_i hx; exact hlt x hx
      · cases this
    · rintro e w' ⟨v, m', nx', φ', z', u, rfl, h1, h2, h3, h4, h5, h6, h7⟩
      have hfresh := g.new _ _ _ h1
      let φ'' : Emb := fun x => match φ' x with | some y => some y | none => φ x
      have l1 : Emb.le φ' φ'' := fun x y hy => by show (match φ' x with | some y => some y | none => φ x) = some y; rw [hy]
      have hfr : ∀ x y, φ' x = some y → φ x = some y ∨ (nx ≤ x ∧ x < nx') := by
        intro x y hy
        rcases h5 x y hy with h8 | h8
        · have : (if x ∈ S then φ x else none) = some y := h8
          split at this
          · exact .inl this
          · cases this
        · exact .inr h8
      have l2 : Emb.le φ φ'' := fun x y hy => by
        show (match φ' x with | some y => some y | none => φ x) = some y
        cases hq : φ' x with
        | none => exact hy
        | some y' =>
          rcases hfr x y' hq with h8 | h8
          · rw [hy] at h8; exact h8.symm
          · rw [hfresh x h8.1 h8.2] at hy; cases hy
      refine hn w' v _ nx' φ'' z' u h1 l2 h3 (g.m.join hEm (φr := φr) h4 h3 l1 l2) ?_ h6 (h7.le l1 (.refl z'))
      intro x y hy
      have hy' : (match φ' x with | some y => some y | none => φ x) = some y := hy
      cases hq : φ' x with
      | none => rw [hq] at hy'; exact .inl hy'
      | some y' => rw [hq] at hy'; cases hy'; exact hfr x _ hq
theorem opR_call {ty : TypeId} {f : Operand → Value} {c : Call} {x : Operand} (hc : c.callee = .value x) {g : FuncId} {first caps : Array Value} (hx : f x = .func (.func g) first caps) : opR f (.call c) ty = callFunc g (first ++ c.args.map f ++ caps) := by
  simp [opR, execOp, resolve, hc, hx, Deferred.ofValue, invoke]
theorem caps_ok {l : List Nat} {xs : List Value} (h : All2 (fun x u => ∃ b, φ x = some (.pointer (some ⟨b, 0, none⟩)) ∧ u = .pointer (some ⟨b, 0, none⟩)) l xs) : All2 (VR φ z) (l.map fun x => V.c (.pv x 0)) xs := by
  induction h with
  | nil => exact .nil
  | cons h t ih => exact .cons h ih
theorem opR_call2 {ty : TypeId} {f : Operand → Value} {c : Call} {g : FuncId} (hc : c.callee = .value (.func g)) (hf : f (.func g) = .func (.func g) #[] #[]) : opR f (.call c) ty = callFunc g (c.args.map f) := by
  rw [opR_call hc hf]; congr 1; apply Array.ext'; simp
theorem isOv_ok {fn : Func} (h : isOv P fn = true) : fn.body.isNone = true ∧ (fn.name == "runtime.NumGoroutine") = false ∧ Extern.findNext fn = none ∧ ∃ t r e s, Extern.find fn = some (Extern.SlicesOverlaps.overlaps #[t, t] #[r]) ∧ P.underlying t = some (.slice e) ∧ szT P e = some s := by
  simp only [isOv, Bool.and_eq_true] at h
  obtain ⟨h1, h2, h3, h4, h5, h6, h7, h8⟩ := h
  refine ⟨h1, by simpa using h2, by simpa using h3, ?_⟩
  split at h8
  · rename_i t t' r hp hr
    obtain ⟨h9, h10⟩ := Bool.and_eq_true_iff.1 h8
    have h11 : t = t' := Nat.eq_of_beq_eq_true h9
    subst h11
    split at h10
    · rename_i e he
      cases hs : szT P e with
      | none => rw [hs] at h10; cases h10
      | some s =>
        have ho : fn.origin = "slices.overlaps" := by simpa using h7
        have g1 : Extern.allGenericRows.lookup "slices.overlaps" = none := by kernel_rfl
        have g2 : Extern.allTypedRows.lookup "slices.overlaps" = some Extern.SlicesOverlaps.overlaps := by kernel_rfl
        have p1 : fn.params = #[t, t] := Array.ext' hp
        have p2 : fn.resultTypes = #[r] := Array.ext' hr
        refine ⟨t, r, e, s, ?_, he, hs⟩
        simp only [Extern.find, ho, Option.isNone_iff_eq_none.1 h4, Option.isNone_iff_eq_none.1 h5, Option.isNone_iff_eq_none.1 h6, g1, g2, p1, p2]
        rfl
    · cases h10
  · cases h8
theorem ov_ok {ty : TypeId} {f : Nat} (g : Gv G φ z fr m nx a w k) {c : Call} (hc : c.callee = .value (.func f)) (ho : ovB P f = true) {vs : List V} (hvs : All2 (VR φ z) vs (c.args.toList.map a.eval)) (h : apart m (k (.c (.b false)) m nx) vs) : Done P G φ z nx (.call c) ty a.eval w k := by
  unfold ovB at ho
  split at ho
  case h_2 => cases ho
  rename_i fn hf
  obtain ⟨h1, h2, h3, t, r, el, s, h4, h5, h6⟩ := isOv_ok ho
  unfold apart at h
  split at h
  case h_2 => exact h.elim
  rename_i x c2
  split at h
  case h_2 => exact h.elim
  rename_i e r1 rs y e' lo hi n l hx hp
  obtain ⟨hap, hk0⟩ := fk_yes h
  obtain ⟨hlh, hk⟩ := fk_yes hk0
  clear h hk0
  have hlh : lo < hi := of_decide_eq_true hlh
  obtain ⟨k1, k2'⟩ := and2 hap
  obtain ⟨k2'', k3'⟩ := and2 k2'
  have hne : x ≠ y := Nat.ne_of_beq_eq_false (by cases hb : Nat.beq x y with | false => rfl | true => rw [hb] at k1; cases k1)
  have k2 : 1 ≤ e.length := Nat.le_of_ble_eq_true k2''
  have k3 : 1 ≤ e'.length := Nat.le_of_ble_eq_true k3'
  generalize hus : c.args.toList.map a.eval = us at hvs
  cases hvs with
  | cons ha hrest =>
    cases hrest with
    | cons hb hnil =>
      cases hnil
      rename_i u1 u2
      obtain ⟨hux, _⟩ : CV φ z (.ow x) u1 := ha
      have hb : CV φ z c2 u2 := hb
      obtain ⟨hy, p, kk, A, B, q1, q2, q3, rfl, rfl, q6, q7, qa, hv, q8, q9, _⟩ := partOf_ok g.m hp hb
      rcases g.m.blk x _ hx with ⟨w1, w2⟩ | ⟨b1, o1, arr1, T1, cap1, w1, w2, w3, w4, w5⟩
      · cases w2
      · rw [hux] at w1
        cases w1
        have hs1 : 0 < arr1.size := by
          have : 1 * 1 ≤ cap1 * e.length := Nat.mul_le_mul (by simp at w2; omega) k2
          omega
        refine Done.val g (u := .bool false) hk rfl ?_
        rw [opR_call2 hc rfl]
        rcases g.m.blk y _ hy with ⟨y1, y2, y3⟩ | ⟨b2, o2, arr2, T2, kk2, y1, y2, y3, y4, y5, y6⟩
        · rw [y2] at q7; simp at q7; omega
        · rw [q1] at y1; cases y1
          obtain ⟨qq, rfl, hqb⟩ : ∃ q : Addr, qa = some q ∧ q.block = b2 := by
            cases qa with
            | none => simp at q8
            | some q => exact ⟨q, rfl, by simpa using q8⟩
          have hbb : b1 ≠ qq.block := by
            rw [hqb]
            intro hbb
            subst hbb
            exact hne (g.m.inj x y b1 ⟨⟨_, hx, rfl⟩, _, hux, rfl⟩ ⟨⟨_, hy, rfl⟩, _, q1, rfl⟩)
          have hs2 : arr2.size ≠ 0 := by
            have : 1 * 1 ≤ l.length * e'.length := Nat.mul_le_mul (by omega) k3
            omega
          have hargs : c.args.map a.eval = #[.slice (some ⟨b1, o1, none⟩) (r1 :: rs).length cap1, .slice (some qq) (B - A) (l.length - A)] := by
            apply Array.ext'
            rw [Array.toList_map, hus]
            simp [hv]
          have f1 : ∀ o, w.frozen? ⟨b1, o, none⟩ = false := fun o => by simp [World.frozen?, w4]
          rw [hargs, run_callFunc_extern hf h2 h1 h3 h4, Lib.run_overlaps_apart w t r el h5 s (szT_run h6) ⟨b1, o1, none⟩ qq _ cap1 _ _ hbb T1 T2 arr1.size arr2.size (by simp [World.shape?, w4]) (by rw [hqb]; simp [World.shape?, y5]) hs2 (f1 _) (f1 _)]
          rfl
theorem dop_ok (hC : CallOk P call) {o : Oper} (g : Gv G φ z fr m nx a w k) (h : dop P call fr m nx o.op k) : OpWp P G φ z nx o a w k := by
  cases hop : o.op with
  | call c =>
    rw [hop] at h
    cases hcal : c.callee with
    | value x =>
      have viaFn : (onC fr x fun c' => match c' with
          | .fn f caps => oP (evs fr c.args.toList) fun vs => doCall P call f (vs ++ caps.map fun x => .c (.pv x 0)) m nx k
          | .fb f y => oP (evs fr c.args.toList) fun vs => doCall P call f (.c (.pv y 0) :: vs) m nx k
          | _ => False) → OpWp P G φ z nx o a w k := by
        intro h
        obtain ⟨c', h1, h⟩ := onC_ok h
        split at h
        · rename_i f caps
          obtain ⟨vs, h2, h⟩ := oP_ok h
          obtain ⟨xs, hx1, hx2⟩ : CV φ z (.fn f caps) (a.eval x) := ev_ok g.fr h1
          refine call_op hC g (us := c.args.toList.map a.eval ++ xs) ((evs_ok g.fr h2).append (caps_ok hx2)) ?_ h
          rw [hop, opR_call hcal hx1]
          congr 1
          apply Array.ext'
          simp
        · rename_i f y
          obtain ⟨vs, h2, h⟩ := oP_ok h
          obtain ⟨b, hx1, hx2⟩ : CV φ z (.fb f y) (a.eval x) := ev_ok g.fr h1
          refine call_op hC g (us := .pointer (some ⟨b, 0, none⟩) :: c.args.toList.map a.eval) (.cons (show VR φ z (.c (.pv y 0)) _ from ⟨b, hx1, rfl⟩) (evs_ok g.fr h2)) ?_ h
          rw [hop, opR_call hcal hx2]
          congr 1
          apply Array.ext'
          simp
        · exact h.elim
      cases x with
      | func f =>
        have h : oP (evs fr c.args.toList) fun vs => bif ovB P f then apart m (k (.c (.b false)) m nx) vs else doCall P call f vs m nx k := by
          simp only [dop, hcal] at h
          exact h
        obtain ⟨vs, h1, h⟩ := oP_ok h
        cases hov : ovB P f with
        | true =>
          rw [hov] at h
          refine Done.op ?_
          rw [hop]
          exact ov_ok g hcal hov (evs_ok g.fr h1) h
        | false =>
        rw [hov] at h
        refine call_op hC g (us := c.args.toList.map a.eval) (evs_ok g.fr h1) ?_ h
        rw [hop, opR_call hcal (show a.eval (.func f) = .func (.func f) #[] #[] from rfl)]
        congr 1
        apply Array.ext'
        simp
      | tmp t => simp only [dop, hcal] at h; exact viaFn h
      | const v => simp only [dop, hcal] at h; exact viaFn h
      | global v => simp only [dop, hcal] at h; exact viaFn h
    | invoke r mth => simp only [dop, hcal] at h
    | builtin b =>
      refine Done.op ?_
      rw [hop]
      have h0 := h
      simp only [dop, hcal] at h
      split at h
      · contradiction
      · contradiction
      · rename_i heq ha ht; cases heq; exact d_len hcal ha ht g h0
      · rename_i heq ha ht; cases heq; exact d_cap hcal ha ht g h0
      · rename_i heq ha ht; cases heq; exact d_copy hcal ha ht g h0
      · rename_i heq ha ht; cases heq; exact d_clear hcal ha ht g h0
      · rename_i heq ha ht; cases heq; exact d_append hcal ha ht g h0
      · rename_i heq ha; cases heq; exact d_min hcal ha g h
      · rename_i heq ha; cases heq; exact d_max hcal ha g h
      · exact h.elim
  | move x => exact Done.op (by rw [hop] at h ⊢; exact d_move (.inl rfl) g h)
  | assign x => exact Done.op (by rw [hop] at h ⊢; exact d_move (.inr rfl) g h)
  | pick c x y => exact Done.op (by rw [hop] at h ⊢; exact d_pick g h)
  | alloc t => exact Done.op (by rw [hop] at h ⊢; exact d_alloc g h)
  | box t x => exact Done.op (by rw [hop] at h ⊢; exact d_box g h)
  | build t ps => exact Done.op (by rw [hop] at h ⊢; exact d_build g h)
  | makeSlice t l c => exact Done.op (by rw [hop] at h ⊢; exact d_makeSlice g h)
  | buildSlice t n ps => exact Done.op (by rw [hop] at h ⊢; exact d_buildSlice g h)
  | load t x => exact Done.op (by rw [hop] at h ⊢; exact d_load g h)
  | store t x y => exact Done.op (by rw [hop] at h ⊢; exact d_store g h)
  | nilCheck x => exact Done.op (by rw [hop] at h ⊢; exact d_nilCheck g h)
  | binOp op t x y u => exact Done.op (by rw [hop] at h ⊢; exact d_binOp g h)
  | unOp uo t x =>
    rw [hop] at h
    cases uo with
    | not => exact Done.op (by rw [hop]; exact d_not g h)
    | neg => exact Done.op (by rw [hop]; exact d_neg g h)
    | xor => exact Done.op (by rw [hop]; exact d_xorU g h)
    | _ => exact h.elim
  | convert s d x => exact Done.op (by rw [hop] at h ⊢; exact d_convert g (fun _ hs hd => d_convB g hs hd) h)
  | fieldAddr t x f => exact Done.op (by rw [hop] at h ⊢; exact d_fieldAddr g h)
  | field t x f => exact Done.op (by rw [hop] at h ⊢; exact d_field g h)
  | indexAddr t x i => exact Done.op (by rw [hop] at h ⊢; exact d_indexAddr g h)
  | index t x i => exact Done.op (by rw [hop] at h ⊢; exact d_index g h)
  | extract x i => exact Done.op (by rw [hop] at h ⊢; exact d_extract g h)
  | makeFunc f first caps =>
    rw [hop] at h
    cases f with
    | func f => exact Done.op (by rw [hop]; exact d_makeFunc g h)
    | _ => exact h.elim
  | slice t x lo hi mx => exact Done.op (by rw [hop] at h ⊢; exact d_slice g h)
  | makeMap t r =>
    rw [hop] at h
    cases r with
    | none => exact Done.op (by rw [hop]; exact d_makeMap g h)
    | some r => exact h.elim
  | insert t y i x => exact Done.op (by rw [hop] at h ⊢; exact ins_ok (.inl rfl) g h)
  | mapUpdate t y i x => exact Done.op (by rw [hop] at h ⊢; exact ins_ok (.inr rfl) g h)
  | lookup t y i ok => exact Done.op (by rw [hop] at h ⊢; exact d_lookup g h)
  | _ => rw [hop] at h; exact h.elim
end
end Go.Proofs.YtgjindhjgmplgaaGreat
end
