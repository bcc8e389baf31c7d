/-
  A verified evaluator of the model: EvD.
-/
import Derived.Test.YtjnfgapfhpihmaaGreatEvC
import Derived.Lib.Overlaps
import Derived.Laws.Externs
import Derived.KernelRfl
import Derived.Orders
set_option linter.unusedVariables false
set_option linter.unusedSimpArgs false
namespace Go.Proofs.YtjnfgapfhpihmaaGreat
section
variable {P : Program} {E : Env} {ρ : Vn} {φ : Emb} {fr : Fr} {a : Act} {h h' : Hp} {w w' : World} {v : AV} {ty : TypeId}
theorem equal_plain (he : EnvOk E ρ) {t : TypeId} {fs : Array Field} {ks : List CK} (hu : P.underlying t = some (.struct fs)) (hk : plainS P false 8 t = some ks) (hs : sizeT P t = some ks.length) {l m : List AC} {vx vy : List Value} {b : Bool} (hx : All2 (VC ρ φ) l vx) (hy : All2 (VC ρ φ) m vy) (e : eqKs E ks l m = some b) : (Op.equal t (.agg vx.toArray) (.agg vy.toArray)).run P w = .ok b w := by
  have hlen := eqKs_length e
  obtain ⟨p', q', hp, hq, hr⟩ := plain_run (P := P) (w := w) he 8 t ks hk hs 10000 (by omega) l m vx vy 0 b hx hy (by rw [List.drop_zero, List.drop_zero, List.take_of_length_le (by omega), List.take_of_length_le (by omega)]; exact e)
  rw [run_part_agg hu rfl hs] at hp hq
  cases hp
  cases hq
  have l1 := hx.length
  have l2 := hy.length
  rw [List.drop_zero, List.drop_zero, List.take_of_length_le (by omega), List.take_of_length_le (by omega)] at hr
  exact hr
theorem check_fields {d D : Nat} {bb : Bool} (ih : ∀ t ks, plainS P false d t = some ks → sizeT P t = some ks.length → ∀ (vs : List Value) (off : Nat), off + ks.length ≤ vs.length → ∃ p, (part t vs.toArray off).run P w = .ok p w ∧ (Instr.checkKey bb D t p).run P w = .ok () w) {vs : List Value} :
    ∀ {fs : List Field} {n : Nat} {ks : List CK}, plainFs P (plainS P false d) fs n = some ks → n + ks.length ≤ vs.length → (forIn fs PUnit.unit (fun (f : Field) (_ : PUnit) => if f.name ≠ "_" then (do let p ← part f.type vs.toArray f.offset; Instr.checkKey bb D f.type p; pure (ForInStep.yield PUnit.unit)) else pure (ForInStep.yield PUnit.unit)) : Sem PUnit).run P w = .ok PUnit.unit w
  | [], n, ks, e, _ => by simp
  | f :: fs, n, ks, e, hl => by
    simp only [plainFs] at e
    split at e
    · cases e
    · rename_i hn
      have hname : f.name ≠ "_" := fun h => hn (.inl h)
      have hoff : f.offset = n := Classical.byContradiction fun h => hn (.inr h)
      split at e
      · rename_i k s hk hs
        split at e
        · rename_i hks
          split at e
          · rename_i l hl'
            cases e
            rw [List.length_append] at hl
            obtain ⟨p, hp, hq⟩ := ih f.type k hk (by rw [hs, hks]) vs n (by omega)
            have h3 := check_fields ih (vs := vs) (n := n + s) hl' (by omega)
            simp only [List.forIn_cons, if_pos hname, hoff, Sem.run_bind, hp, hq, Result.andThen_ok, Sem.run_pure]
            exact h3
          · cases e
        · cases e
      · cases e
theorem check_plain {bb : Bool} : ∀ (d : Nat) (t : TypeId) (ks : List CK), plainS P false d t = some ks → sizeT P t = some ks.length → ∀ D, d ≤ D → ∀ (vs : List Value) (off : Nat), off + ks.length ≤ vs.length → ∃ p, (part t vs.toArray off).run P w = .ok p w ∧ (Instr.checkKey bb D t p).run P w = .ok () w
  | 0, t, ks, e, _, _, _, _, _, _ => by cases e
  | d + 1, t, ks, e, hs, D, hD, vs, off, hl => by
    obtain ⟨D', rfl⟩ : ∃ D', D = D' + 1 := ⟨D - 1, by omega⟩
    have one : ∀ {dd : TypeDesc} {k : CK}, P.underlying t = some dd → aggD dd = false → (match dd with | .interface _ => false | _ => true) = true → ks = [k] → ∃ p, (part t vs.toArray off).run P w = .ok p w ∧ (Instr.checkKey bb (D' + 1) t p).run P w = .ok () w := by
      intro dd k hu hd hi hk
      subst hk
      have hlt : off < vs.length := by simp at hl; omega
      refine ⟨vs[off], run_part_one hu hd (List.getElem?_eq_getElem hlt) w, ?_⟩
      cases dd <;> first | (cases hd; done) | (cases hi; done) | simp [Instr.checkKey, run_underlying hu]
    simp only [plainS] at e
    split at e
    · rename_i hu; cases e; exact one hu rfl rfl rfl
    · rename_i q hu; cases e; exact one hu rfl rfl rfl
    · rename_i hu; cases e; exact one hu rfl rfl rfl
    · rename_i fs hu
      split at e
      · cases e
      · refine ⟨_, run_part_agg hu rfl hs vs off w, ?_⟩
        have h3 := check_fields (P := P) (w := w) (D := D') (bb := bb) (vs := (vs.drop off).take ks.length) (fun t ks h1 h2 => check_plain d t ks h1 h2 D' (by omega)) e (by simp; omega)
        simp only [Instr.checkKey, Sem.run_bind, run_underlying hu, Result.andThen_ok]
        rw [← Array.forIn_toList]
        simp at h3 ⊢
        rw [h3]
        rfl
    · split at e
      · split at e
        · rename_i h; cases h.1
        · cases e
      · cases e
    · cases e
def Ents (ρ : Vn) (φ : Emb) (l : List (AV × AV)) (es : List MapEntry) : Prop := All2 (fun (e : AV × AV) (x : MapEntry) => VV ρ φ e.1 x.key ∧ VV ρ φ e.2 x.val) l es
theorem keyS_ok {kt : TypeId} {ag : Bool} {ks : List CK} (e : keyS P kt = some (ag, ks)) : (ag = false ∧ ks = [.i] ∧ ∃ q, P.underlying kt = some (.int q)) ∨ (ag = true ∧ ∃ fs, P.underlying kt = some (.struct fs) ∧ plainS P false 8 kt = some ks ∧ sizeT P kt = some ks.length) := by
  unfold keyS at e
  split at e
  · rename_i q hu; cases e; exact .inl ⟨rfl, rfl, q, hu⟩
  · rename_i fs hu
    split at e
    · rename_i k hk
      split at e
      · rename_i hs; cases e; exact .inr ⟨rfl, fs, hu, hk, hs⟩
      · cases e
    · cases e
  · cases e
theorem eq_int (hE : EnvOk E ρ) {k x : AV} {b : Bool} {X Y : Value} (e : keyEq E false [.i] k x = some b) (hk : VV ρ φ k X) (hx : VV ρ φ x Y) : ∃ q m n, X = .int q m ∧ Y = .int q n ∧ b = (m == n) := by
  obtain ⟨c, h1, e1⟩ := ob_some (show ob (asC k) _ = some b from e)
  obtain ⟨d, h2, e2⟩ := ob_some e1
  rw [asC_some h1] at hk
  rw [asC_some h2] at hx
  simp only [eqKs] at e2
  cases h3 : eqCell E .i c d with
  | none => rw [h3] at e2; cases e2
  | some b1 =>
    rw [h3] at e2
    cases e2
    obtain ⟨q, m, n, h4, h5, rfl⟩ := eqCell_int hE h3 hk hx
    exact ⟨q, m, n, h4, h5, by simp⟩
def Found (ρ : Vn) (φ : Emb) (es : List MapEntry) (i0 : Nat) : Option (Nat × AV) → Option (Nat × Value) → Prop
  | none, r => r = none
  | some (i, v), r => ∃ u e, r = some (i, u) ∧ VV ρ φ v u ∧ i0 ≤ i ∧ es[i - i0]? = some e
theorem find_now (hE : EnvOk E ρ) {q : IntKind} {k : AV} {X : Value} (hk : VV ρ φ k X) : ∀ {l : List (AV × AV)} {es : List MapEntry} {i : Nat} {r : Option (Nat × AV)}, Ents ρ φ l es → mapGet E false [.i] k l i = some r → ∃ r', Instr.findNow (.int q) X es i = some r' ∧ Found ρ φ es i r r'
  | [], es, i, r, he, e => by cases e; cases he; exact ⟨none, rfl, rfl⟩
  | (x, v) :: l, es, i, r, he, e => by
    cases he with
    | cons h1 h2 =>
      rename_i y es
      simp only [mapGet] at e
      cases hb : keyEq E false [.i] k x with
      | none => rw [hb] at e; cases e
      | some b =>
        rw [hb] at e
        obtain ⟨q', m, n, rfl, hY, rfl⟩ := eq_int hE hb hk h1.1
        cases hmn : (m == n) with
        | true =>
          rw [hmn] at e
          cases e
          exact ⟨some (i, y.val), by simp only [Instr.findNow, hY, Instr.sameNow, if_true, hmn], y.val, y, rfl, h1.2, Nat.le_refl _, by simp⟩
        | false =>
          rw [hmn] at e
          obtain ⟨r', h3, h4⟩ := find_now hE hk h2 e
          refine ⟨r', by simp only [Instr.findNow, hY, Instr.sameNow, if_true, hmn]; exact h3, ?_⟩
          cases r with
          | none => exact h4
          | some p =>
            obtain ⟨u, e', h5, h6, h7, h8⟩ := h4
            refine ⟨u, e', h5, h6, by omega, ?_⟩
            rw [show p.1 - i = (p.1 - (i + 1)) + 1 by omega]
            simpa using h8
def plainV : Value → Bool
  | .bool _ => true
  | .int _ _ => true
  | .string _ => true
  | _ => false
theorem eqCell_true (hE : EnvOk E ρ) {k : CK} {c d : AC} {x y : Value} (e : eqCell E k c d = some true) (hc : VC ρ φ c x) (hd : VC ρ φ d y) : x = y ∧ plainV x = true := by
  cases k with
  | i =>
    obtain ⟨q, m, n, h1, h2, h3⟩ := eqCell_int hE e hc hd
    have : m = n := by simpa using h3.symm
    subst this
    rw [h1, h2]
    exact ⟨rfl, rfl⟩
  | b =>
    cases c <;> first | (cases e; done) | skip
    · cases d <;> first | (cases e; done) | skip
      have h2 := of_decide_eq_true (Option.some.inj e)
      subst h2
      rw [show x = _ from hc, show y = _ from hd]
      exact ⟨rfl, rfl⟩
    · cases d <;> first | (cases e; done) | skip
      rename_i p q
      have e1 : (bif decide (p = q) then some true else none) = some true := e
      cases hd2 : decide (p = q) with
      | false => rw [hd2] at e1; cases e1
      | true =>
        cases of_decide_eq_true hd2
        rw [show x = _ from hc, show y = _ from hd]
        exact ⟨rfl, rfl⟩
  | s =>
    have e0 : bo (isStr c && isStr d) (strOp E false c d) = some true := by
      cases c <;> cases d <;> exact e
    obtain ⟨hst, e'⟩ := bo_some e0
    rw [Bool.and_eq_true] at hst
    have hs : ∀ {c : AC} {x : Value}, isStr c = true → VC ρ φ c x → ∃ y, x = .string y := by
      intro c x h1 h2
      cases c <;> first | (cases h1; done) | skip
      · obtain ⟨y, hy, _⟩ := h2; exact ⟨y, hy⟩
      · exact ⟨_, h2⟩
    have hrun := strOp_run (P := default) (w := default) hE e' hc hd 0 (.const (.bool true)) (.const (.bool true))
    simp only [cond_false] at hrun
    obtain ⟨p, rfl⟩ := hs hst.1 hc
    obtain ⟨q, rfl⟩ := hs hst.2 hd
    have h3 := run_strEq (P := default) (w := default) 0 (.const (.bool true)) (.const (.bool true)) p q false
    simp only [cond_false] at h3
    rw [hrun] at h3
    have h4 : (p.toList == q.toList) = true := by simpa using h3.symm
    rw [beq_iff_eq, ByteArray.toList_eq, ByteArray.toList_eq] at h4
    have h5 : p = q := by
      cases p; cases q
      congr 1
      exact Array.toList_inj.1 h4
    rw [h5]
    exact ⟨rfl, rfl⟩
theorem eqKs_true (hE : EnvOk E ρ) : ∀ {ks : List CK} {l m : List AC} {vx vy : List Value}, eqKs E ks l m = some true → All2 (VC ρ φ) l vx → All2 (VC ρ φ) m vy → vx = vy ∧ ∀ v ∈ vx, plainV v = true
  | [], [], [], vx, vy, _, hx, hy => by cases hx; cases hy; exact ⟨rfl, fun _ h => by cases h⟩
  | [], x :: l, m, _, _, e, _, _ => by cases e
  | [], [], y :: m, _, _, e, _, _ => by cases e
  | k :: ks, [], m, _, _, e, _, _ => by cases e
  | k :: ks, x :: l, [], _, _, e, _, _ => by cases e
  | k :: ks, x :: l, y :: m, vx, vy, e, hx, hy => by
    cases hx with
    | cons h1 h2 =>
      cases hy with
      | cons h3 h4 =>
        simp only [eqKs] at e
        cases q1 : eqCell E k x y with
        | none => rw [q1] at e; cases e
        | some c =>
          cases q2 : eqKs E ks l m with
          | none => rw [q1, q2] at e; cases e
          | some d =>
            rw [q1, q2] at e
            have hcd : (c && d) = true := Option.some.inj e
            rw [Bool.and_eq_true] at hcd
            obtain ⟨rfl, rfl⟩ := hcd
            obtain ⟨r1, r2⟩ := eqCell_true hE q1 h1 h3
            obtain ⟨r3, r4⟩ := eqKs_true hE q2 h2 h4
            refine ⟨by rw [r1, r3], fun v hv => ?_⟩
            rcases List.mem_cons.1 hv with rfl | hv
            · exact r2
            · exact r4 v hv
theorem same_plain {v : Value} (n : Nat) (h : plainV v = true) : Instr.sameBits n v v = true := by
  cases v <;> first | (cases h; done) | (cases n <;> simp [Instr.sameBits, beq_toListBytes])
theorem same_list {n : Nat} : ∀ {vs : List Value}, (∀ v ∈ vs, plainV v = true) → ((vs.zip vs).all fun p => Instr.sameBits n p.1 p.2) = true
  | [], _ => rfl
  | v :: vs, h => by
    simp only [List.zip_cons_cons, List.all_cons, Bool.and_eq_true]
    exact ⟨same_plain n (h v (by simp)), same_list fun u hu => h u (by simp [hu])⟩
theorem eq_agg (hE : EnvOk E ρ) {kt : TypeId} {fs : Array Field} {ks : List CK} (hu : P.underlying kt = some (.struct fs)) (hp : plainS P false 8 kt = some ks) (hs : sizeT P kt = some ks.length) {k x : AV} {b : Bool} {X Y : Value} (e : keyEq E true ks k x = some b) (hk : VV ρ φ k X) (hx : VV ρ φ x Y) : (Op.equal kt X Y).run P w = .ok b w ∧ (b = true → Instr.sameBits 10000 Y X = true) := by
  obtain ⟨l, h1, e1⟩ := ob_some (show ob (asA k) _ = some b from e)
  obtain ⟨m, h2, e2⟩ := ob_some e1
  rw [asA_some h1] at hk
  rw [asA_some h2] at hx
  obtain ⟨vx, rfl, h3⟩ := hk
  obtain ⟨vy, rfl, h4⟩ := hx
  refine ⟨equal_plain hE hu hp hs h3 h4 e2, fun hb => ?_⟩
  subst hb
  obtain ⟨r1, r2⟩ := eqKs_true hE e2 h3 h4
  subst r1
  have := same_list (n := 9999) r2
  simp only [Instr.sameBits, beq_self_eq_true, Bool.true_and]
  simpa using this
theorem find_asking (hE : EnvOk E ρ) {kt : TypeId} {fs : Array Field} {ks : List CK} (hu : P.underlying kt = some (.struct fs)) (hp : plainS P false 8 kt = some ks) (hs : sizeT P kt = some ks.length) {k : AV} {X : Value} (hk : VV ρ φ k X) : ∀ {l : List (AV × AV)} {es : List MapEntry} {i : Nat} {r : Option (Nat × AV)}, Ents ρ φ l es → mapGet E true ks k l i = some r → ∃ r', (Instr.findAsking kt X es i).run P w = .ok r' w ∧ Found ρ φ es i r r'
  | [], es, i, r, he, e => by cases e; cases he; exact ⟨none, rfl, rfl⟩
  | (x, v) :: l, es, i, r, he, e => by
    cases he with
    | cons h1 h2 =>
      rename_i y es
      simp only [mapGet] at e
      cases hb : keyEq E true ks k x with
      | none => rw [hb] at e; cases e
      | some b =>
        rw [hb] at e
        have hq := (eq_agg (P := P) (w := w) hE hu hp hs hb hk h1.1).1
        cases b with
        | true =>
          cases e
          exact ⟨some (i, y.val), by simp [Instr.findAsking, hq], y.val, y, rfl, h1.2, Nat.le_refl _, by simp⟩
        | false =>
          obtain ⟨r', h3, h4⟩ := find_asking hE hu hp hs hk h2 e
          refine ⟨r', by simp [Instr.findAsking, hq, h3], ?_⟩
          cases r with
          | none => exact h4
          | some p =>
            obtain ⟨u, e', h5, h6, h7, h8⟩ := h4
            refine ⟨u, e', h5, h6, by omega, ?_⟩
            rw [show p.1 - i = (p.1 - (i + 1)) + 1 by omega]
            simpa using h8
theorem find_key (hE : EnvOk E ρ) {kt : TypeId} {ag : Bool} {ks : List CK} (hks : keyS P kt = some (ag, ks)) {k : AV} {X : Value} (hk : VV ρ φ k X) {l : List (AV × AV)} {es : List MapEntry} {r : Option (Nat × AV)} (he : Ents ρ φ l es) (e : mapGet E ag ks k l 0 = some r) : ∃ r', (Instr.findKey kt X es).run P w = .ok r' w ∧ Found ρ φ es 0 r r' := by
  rcases keyS_ok hks with ⟨rfl, rfl, q, hu⟩ | ⟨rfl, fs, hu, hp, hs⟩
  · obtain ⟨r', h1, h2⟩ := find_now hE (q := q) hk he e
    exact ⟨r', by simp [Instr.findKey, run_underlying hu, h1], h2⟩
  · cases he with
    | nil =>
      cases e
      exact ⟨none, by simp [Instr.findKey, run_underlying hu, Instr.findNow], rfl⟩
    | cons h1 h2 =>
      rename_i x y l es
      obtain ⟨r', h3, h4⟩ := find_asking (P := P) (w := w) hE hu hp hs hk (All2.cons h1 h2) e
      refine ⟨r', ?_, h4⟩
      have hn : Instr.findNow (.struct fs) X (y :: es) 0 = none := by simp [Instr.findNow, Instr.sameNow]
      simp [Instr.findKey, run_underlying hu, hn, h3]
theorem check_int {kt : TypeId} {bb : Bool} {q : IntKind} (hu : P.underlying kt = some (.int q)) (X : Value) (D : Nat) : (Instr.checkKey bb (D + 1) kt X).run P w = .ok () w := by
  simp [Instr.checkKey, run_underlying hu]
theorem check_key {kt : TypeId} {ag bb : Bool} {ks : List CK} (hks : keyS P kt = some (ag, ks)) {k : AV} {X : Value} (hk : VV ρ φ k X) (hg : keyOk ag ks k = true) : (Instr.checkKey bb 10000 kt X).run P w = .ok () w := by
  rcases keyS_ok hks with ⟨rfl, rfl, q, hu⟩ | ⟨rfl, fs, hu, hp, hs⟩
  · exact check_int hu X 9999
  · simp only [keyOk, cond_true] at hg
    split at hg
    · rename_i l h1
      have hkl := asA_some h1
      subst hkl
      obtain ⟨vs, rfl, h2⟩ := hk
      have hlen := Nat.eq_of_beq_eq_true hg
      have h3 := h2.length
      obtain ⟨p, h4, h5⟩ := check_plain (P := P) (w := w) (bb := bb) 8 kt ks hp hs 10000 (by omega) vs 0 (by omega)
      rw [run_part_agg hu rfl hs] at h4
      cases h4
      rw [List.drop_zero, List.take_of_length_le (by omega)] at h5
      exact h5
    · cases hg
theorem mapOf_some {id : Bid} {l : List (AV × AV)} (e : mapOf (h.get id) = some l) : h.get id = some (.map l) := by
  obtain ⟨b, h1, e1⟩ := ob_some e
  cases b with
  | cells c => cases e1
  | map m => cases e1; exact h1
  | row d y => cases e1
theorem run_zeroV {t : TypeId} {z : AV} (e : zeroV P t = some z) : ∃ u, (∀ w, (zeroValue t).run P w = .ok u w) ∧ VV ρ φ z u := by
  unfold zeroV at e
  cases hi : P.info? t with
  | none => rw [hi] at e; cases e
  | some i =>
    rw [hi] at e
    dsimp only at e
    cases hz : i.zero with
    | none => rw [hz] at e; cases e
    | some u =>
      rw [hz] at e
      exact ⟨u, fun w => by simp [zeroValue, typeInfo, hi, hz], AV.of_ok e⟩
theorem snd_lk (t : TypeId) (x i : Operand) (ok : Bool) : Snd P E (.lookup t x i ok) := by
  intro ao hc ρ φ fr a h w v h' ty g e
  simp only [cOp] at hc
  split at hc
  · rename_i kt et ax ai hu hx hi
    have go : ∀ {ag : Bool} {ks : List CK} {z : AV}, keyS P kt = some (ag, ks) → zeroV P et = some z → opLk E z ok ag ks ax ai fr h = .ok v h' → Res ρ φ h w v h' ((opR a.eval (.lookup t x i ok) ty).run P w) := by
      intro ag ks z hks hz e
      obtain ⟨c, h1, e1⟩ := evC_ok e
      obtain ⟨k, h2, e2⟩ := ro_ok e1
      have hv : VC ρ φ c (a.eval x) := cX_ok hx g.fr h1
      have hk := cX_ok hi g.fr h2
      split at e2
      · rename_i id
        obtain ⟨l, h3, e3⟩ := ro_ok e2
        obtain ⟨hb, e4⟩ := br_ok e3
        obtain ⟨r, h4, e5⟩ := ro_ok e4
        obtain ⟨b, base, tot, h5, h6⟩ := hv
        obtain ⟨b', es, cl, h7, h8, h9⟩ := g.rel.maps id l (mapOf_some h3)
        rw [h5] at h7
        cases h7
        obtain ⟨r', h10, h11⟩ := find_key (P := P) (w := w) g.env hks hk h9 h4
        have hck := check_key (P := P) (w := w) (bb := es.isEmpty) hks hk hb
        obtain ⟨zu, hz0, hzz⟩ := run_zeroV (ρ := ρ) (φ := φ) hz
        have hgo : (getObj b).run P w = .ok (.map es cl) w := by simp [getObj, Sem.run, h8]
        have fin : ∀ {q : AV} {u : Value} {fl : Bool}, VV ρ φ q u → pairB ok q fl h = .ok v h' → (opR a.eval (.lookup t x i ok) ty).run P w = .ok (.value (if ok then .tuple #[u, .bool fl] else u)) w → Res ρ φ h w v h' ((opR a.eval (.lookup t x i ok) ty).run P w) := by
          intro q u fl hqu hp hrun
          cases ok with
          | false => cases hp; exact Res.val g.rel hqu (by rw [hrun]; rfl)
          | true =>
            obtain ⟨q', h12, h13⟩ := ro_ok (show ro q.tv _ = RO.ok v h' from hp)
            cases h13
            refine Res.val g.rel (v := .t [q', .c (.b fl)]) (u := .tuple #[u, .bool fl]) ⟨[u, .bool fl], rfl, .cons (hqu.tv h12) (.cons rfl .nil)⟩ (by rw [hrun]; rfl)
        cases r with
        | none =>
          have hr' : r' = none := h11
          subst hr'
          refine fin hzz e5 ?_
          simp [opR, execOp, Instr.lookup, run_underlying hu, h6, hgo, hck, h10, hz0]
        | some p =>
          obtain ⟨u, e', h12, h13, _, _⟩ := h11
          subst h12
          refine fin h13 e5 ?_
          simp [opR, execOp, Instr.lookup, run_underlying hu, h6, hgo, hck, h10]
      · cases e2
    split at hc
    · rename_i ag ks z hks hz
      cases hc
      exact go hks hz e
    · cases hc
  · cases hc
theorem Rel.setMap (r : Rel ρ φ h w) {id : Bid} {l l' : List (AV × AV)} {b : Nat} {es es' : Array MapEntry} {cl cl' : Nat} (hid : h.get id = some (.map l)) (hφ : φ id = some (b, 0, 0)) (hb : w.heap[b]? = some (.map es cl)) (he : Ents ρ φ l' es'.toList) :
    Stp ρ φ h w φ (h.putB id (some (.map l'))) { w with heap := w.heap.setIfInBounds b (.map es' cl') } := by
  have hlt : b < w.heap.size := (Array.getElem?_eq_some_iff.1 hb).1
  have hlive : ∀ j, ((h.putB id (some (AB.map l'))).get j).isSome = (h.get j).isSome := by
    intro j
    by_cases hj : j = id
    · subst hj; rw [Hp.get_putB, hid]; rfl
    · rw [Hp.get_putB_ne hj]
  have hne : ∀ j x, j ≠ id → (h.get j).isSome → φ j = some x → x.1 ≠ b := fun j x hj hs hx he => hj (r.inj j id x _ hs (by rw [hid]; rfl) hx hφ he)
  have hoth : ∀ g, g ≠ b → (w.heap.setIfInBounds b (.map es' cl'))[g]? = w.heap[g]? := fun g hg => by simp [Array.getElem?_setIfInBounds, Ne.symm hg]
  refine Stp.mk' r.frz (.refl _) ⟨?_, ?_, ?_, ?_, ?_, ?_⟩ (by simp) ?_ ?_ (by rw [Hp.next_putB]; exact Nat.le_refl _) (fun _ h => .inl h) rfl rfl rfl
  · intro j c hd
    have hj : j ≠ id := by rintro rfl; rw [Hp.get_putB] at hd; cases hd
    rw [Hp.get_putB_ne hj] at hd
    obtain ⟨b', base', arr', T', k1, k2, k3⟩ := r.cells j c hd
    exact ⟨b', base', arr', T', k1, by rw [hoth _ (hne j _ hj (by rw [hd]; rfl) k1)]; exact k2, k3⟩
  · intro j m hd
    by_cases hj : j = id
    · subst hj
      rw [Hp.get_putB] at hd
      cases hd
      exact ⟨b, es', cl', hφ, by simp [Array.getElem?_setIfInBounds, hlt], he⟩
    · rw [Hp.get_putB_ne hj] at hd
      obtain ⟨b', es2, c2, k1, k2, k3⟩ := r.maps j m hd
      exact ⟨b', es2, c2, k1, by rw [hoth _ (hne j _ hj (by rw [hd]; rfl) k1)]; exact k2, k3⟩
  · intro j d y hd
    have hj : j ≠ id := by rintro rfl; rw [Hp.get_putB] at hd; cases hd
    rw [Hp.get_putB_ne hj] at hd
    obtain ⟨b', arr', T', k1, k2, k3⟩ := r.rows j d y hd
    exact ⟨b', arr', T', k1, by rw [hoth _ (hne j _ hj (by rw [hd]; rfl) k1)]; exact k2, k3⟩
  · intro i j x y hi hj; rw [hlive] at hi hj; exact r.inj i j x y hi hj
  · intro i hi; rw [hlive] at hi; rw [Hp.next_putB]; exact r.low i hi
  · intro i hi; rw [Hp.next_putB] at hi; exact r.free i hi
  · intro g hg hn
    exact hoth g fun e => hn id _ (by rw [hid]; rfl) hφ e.symm
  · intro i x hi hx _
    rw [hlive] at hi
    exact ⟨i, x, hi, hx, rfl⟩
theorem ents_modify {l : List (AV × AV)} {es : List MapEntry} (he : Ents ρ φ l es) (i : Nat) {k v : AV} {f : MapEntry → MapEntry} (hf : ∀ e, VV ρ φ k (f e).key ∧ VV ρ φ v (f e).val) : Ents ρ φ (l.modify i fun _ => (k, v)) (es.modify i f) := by
  induction he generalizing i with
  | nil => cases i <;> exact .nil
  | cons h1 h2 ih =>
    cases i with
    | zero => exact .cons (hf _) h2
    | succ i => exact .cons h1 (ih i)
theorem found_same (hE : EnvOk E ρ) {kt : TypeId} {ag : Bool} {ks : List CK} (hks : keyS P kt = some (ag, ks)) {k : AV} {X : Value} (hk : VV ρ φ k X) : ∀ {l : List (AV × AV)} {es : List MapEntry} {i0 i : Nat} {v : AV}, Ents ρ φ l es → mapGet E ag ks k l i0 = some (some (i, v)) → ∃ e, es[i - i0]? = some e ∧ i0 ≤ i ∧ Instr.sameBits 10000 e.key X = true
  | [], es, i0, i, v, he, e => by cases e
  | (x, u) :: l, es, i0, i, v, he, e => by
    cases he with
    | cons h1 h2 =>
      rename_i y es
      simp only [mapGet] at e
      cases hb : keyEq E ag ks k x with
      | none => rw [hb] at e; cases e
      | some b =>
        rw [hb] at e
        cases b with
        | true =>
          cases e
          refine ⟨y, by simp, Nat.le_refl _, ?_⟩
          rcases keyS_ok hks with ⟨rfl, rfl, q, hu⟩ | ⟨rfl, fs, hu, hp, hs⟩
          · obtain ⟨q', m, n, rfl, hY, hmn⟩ := eq_int hE hb hk h1.1
            have : m = n := by simpa using hmn.symm
            subst this
            rw [hY]
            exact same_plain 10000 rfl
          · exact (eq_agg (P := P) (w := default) hE hu hp hs hb hk h1.1).2 rfl
        | false =>
          obtain ⟨e', h3, h4, h5⟩ := found_same hE hks hk h2 e
          refine ⟨e', ?_, by omega, h5⟩
          rw [show i - i0 = (i - (i0 + 1)) + 1 by omega]
          simpa using h3
theorem snd_cMu {t : TypeId} {m k x : Operand} {ao : AO} (hc : cMu P t m k x = some ao) (g : Gv E ρ φ fr a h w) (e : aop P E noCall ao fr h = .ok v h') : ∃ w', (Instr.mapUpdate t (a.eval m) (a.eval k) (a.eval x)).run P w = .ok () w' ∧ VV ρ φ v undef ∧ Stp ρ φ h w φ h' w' := by
  unfold cMu at hc
  split at hc
  · rename_i kt et am ak ax hu hm hk hx
    split at hc
    · rename_i ag ks hks
      cases hc
      obtain ⟨c, h1, e1⟩ := evC_ok (show opMu E ag ks am ak ax fr h = .ok v h' from e)
      obtain ⟨kv, h2, e2⟩ := ro_ok e1
      obtain ⟨xv, h3, e3⟩ := ro_ok e2
      have hv : VC ρ φ c (a.eval m) := cX_ok hm g.fr h1
      have hkv := cX_ok hk g.fr h2
      have hxv := cX_ok hx g.fr h3
      split at e3
      · rename_i id
        obtain ⟨l, h4, e4⟩ := ro_ok e3
        obtain ⟨hb, e5⟩ := br_ok e4
        obtain ⟨r, h5, e6⟩ := ro_ok e5
        cases e6
        obtain ⟨b, base, tot, h6, h7⟩ := hv
        obtain ⟨b', es, cl, h8, h9, h10⟩ := g.rel.maps id l (mapOf_some h4)
        rw [h6] at h8
        cases h8
        obtain ⟨r', h11, h12⟩ := find_key (P := P) (w := w) g.env hks hkv h10 h5
        have hck := check_key (P := P) (w := w) (bb := false) hks hkv hb
        have hgo : (getObj b).run P w = .ok (.map es cl) w := by simp [getObj, Sem.run, h9]
        have hset : ∀ o, (setObj b o).run P w = .ok () { w with heap := w.heap.setIfInBounds b o } := fun o => by simp [setObj, Sem.run, h9]
        cases r with
        | none =>
          have hr' : r' = none := h12
          subst hr'
          refine ⟨_, ?_, undef_ok, g.rel.setMap (es' := es.push { key := a.eval k, val := a.eval x, born := cl }) (cl' := cl + 1) (mapOf_some h4) h6 h9 ?_⟩
          · simp [Instr.mapUpdate, run_underlying hu, h7, hgo, hck, h11, hset]
          · rw [Array.toList_push]
            exact All2.append h10 (.cons ⟨hkv, hxv⟩ .nil)
        | some p =>
          obtain ⟨u, e', h13, h14, h15, h16⟩ := h12
          subst h13
          obtain ⟨e2', h17, _, h18⟩ := found_same (P := P) g.env hks hkv h10 h5
          have hes : es[p.1]? = some e2' := by rw [← Array.getElem?_toList]; simpa using h17
          refine ⟨_, ?_, undef_ok, g.rel.setMap (es' := es.modify p.1 fun q => { q with key := a.eval k, val := a.eval x }) (cl' := cl) (mapOf_some h4) h6 h9 ?_⟩
          · simp [Instr.mapUpdate, run_underlying hu, h7, hgo, hck, h11, hset, hes, Instr.keyThatStays, h18]
          · rw [Array.toList_modify]
            exact ents_modify h10 p.1 fun _ => ⟨hkv, hxv⟩
      · cases e3
    · cases hc
  · cases hc
theorem snd_mu (t : TypeId) (m k x : Operand) : Snd P E (.mapUpdate t m k x) := by
  intro ao hc ρ φ fr a h w v h' ty g e
  obtain ⟨w', h1, h2, h3⟩ := snd_cMu hc g e
  exact ⟨.skip, undef, w', φ, by simp [opR, execOp, h1], rfl, h2, h3⟩
theorem snd_insert (t : TypeId) (m k x : Operand) : Snd P E (.insert t m k x) := by
  intro ao hc ρ φ fr a h w v h' ty g e
  obtain ⟨w', h1, h2, h3⟩ := snd_cMu hc g e
  exact ⟨.skip, undef, w', φ, by simp [opR, execOp, h1], rfl, h2, h3⟩
end
end Go.Proofs.YtjnfgapfhpihmaaGreat
namespace Go.Proofs.YtjnfgapfhpihmaaGreat
section
variable {P : Program} {E : Env} {ρ : Vn} {φ : Emb} {fr : Fr} {a : Act} {h h' : Hp} {w w' : World} {v : AV} {ty : TypeId}
theorem map1 {x : Operand} : (#[x] : Array Operand).map a.eval = #[a.eval x] := by simp
theorem snd_len {c : Call} {x : Operand} {t el : TypeId} (hc : c.callee = .builtin .len) (ha : c.args = #[x]) (ht : c.argTypes = #[t]) (hu : P.underlying t = some (.slice el)) {ax : AX} (hx : cX x = some ax) (g : Gv E ρ φ fr a h w) (e : opLen E ax fr h = .ok v h') : Res ρ φ h w v h' ((opR a.eval (.call c) ty).run P w) := by
  obtain ⟨p, h1, e0⟩ := evC_ok e
  rcases onD_ok e0 with ⟨s', y, hcd, e1⟩ | ⟨-, e1⟩
  · obtain ⟨c', h2, e2⟩ := ro_ok e1
    cases e2
    obtain ⟨q, cap, hq, _⟩ : SlD φ.z s' (ρ.d y) (a.eval x) := VC.sld hcd (cX_ok hx g.fr h1)
    refine Res.val g.rel (v := .c c') (u := goInt (ρ.d y).length) (g.env.dlen _ _ h2 φ) ?_
    rw [opR_builtin hc, ha, ht, map1, hq]
    simp [builtin, Builtin.len_, run_underlying hu]
  obtain ⟨n, h2, e2⟩ := ro_ok e1
  cases e2
  have hp : VC ρ φ p (a.eval x) := cX_ok hx g.fr h1
  have sl : ∀ {base : Option Addr} {cap : Nat}, a.eval x = .slice base n cap → Res ρ φ h w (.c (.i .i64 (Int.ofNat n))) h ((opR a.eval (.call c) ty).run P w) := by
    intro base cap hx'
    refine Res.val g.rel (v := .c (.i .i64 (Int.ofNat n))) (u := goInt n) rfl ?_
    rw [opR_builtin hc, ha, ht, map1, hx']
    simp [builtin, Builtin.len_, run_underlying hu]
  unfold lenOf at h2
  split at h2 <;> cases h2
  · exact sl (show a.eval x = .slice none 0 0 from hp)
  · obtain ⟨b, base, tot, _, h3⟩ := hp; exact sl h3
  · obtain ⟨b, base, tot, cap, _, h3, _⟩ := hp; exact sl h3
  · obtain ⟨b, base, tot, o, cap, _, h3, _⟩ := hp; exact sl h3
theorem snd_lens {c : Call} {x : Operand} {t : TypeId} (hc : c.callee = .builtin .len) (ha : c.args = #[x]) (ht : c.argTypes = #[t]) (hu : P.underlying t = some .string) {ax : AX} (hx : cX x = some ax) (g : Gv E ρ φ fr a h w) (e : opLens E ax fr h = .ok v h') : Res ρ φ h w v h' ((opR a.eval (.call c) ty).run P w) := by
  obtain ⟨p, h1, e1⟩ := evC_ok e
  obtain ⟨r, h2, e2⟩ := ro_ok e1
  cases e2
  have hp : VC ρ φ p (a.eval x) := cX_ok hx g.fr h1
  have st : ∀ {y : ByteArray}, a.eval x = .string y → VC ρ φ r (.int .i64 y.size) → Res ρ φ h w (.c r) h ((opR a.eval (.call c) ty).run P w) := by
    intro y hx' hr
    refine Res.val g.rel (v := .c r) (u := goInt y.size) hr ?_
    rw [opR_builtin hc, ha, ht, map1, hx']
    simp [builtin, Builtin.len_, run_underlying hu]
  unfold lensOf at h2
  split at h2
  · cases h2
    obtain ⟨y, h3, h4⟩ := hp
    refine st h3 ?_
    subst h4
    show Value.int .i64 (y.size : Int) = .int .i64 (Int.ofNat _)
    simp
  · exact st hp (g.env.len _ _ h2 φ)
  · cases h2
theorem snd_cap {c : Call} {x : Operand} {t el : TypeId} (hc : c.callee = .builtin .cap) (ha : c.args = #[x]) (ht : c.argTypes = #[t]) (hu : P.underlying t = some (.slice el)) {ax : AX} (hx : cX x = some ax) (g : Gv E ρ φ fr a h w) (e : opCap ax fr h = .ok v h') : Res ρ φ h w v h' ((opR a.eval (.call c) ty).run P w) := by
  obtain ⟨p, h1, e1⟩ := evC_ok e
  have hp : VC ρ φ p (a.eval x) := cX_ok hx g.fr h1
  have sl : ∀ {base : Option Addr} {n cap : Nat}, a.eval x = .slice base n cap → Res ρ φ h w (.c (.i .i64 (Int.ofNat cap))) h ((opR a.eval (.call c) ty).run P w) := by
    intro base n cap hx'
    refine Res.val g.rel (v := .c (.i .i64 (Int.ofNat cap))) (u := goInt cap) rfl ?_
    rw [opR_builtin hc, ha, ht, map1, hx']
    simp [builtin, Builtin.cap_, run_underlying hu]
  split at e1
  · cases e1; exact sl (show a.eval x = .slice none 0 0 from hp)
  · cases e1; obtain ⟨b, base, tot, _, h3⟩ := hp; exact sl h3
  · cases e1
    obtain ⟨b, base, tot, cap, _, h3, _, h4, _⟩ := hp
    refine Res.val g.rel (v := .c (.ge _)) (u := goInt cap) ⟨cap, rfl, h4⟩ ?_
    rw [opR_builtin hc, ha, ht, map1, h3]
    simp [builtin, Builtin.cap_, run_underlying hu]
  · cases e1
theorem bytesOf_ok : ∀ {l : List AC} {m : List Nat} {vs : List Value}, bytesOf l = some m → All2 (VC ρ φ) l vs → vs = (m.map Int.ofNat).map (Value.int .u8) ∧ ∀ n ∈ m, n < 256
  | [], m, vs, e, h => by cases e; cases h; exact ⟨rfl, by simp⟩
  | c :: l, m, vs, e, h => by
    unfold bytesOf at e
    split at e
    · cases ‹_ :: _ = []›
    · rename_i n l' heq
      cases heq
      cases hb : Nat.blt n 256 with
      | false => rw [hb] at e; cases e
      | true =>
        rw [hb] at e
        simp only [cond_true] at e
        split at e
        · rename_i m' hm
          cases e
          cases h with
          | cons a1 a2 =>
            obtain ⟨h1, h2⟩ := bytesOf_ok hm a2
            refine ⟨by rw [h1, show _ = Value.int .u8 (Int.ofNat n) from a1]; rfl, fun k hk => ?_⟩
            rcases List.mem_cons.1 hk with rfl | hk
            · exact Nat.le_of_ble_eq_true hb
            · exact h2 k hk
        · cases e
    · cases e
theorem snd_bts {s d el : TypeId} {x : Operand} (hs : P.underlying s = some (.slice el)) (he : P.underlying el = some (.int .u8)) (hd : P.underlying d = some .string) {ax : AX} (hx : cX x = some ax) (g : Gv E ρ φ fr a h w) (e : opBts E ax fr h = .ok v h') : Res ρ φ h w v h' ((opR a.eval (.convert s d x) ty).run P w) := by
  obtain ⟨c, h1, e1⟩ := evC_ok e
  have hc : VC ρ φ c (a.eval x) := cX_ok hx g.fr h1
  split at e1
  · rename_i id off len cap
    obtain ⟨l, h2, e2⟩ := ro_ok e1
    obtain ⟨b, base, tot, k1, k2⟩ := hc
    obtain ⟨b', base', tot', vs, h3, h4, h5, h6⟩ := g.rel.lds h2
    rw [k1] at h3
    cases h3
    have fin : ∀ xs : List Int, vs = xs.map (Value.int .u8) → (opR a.eval (.convert s d x) ty).run P w = .ok (.value (.string (strOfNums xs))) w := by
      intro xs hxs
      have hlen : xs.length = len := by rw [hxs] at h4; simpa using h4
      have := run_convert_bytes_arg (P := P) w s el hs he b (base + off) len cap xs hlen (fun i hi => by
        have hi' : i < xs.length := by omega
        have h7 := h6 i (.int .u8 (xs.getD i 0)) (by rw [hxs]; simp [List.getD, List.getElem?_eq_getElem hi'])
        exact h7) d hd
      simp only [opR, execOp]
      rw [k2, Sem.run_bind, this]
      rfl
    unfold btsOf at e2
    cases hb : bytesOf l with
    | some m =>
      rw [hb] at e2
      cases e2
      obtain ⟨q1, q2⟩ := bytesOf_ok hb h5
      refine Res.val g.rel ?_ (fin _ q1)
      refine ⟨_, rfl, ?_⟩
      rw [strOfNums_data, List.map_map, List.map_map]
      conv => rhs; rw [← List.map_id m]
      refine List.map_congr_left fun n hn => ?_
      have := q2 n hn
      simp [UInt8.toNat_ofNat', Nat.mod_eq_of_lt this]
    | none =>
      rw [hb] at e2
      obtain ⟨c', h7, h8⟩ := ro_ok (show ro (E.sof l) _ = RO.ok v h' from e2)
      cases h8
      obtain ⟨xs, q1, q2⟩ := g.env.sof l c' h7 φ vs h5
      exact Res.val g.rel (v := .c c') q2 (fin xs q1)
  · cases e1
theorem snd_convert (s d : TypeId) (x : Operand) : Snd P E (.convert s d x) := by
  intro ao hc ρ φ fr a h w v h' ty g e
  simp only [cOp] at hc
  split at hc
  · rename_i el hs hd
    split at hc
    · rename_i he
      obtain ⟨ax, hx, rfl⟩ := map_some hc
      exact snd_bts hs he hd hx g e
    · cases hc
  · rename_i q k hs hd
    obtain ⟨ax, hx, rfl⟩ := map_some hc
    exact snd_ci hs hd hx g e
  · cases hc
    exact gen_ok (fun f hf => by simp only [opR, execOp]; rw [hf x (by simp [Op.operands])]) g e
  · cases hc
theorem gen_call {c : Call} {b : Builtin} (hc : c.callee = .builtin b) (hb : ∀ at' ty' ty'' cs cs' vs, builtin b at' ty' cs vs = builtin b at' ty'' cs' vs) (g : Gv E ρ φ fr a h w) (e : opGen P E (.call c) fr h = .ok v h') : Res ρ φ h w v h' ((opR a.eval (.call c) ty).run P w) := by
  refine gen_ok (fun f hf => ?_) g e
  simp only [opR, execOp, resolve, hc, pure_bind, invoke]
  have : c.args.map a.eval = c.args.map f := Array.map_congr_left fun x hx => hf x (by
    simp only [Op.operands, Call.operands, hc]
    simpa using hx)
  rw [this]
  exact hb _ _ _ _ _ _
theorem isOv_ok {fn : Func} (h : isOv P fn = true) : fn.body.isNone = true ∧ (fn.name == "runtime.NumGoroutine") = false ∧ Extern.findNext fn = none ∧ ∃ t r e s, Extern.find fn = some (Extern.SlicesOverlaps.overlaps #[t, t] #[r]) ∧ P.underlying t = some (.slice e) ∧ sizeT P e = some s := by
  simp only [isOv, Bool.and_eq_true] at h
  obtain ⟨h1, h2, h3, h4, h5, h6, h7, h8⟩ := h
  refine ⟨h1, by simpa using h2, by simpa using h3, ?_⟩
  split at h8
  · rename_i t t' r hp hr
    obtain ⟨h9, h10⟩ := Bool.and_eq_true_iff.1 h8
    have h11 : t = t' := of_decide_eq_true h9
    subst h11
    split at h10
    · rename_i e he
      cases hs : sizeT P e with
      | none => rw [hs] at h10; cases h10
      | some s =>
        have ho : fn.origin = "slices.overlaps" := by simpa using h7
        have g1 : Extern.allGenericRows.lookup "slices.overlaps" = none := by kernel_rfl
        have g2 : Extern.allTypedRows.lookup "slices.overlaps" = some Extern.SlicesOverlaps.overlaps := by kernel_rfl
        have p1 : fn.params = #[t, t] := Array.ext' hp
        have p2 : fn.resultTypes = #[r] := Array.ext' hr
        refine ⟨t, r, e, s, ?_, he, hs⟩
        simp only [Extern.find, ho, Option.isNone_iff_eq_none.1 h4, Option.isNone_iff_eq_none.1 h5, Option.isNone_iff_eq_none.1 h6, g1, g2, p1, p2]
        rfl
    · cases h10
  · cases h8
theorem blkOf_ok {c : AC} {id : Bid} {x : Value} (hv : VC ρ φ c x) (e : blkOf c = some id) : ∃ b base tot o n cap, φ id = some (b, base, tot) ∧ x = .slice (some ⟨b, o, none⟩) n cap := by
  cases c <;> first | (cases e; done) | skip
  · cases e
    obtain ⟨b, base, tot, h1, h2⟩ := hv
    exact ⟨b, base, tot, _, _, _, h1, h2⟩
  · cases e
    obtain ⟨b, base, tot, cap, h1, h2, _⟩ := hv
    exact ⟨b, base, tot, _, _, _, h1, h2⟩
theorem liveC_ok {id : Bid} (r : Rel ρ φ h w) (e : liveC h id = true) {b base tot : Nat} (hb : φ id = some (b, base, tot)) : (h.get id).isSome ∧ ∃ T, w.shape? b = some (T, tot) ∧ tot ≠ 0 ∧ ∀ o, w.frozen? ⟨b, o, none⟩ = false := by
  unfold liveC at e
  split at e
  · rename_i x l hl
    have hg : h.get id = some (.cells (x :: l)) := by
      cases hh : h.get id with
      | none => rw [hh] at hl; cases hl
      | some y => rw [hh] at hl; cases y with
        | cells c => cases hl; rfl
        | map m => cases hl
        | row d y => cases hl
    obtain ⟨b', base', arr, T, h1, h2, h3, _⟩ := r.cells id _ hg
    rw [h1] at hb
    cases hb
    refine ⟨by rw [hg]; rfl, T, by simp [World.shape?, h2], ?_, fun o => by simp [World.frozen?, h2]⟩
    simp only [List.length_cons] at h3
    omega
  · cases e
theorem snd_ov {c : Call} {f : FuncId} {fn : Func} (hcal : c.callee = .value (.func f)) (hf : P.funcs[f]? = some fn) (ho : isOv P fn = true) {ao : AO} (hc : cOv c.args.toList = some ao) (g : Gv E ρ φ fr a h w) (e : aop P E noCall ao fr h = .ok v h') : Res ρ φ h w v h' ((opR a.eval (.call c) ty).run P w) := by
  obtain ⟨h1, h2, h3, t, r, el, s, h4, h5, h6⟩ := isOv_ok ho
  unfold cOv at hc
  split at hc
  · rename_i x y hargs
    split at hc
    · rename_i ax ay hx hy
      cases hc
      obtain ⟨u, e1, e2⟩ := evC_ok (show opOv ax ay fr h = .ok v h' from e)
      obtain ⟨u', e3, e4⟩ := evC_ok e2
      obtain ⟨ia, e5, e6⟩ := ro_ok e4
      obtain ⟨ib, e7, e8⟩ := ro_ok e6
      obtain ⟨e9, e10⟩ := br_ok e8
      cases e10
      obtain ⟨k1, k2⟩ := Bool.and_eq_true_iff.1 e9
      obtain ⟨k3, k4⟩ := Bool.and_eq_true_iff.1 k2
      have hne : ia ≠ ib := by simpa using k1
      obtain ⟨b1, base1, tot1, o1, n1, cap1, m1, m2⟩ := blkOf_ok (cX_ok hx g.fr e1 : VC ρ φ u (a.eval x)) e5
      obtain ⟨b2, base2, tot2, o2, n2, cap2, m3, m4⟩ := blkOf_ok (cX_ok hy g.fr e3 : VC ρ φ u' (a.eval y)) e7
      obtain ⟨l1, T1, s1, _, f1⟩ := liveC_ok g.rel k3 m1
      obtain ⟨l2, T2, s2, z2, f2⟩ := liveC_ok g.rel k4 m3
      have hbb : b1 ≠ b2 := fun hb => hne (g.rel.inj ia ib _ _ l1 l2 m1 m3 hb)
      refine Res.val g.rel (v := .c (.b false)) (u := .bool false) rfl ?_
      have hr : opR a.eval (.call c) ty = callFunc f (#[] ++ c.args.map a.eval ++ #[]) := by
        simp [opR, execOp, resolve, hcal, show a.eval (.func f) = .func (.func f) #[] #[] from rfl, Deferred.ofValue, invoke]
      have ha : #[] ++ c.args.map a.eval ++ #[] = #[Value.slice (some ⟨b1, o1, none⟩) n1 cap1, .slice (some ⟨b2, o2, none⟩) n2 cap2] := by
        apply Array.ext'
        simp [hargs, m2, m4]
      rw [hr, ha, run_callFunc_extern hf h2 h1 h3 h4, Lib.run_overlaps_apart w t r el h5 s (run_sizeT h6) ⟨b1, o1, none⟩ ⟨b2, o2, none⟩ n1 cap1 n2 cap2 hbb T1 T2 tot1 tot2 s1 s2 z2 (f1 _) (f1 _)]
      rfl
    · cases hc
  · cases hc
theorem snd_call (c : Call) : Snd P E (.call c) := by
  intro ao hc ρ φ fr a h w v h' ty g e
  simp only [cOp] at hc
  split at hc
  · rename_i fcal hcal
    split at hc
    · split at hc
      · split at hc
        · rename_i f' args' _ _
          cases hc
          obtain ⟨vs, _, h2⟩ := ro_ok (show opCall noCall f' args' fr h = .ok v h' from e)
          cases h2
        · cases hc
      · rename_i fn hf hbody
        cases ho : isOv P fn with
        | true => rw [ho] at hc; exact snd_ov hcal hf ho hc g e
        | false => rw [ho] at hc; cases hc
    · cases hc
  · split at hc
    · rename_i ax l _ _
      cases hc
      obtain ⟨p, _, e1⟩ := evC_ok (show opCv noCall ax l fr h = .ok v h' from e)
      obtain ⟨vs, _, e2⟩ := ro_ok e1
      split at e2
      · cases e2
      · cases e2
    · cases hc
  · rename_i x y tx ty' hcal hargs hty
    split at hc
    · rename_i el kn ax ay hu hk hx hy
      split at hc
      · rename_i s z b hs hz hb
        split at hc
        · rename_i hcond
          cases hc
          exact snd_apz hcal (arr2 hargs) (arr2 hty) hu hk hx hy hs hz hb hcond g e
        · cases hc
      · cases hc
    · rename_i el el' ax ay hu hk hx hy
      exact snd_ap hcal (arr2 hargs) (arr2 hty) hu (.inl ⟨_, hk⟩) hx hy hc g e
    · rename_i el ax ay hu hk hx hy
      exact snd_ap hcal (arr2 hargs) (arr2 hty) hu (.inr hk) hx hy hc g e
    · cases hc
  · rename_i x t hcal hargs hty
    split at hc
    · rename_i el ax hu hx; cases hc; exact snd_len hcal (arr1 hargs) (arr1 hty) hu hx g e
    · rename_i ax hu hx; cases hc; exact snd_lens hcal (arr1 hargs) (arr1 hty) hu hx g e
    · rename_i n el hu
      cases hc
      cases e
      refine Res.val g.rel (v := .c (.i .i64 n)) (u := goInt n) rfl ?_
      rw [opR_builtin hcal, arr1 hargs, arr1 hty, map1]
      simp [builtin, Builtin.len_, run_underlying hu]
    · cases hc
  · rename_i x t hcal hargs hty
    split at hc
    · rename_i el ax hu hx; cases hc; exact snd_cap hcal (arr1 hargs) (arr1 hty) hu hx g e
    · cases hc
  · rename_i x y tx ts hcal hargs hty
    split at hc
    · rename_i el ax ay hu hx hy
      obtain ⟨s, hs, rfl⟩ := map_some hc
      exact snd_cp hcal (arr2 hargs) hty hu hx hy hs g e
    · cases hc
  · rename_i x t hcal hargs hty
    split at hc
    · rename_i el ax hu hx
      split at hc
      · rename_i z hz
        split at hc
        · rename_i hzp
          cases hc
          exact snd_clr hcal (arr1 hargs) (arr1 hty) hu hx hz hzp g e
        · cases hc
      · cases hc
    · cases hc
  · rename_i hcal
    cases hc
    exact gen_call hcal (fun _ _ _ _ _ _ => rfl) g e
  · rename_i hcal
    cases hc
    exact gen_call hcal (fun _ _ _ _ _ _ => rfl) g e
  · cases hc
theorem snd_all (op : Op) : Snd P E op := by
  cases op with
  | move x => exact snd_move x
  | assign x => exact snd_assign x
  | pick c x y => exact snd_pick c x y
  | alloc t => exact snd_al t
  | box t x => exact snd_bx t x
  | build t ps => exact snd_build t ps
  | buildSlice t n ps => exact snd_bs t n ps
  | insert t m k x => exact snd_insert t m k x
  | load t x => exact snd_ld t x
  | store t x y => exact snd_st t x y
  | nilCheck x => exact snd_nc x
  | binOp op t x y u => exact snd_binOp op t x y u
  | unOp op t x => exact snd_unOp op t x
  | convert s d x => exact snd_convert s d x
  | makeFunc fn first caps =>
    cases fn with
    | func f => exact snd_mf f first caps
    | _ => intro ao hc; cases hc
  | makeMap t o => exact snd_mm t o
  | makeSlice t x y => exact snd_ms t x y
  | slice t x lo hi mx => exact snd_slice t x lo hi mx
  | fieldAddr s x f => exact snd_fa s x f
  | field t x f => exact snd_fd t x f
  | indexAddr t x i => exact snd_ia t x i
  | index t x i => exact snd_ix t x i
  | lookup t x i ok => exact snd_lk t x i ok
  | mapUpdate t m k x => exact snd_mu t m k x
  | extract x i => exact snd_ex x i
  | call c => exact snd_call c
  | makeInterface t x =>
    intro ao hc ρ φ fr a h w v h' ty g e
    cases hc
    exact gen_ok (fun f hf => by simp only [opR, execOp]; rw [hf x (by simp [Op.operands])]) g e
  | typeAssert x t u ok =>
    intro ao hc ρ φ fr a h w v h' ty g e
    cases hc
    exact gen_ok (fun f hf => by simp only [opR, execOp]; rw [hf x (by simp [Op.operands])]) g e
  | _ => intro ao hc; cases hc
end
end Go.Proofs.YtjnfgapfhpihmaaGreat
namespace Go.Proofs.YtjnfgapfhpihmaaGreat
section
variable {P : Program} {E : Env} {ρ : Vn} {φ : Emb} {fr : Fr} {a : Act} {h h' : Hp} {w w' : World} {v : AV} {ty : TypeId}
def CallOk (P : Program) (E : Env) (call : CallF) : Prop :=
  ∀ f vs h v h', call f vs h = .ok v h' → (∀ args w, (callFunc f.num args).run P w = .ok (.enter f.num args) w) ∧
    ∀ ρ φ w us, EnvOk E ρ → Rel ρ φ h w → All2 (VV ρ φ) vs us → Calls P f.num us.toArray w fun e w' => ∃ u φ', e = .returned u ∧ VV ρ φ' v u ∧ Stp ρ φ h w φ' h' w'
theorem opR_call {f : Operand → Value} {c : Call} {x : Operand} (hc : c.callee = .value x) {g : FuncId} {first caps : Array Value} (hx : f x = .func (.func g) first caps) : opR f (.call c) ty = callFunc g (first ++ c.args.map f ++ caps) := by
  simp [opR, execOp, resolve, hc, hx, Deferred.ofValue, invoke]
theorem ptr_vv : ∀ {l : List (Bid × Nat)} {xs : List Value}, All2 (PtrAt φ) l xs → All2 (VV ρ φ) (addrs l) xs
  | [], _, h => by cases h; exact .nil
  | p :: l, _, h => by
    cases h with
    | cons h1 h2 => exact .cons h1 (ptr_vv h2)
theorem aop_noCall {call : CallF} {ao : AO} (h1 : ∀ f l, ao ≠ .call f l) (h2 : ∀ x l, ao ≠ .cv x l) : aop P E call ao = aop P E noCall ao := by
  cases ao <;> first | rfl | exact absurd rfl (h1 _ _) | exact absurd rfl (h2 _ _)
theorem op_wp {call : CallF} (hC : CallOk P E call) {o : Oper} {ao : AO} (hc : cOp P o.op = some ao) (g : Gv E ρ φ fr a h w) (e : aop P E call ao fr h = .ok v h') {next : Act → World → Prop} {Q : Exit → Act → World → Prop} (hn : ∀ u w' φ', VV ρ φ' v u → Stp ρ φ h w φ' h' w' → next (a.put o.dst u) w') : o.wp P a w next Q := by
  have plain : (∀ f l, ao ≠ .call f l) → (∀ x l, ao ≠ .cv x l) → o.wp P a w next Q := by
    intro h1 h2
    rw [aop_noCall h1 h2] at e
    obtain ⟨nx, u, w', φ', hr, hv, hvv, hs⟩ := snd_all o.op ao hc ρ φ fr a h w v h' o.type g e
    unfold Oper.wp
    rw [execOp_eq, hr]
    cases nx with
    | value x => cases hv; exact hn _ _ _ hvv hs
    | skip => cases hv; exact hn _ _ _ hvv hs
    | _ => cases hv
  have enter : ∀ {f : Bid} {vs : List AV} {us : List Value}, call f vs h = .ok v h' → All2 (VV ρ φ) vs us → opR a.eval o.op o.type = callFunc f.num us.toArray → o.wp P a w next Q := by
    intro f vs us hcall hus hop
    obtain ⟨hent, hcalls⟩ := hC f vs h v h' hcall
    unfold Oper.wp
    rw [execOp_eq, hop, hent]
    show Calls P f.num us.toArray w _
    refine (hcalls ρ φ w us g.env g.rel hus).mono ?_
    rintro en w' ⟨u, φ', rfl, hvv, hs⟩
    exact hn u w' φ' hvv hs
  cases hop : o.op with
  | call c =>
    rw [hop] at hc
    simp only [cOp] at hc
    split at hc
    · rename_i f hcal
      split at hc
      · split at hc
        · split at hc
          · rename_i f' axs hf hx
            cases hc
            obtain ⟨vs, h1, e1⟩ := ro_ok (show opCall call f' axs fr h = .ok v h' from e)
            have hus := cXs_ok g.fr hx h1
            refine enter (us := c.args.toList.map a.eval) e1 hus ?_
            rw [hop, opR_call hcal (show a.eval (.func f) = .func (.func f) #[] #[] from rfl), Bid.of_num hf]
            congr 1
            apply Array.ext'
            simp
          · cases hc
        · rename_i fn hf hbody
          cases ho : isOv P fn with
          | false => rw [ho] at hc; cases hc
          | true =>
            rw [ho] at hc
            have hc' : cOv c.args.toList = some ao := hc
            refine plain ?_ ?_ <;>
              (intro f l hao
               subst hao
               unfold cOv at hc'
               split at hc'
               · split at hc' <;> cases hc'
               · cases hc')
      · cases hc
    · rename_i x hnf hcal
      split at hc
      · rename_i ax axs hx hxs
        cases hc
        obtain ⟨c1, h1, e1⟩ := evC_ok (show opCv call ax axs fr h = .ok v h' from e)
        obtain ⟨vs, h2, e2⟩ := ro_ok e1
        have hv : VC ρ φ c1 (a.eval x) := cX_ok hx g.fr h1
        have hus := cXs_ok g.fr hxs h2
        split at e2
        · rename_i f first caps
          obtain ⟨xs, ys, hf, hx1, hy1⟩ := hv
          refine enter (us := xs ++ c.args.toList.map a.eval ++ ys) e2 (((ptr_vv hx1).append hus).append (ptr_vv hy1)) ?_
          rw [hop, opR_call hcal hf]
          congr 1
          apply Array.ext'
          simp
        · cases e2
      · cases hc
    all_goals
      refine plain ?_ ?_ <;>
        (intro f l hao
         subst hao
         revert hc
         (try unfold cAp)
         (repeat' split) <;> intro hc <;> first | contradiction | (cases hc; done) | (obtain ⟨_, _, h⟩ := map_some hc; cases h))
  | unOp uo t x =>
    refine plain ?_ ?_ <;>
      (intro f l hao
       subst hao
       rw [hop] at hc
       cases uo <;> first | (cases hc; done) | (obtain ⟨_, _, h⟩ := map_some (show (cX x).map AO.not = some _ from hc); cases h))
  | _ =>
    refine plain ?_ ?_ <;>
      (intro f l hao
       subst hao
       rw [hop] at hc
       revert hc
       simp only [cOp]
       (try unfold cEqa)
       (try unfold cMu)
       (repeat' split) <;> intro hc <;> first | contradiction | (cases hc; done) | (obtain ⟨_, _, h⟩ := map_some hc; cases h))
end
end Go.Proofs.YtjnfgapfhpihmaaGreat
namespace Go.Proofs.YtjnfgapfhpihmaaGreat
section
variable {P : Program} {E : Env} {ρ : Vn} {φ : Emb} {fr : Fr} {a : Act} {h h' : Hp} {w w' : World} {v : AV} {N : Nat}
theorem put_size (a : Act) (d : Option Tmp) (u : Value) : (a.put d u).tmps.size = a.tmps.size := by cases d <;> simp [Act.put]
theorem put_defers (a : Act) (d : Option Tmp) (u : Value) : (a.put d u).defers = a.defers := by cases d <;> rfl
theorem put_fr {d : Option Tmp} {dst : Option (D16 × D16)} {u : Value} (hf : FR ρ φ fr a.tmps) (hv : VV ρ φ v u) (hc : cDst N d = some dst) (hN : N ≤ a.tmps.size) : FR ρ φ (setDst dst v fr) (a.put d u).tmps := by
  cases d with
  | none => cases hc; exact hf
  | some t =>
    simp only [cDst] at hc
    split at hc
    · rename_i hlt
      cases ht : tmpOf t with
      | none => rw [ht] at hc; cases hc
      | some p =>
        rw [ht] at hc
        cases hc
        have htn := tmpOf_tn (i := p.1) (j := p.2) ht
        intro i j x hx
        have hx' : getF i j (putF p.1 p.2 v fr) = some x := hx
        show tn i j < (a.tmps.setIfInBounds t u).size ∧ VV ρ φ x ((a.tmps.setIfInBounds t u).getD (tn i j) undef)
        by_cases hij : i = p.1 ∧ j = p.2
        · obtain ⟨rfl, rfl⟩ := hij
          rw [getF_putF] at hx'
          cases hx'
          rw [htn]
          refine ⟨by rw [Array.size_setIfInBounds]; exact Nat.lt_of_lt_of_le hlt hN, ?_⟩
          have hts : t < a.tmps.size := Nat.lt_of_lt_of_le hlt hN
          have : (a.tmps.setIfInBounds t u).getD t undef = u := by
            simp [Array.getD, hts]
          rw [this]
          exact hv
        · rw [getF_putF_ne hij] at hx'
          obtain ⟨h1, h2⟩ := hf i j x hx'
          have hne : t ≠ tn i j := by
            intro heq
            rw [← htn] at heq
            have := tn_inj heq
            exact hij ⟨this.1.symm, this.2.symm⟩
          refine ⟨by simpa using h1, ?_⟩
          have : (a.tmps.setIfInBounds t u).getD (tn i j) undef = a.tmps.getD (tn i j) undef := by
            simp [Array.getD, h1, Array.getElem_setIfInBounds, hne]
          rw [this]
          exact h2
    · cases hc
theorem cOper_ok {ops : Array Oper} {o : Oper} {ao : AOp} (hc : cOper P N ops o = some ao) : cDst N o.dst = some ao.dst ∧ ao.op = (match cOp P o.op with | some a => a | none => AO.no) ∧
    ((o.guard = none ∧ ao.guard = none) ∨ ∃ j want g t p, o.guard = some (j, want) ∧ ops[j]? = some g ∧ g.dst = some t ∧ tmpOf t = some p ∧ ao.guard = some (p.1, p.2, want)) := by
  unfold cOper at hc
  cases hd : cDst N o.dst with
  | none => rw [hd] at hc; cases hc
  | some dst =>
    rw [hd] at hc
    dsimp only at hc
    cases hg : o.guard with
    | none => rw [hg] at hc; cases hc; exact ⟨rfl, rfl, .inl ⟨rfl, rfl⟩⟩
    | some jw =>
      rw [hg] at hc
      dsimp only at hc
      cases hj : ops[jw.1]? with
      | none => rw [hj] at hc; cases hc
      | some g =>
        rw [hj] at hc
        dsimp only at hc
        cases ht : g.dst with
        | none => rw [ht] at hc; cases hc
        | some t =>
          rw [ht] at hc
          dsimp only at hc
          cases hp : tmpOf t with
          | none => rw [hp] at hc; cases hc
          | some p => rw [hp] at hc; cases hc; exact ⟨rfl, rfl, .inr ⟨jw.1, jw.2, g, t, p, rfl, hj, ht, hp, rfl⟩⟩
theorem wanted_ok {ops : Array Oper} {o : Oper} {ao : AOp} (hc : cOper P N ops o = some ao) (hf : FR ρ φ fr a.tmps) {b : Bool} (e : wantedA fr ao.guard = some b) : Region.wanted o (yielded ops a.tmps) = b := by
  rcases (cOper_ok hc).2.2 with ⟨h1, h2⟩ | ⟨j, want, g, t, p, h1, h2, h3, h4, h5⟩
  · rw [h2] at e
    cases e
    simp [Region.wanted, h1]
  · rw [h5] at e
    obtain ⟨x, h6, h7⟩ := ob_some (show ob (getF p.1 p.2 fr) _ = some b from e)
    obtain ⟨h8, h9⟩ := hf p.1 p.2 x h6
    rw [tmpOf_tn (i := p.1) (j := p.2) h4] at h8 h9
    have hy : yielded ops a.tmps j = match a.tmps.getD t undef with | .bool b => some b | _ => none := by
      simp only [yielded, h2, Option.bind_some, h3, Array.getElem?_eq_getElem h8]
      have hgd : a.tmps.getD t undef = a.tmps[t] := by simp [Array.getD, h8]
      rw [hgd]
      generalize a.tmps[t] = q
      cases q <;> rfl
    simp only [Region.wanted, h1, hy]
    unfold wantedB at h7
    split at h7
    · cases h7
      rw [show a.tmps.getD t undef = _ from h9]
      rename_i b1
      cases b1 <;> cases want <;> rfl
    · cases h7
      obtain ⟨vs, hvs, h10⟩ := h9
      cases h10
      rw [hvs]
      rfl
    · cases h7
theorem oper_wpOp {call : CallF} (hC : CallOk P E call) {ops : Array Oper} {i : Nat} {o : Oper} {ao : AOp} (hi : ops[i]? = some o) (hc : cOper P N ops o = some ao) (g : Gv E ρ φ fr a h w) (hN : N ≤ a.tmps.size) {b : Bool} (hw : wantedA fr ao.guard = some b) (ht : b = true → aop P E call ao.op fr h = .ok v h') (hf : b = false → v = .t [] ∧ h' = h)
    {Q : Exit → Act → World → Prop} {K : Act → World → Prop} (hn : ∀ a' w' φ', FR ρ φ' (setDst ao.dst v fr) a'.tmps → Stp ρ φ h w φ' h' w' → a'.defers = a.defers → a'.tmps.size = a.tmps.size → (∃ u, a' = a.put o.dst u ∧ VV ρ φ' v u) → K a' w') : wpOp P ops Q i K a w := by
  obtain ⟨hd, hop, _⟩ := cOper_ok hc
  have hwd := wanted_ok hc g.fr hw
  simp only [wpOp, hi, hwd]
  cases b with
  | false =>
    obtain ⟨rfl, rfl⟩ := hf rfl
    simp only [Bool.false_eq_true, if_false]
    exact hn _ w φ (put_fr g.fr undef_ok hd hN) (Stp.refl g.rel) (put_defers _ _ _) (put_size _ _ _) ⟨undef, rfl, undef_ok⟩
  | true =>
    simp only [if_true]
    refine .inl ?_
    have e := ht rfl
    cases hco : cOp P o.op with
    | none => rw [hop, hco] at e; cases e
    | some op' =>
      rw [hop, hco] at e
      refine op_wp hC hco g e ?_
      intro u w' φ' hvv hs
      exact hn _ w' φ' (put_fr (g.fr.le hs.le) hvv hd hN) hs (put_defers _ _ _) (put_size _ _ _) ⟨u, rfl, hvv⟩
theorem oper_wp {call : CallF} (hC : CallOk P E call) {ops : Array Oper} {i : Nat} {o : Oper} {ao : AOp} (hi : ops[i]? = some o) (hc : cOper P N ops o = some ao) (g : Gv E ρ φ fr a h w) (hN : N ≤ a.tmps.size) {b : Bool} (hw : wantedA fr ao.guard = some b) (ht : b = true → aop P E call ao.op fr h = .ok v h') (hf : b = false → v = .t [] ∧ h' = h)
    {Q : Exit → Act → World → Prop} {rest : List Nat} (hn : ∀ a' w' φ', FR ρ φ' (setDst ao.dst v fr) a'.tmps → Stp ρ φ h w φ' h' w' → a'.defers = a.defers → a'.tmps.size = a.tmps.size → (∃ u, a' = a.put o.dst u ∧ VV ρ φ' v u) → wpOps P ops Q rest a' w') : wpOps P ops Q (i :: rest) a w := by
  rw [wpOps_cons]
  exact oper_wpOp hC hi hc g hN hw ht hf hn
theorem mapO_get {α β : Type} {f : α → Option β} : ∀ {xs : List α} {ys : List β}, mapO f xs = some ys → xs.length = ys.length ∧ ∀ (i : Nat) x, xs[i]? = some x → ∃ y, ys[i]? = some y ∧ f x = some y
  | [], ys, e => by cases e; exact ⟨rfl, fun i x hx => by simp at hx⟩
  | x :: xs, ys, e => by
    simp only [mapO] at e
    cases h1 : f x with
    | none => rw [h1] at e; cases e
    | some y =>
      rw [h1] at e
      dsimp only at e
      cases h2 : mapO f xs with
      | none => rw [h2] at e; cases e
      | some m =>
        rw [h2] at e
        cases e
        obtain ⟨h3, h4⟩ := mapO_get h2
        refine ⟨by simp [h3], fun i z hz => ?_⟩
        cases i with
        | zero => simp at hz; subst hz; exact ⟨y, rfl, h1⟩
        | succ i => simpa using h4 i z (by simpa using hz)
def Fin (ρ : Vn) (φ : Emb) (h : Hp) (w : World) (a : Act) (fr' : Fr) (h' : Hp) (a' : Act) (w' : World) : Prop :=
  ∃ φ', FR ρ φ' fr' a'.tmps ∧ Stp ρ φ h w φ' h' w' ∧ a'.defers = a.defers ∧ a'.tmps.size = a.tmps.size
theorem Fin.trans {φ' : Emb} {fr'' : Fr} {h'' : Hp} {a' a'' : Act} {w'' : World} (x : Stp ρ φ h w φ' h' w') (hd : a'.defers = a.defers) (hs : a'.tmps.size = a.tmps.size) (y : Fin ρ φ' h' w' a' fr'' h'' a'' w'') : Fin ρ φ h w a fr'' h'' a'' w'' := by
  obtain ⟨ψ, h1, h2, h3, h4⟩ := y
  exact ⟨ψ, h1, x.trans h2, h3.trans hd, h4.trans hs⟩
theorem region_wp {call : CallF} (hC : CallOk P E call) {ops : Array Oper} {l : List AOp} (hl : mapO (cOper P N ops) ops.toList = some l) {Q : Exit → Act → World → Prop} (he : EnvOk E ρ) :
    ∀ (m k : Nat), k + m = ops.size → ∀ (φ : Emb) (fr : Fr) (a : Act) (h : Hp) (w : World) (fr' : Fr) (h' : Hp), FR ρ φ fr a.tmps → Rel ρ φ h w → N ≤ a.tmps.size → aregion P E call (l.drop k) fr h = .ok fr' h' → (∀ a' w', Fin ρ φ h w a fr' h' a' w' → Q .normal a' w') → wpOps P ops Q (List.range' k m) a w
  | 0, k, hk, φ, fr, a, h, w, fr', h', hf, hr, hN, e, hq => by
    have hlen := (mapO_get hl).1
    have hd : l.drop k = [] := List.drop_eq_nil_of_le (by simp at hlen; omega)
    rw [hd] at e
    cases e
    exact hq a w ⟨φ, hf, Stp.refl hr, rfl, rfl⟩
  | m + 1, k, hk, φ, fr, a, h, w, fr', h', hf, hr, hN, e, hq => by
    have hlt : k < ops.size := by omega
    obtain ⟨ao, h1, h2⟩ := (mapO_get hl).2 k ops[k] (by simp [hlt])
    have hd : l.drop k = ao :: l.drop (k + 1) := by
      rw [List.drop_eq_getElem_cons (List.getElem?_eq_some_iff.1 h1).1]
      congr 1
      exact (List.getElem?_eq_some_iff.1 h1).2
    rw [hd] at e
    have e' : rof (wantedA fr ao.guard) (fun b => Bool.casesOn (motive := fun _ => RF) b (aregion P E call (l.drop (k + 1)) (setDst ao.dst (.t []) fr) h) (rf (aop P E call ao.op fr h) fun v h => aregion P E call (l.drop (k + 1)) (setDst ao.dst v fr) h)) = .ok fr' h' := e
    rw [List.range'_succ]
    cases hw : wantedA fr ao.guard with
    | none => rw [hw] at e'; cases e'
    | some b =>
      rw [hw] at e'
      cases b with
      | false =>
        refine oper_wp (v := .t []) (h' := h) hC (by simp [hlt]) h2 ⟨hf, hr, he⟩ hN hw (fun h => by cases h) (fun _ => ⟨rfl, rfl⟩) ?_
        intro a' w' φ' hf' hs hdf hsz _
        exact region_wp hC hl he m (k + 1) (by omega) φ' _ a' h w' fr' h' hf' hs.rel (by omega) e' fun a'' w'' hfin => hq a'' w'' (Fin.trans hs hdf hsz hfin)
      | true =>
        cases hop : aop P E call ao.op fr h with
        | no =>
          have e2 : rf (aop P E call ao.op fr h) (fun v h => aregion P E call (l.drop (k + 1)) (setDst ao.dst v fr) h) = .ok fr' h' := e'
          rw [hop] at e2; cases e2
        | ok v h1' =>
          have e2 : rf (aop P E call ao.op fr h) (fun v h => aregion P E call (l.drop (k + 1)) (setDst ao.dst v fr) h) = .ok fr' h' := e'
          rw [hop] at e2
          refine oper_wp hC (by simp [hlt]) h2 ⟨hf, hr, he⟩ hN hw (fun _ => hop) (fun h => by cases h) ?_
          intro a' w' φ' hf' hs hdf hsz _
          exact region_wp hC hl he m (k + 1) (by omega) φ' _ a' h1' w' fr' h' hf' hs.rel (by omega) e2 fun a'' w'' hfin => hq a'' w'' (Fin.trans hs hdf hsz hfin)
end
end Go.Proofs.YtjnfgapfhpihmaaGreat
