/-
  A verified evaluator: regions that keep their order. No function of the program is named here.
-/
import Derived.Test.YtmbbciidknchiaaGreatEnP
import Derived.Orders
namespace Go.Proofs.YtmbbciidknchiaaGreat
section
variable {P : Program} {E : Env} {ρ : Vn} {φ : Emb} {fr : Fr} {a : Act} {h h' : Hp} {w w' : World} {v : AV} {N : Nat}
theorem put_size (a : Act) (d : Option Tmp) (u : Value) : (a.put d u).tmps.size = a.tmps.size := by cases d <;> simp [Act.put]
theorem put_defers (a : Act) (d : Option Tmp) (u : Value) : (a.put d u).defers = a.defers := by cases d <;> rfl
theorem put_fr {d : Option Tmp} {dst : Option (D16 × D16)} {u : Value} (hf : FR ρ φ fr a.tmps) (hv : VV ρ φ v u) (hc : cDst N d = some dst) (hN : N ≤ a.tmps.size) : FR ρ φ (setDst dst v fr) (a.put d u).tmps := by
  cases d with
  | none => cases hc; exact hf
  | some t =>
    simp only [cDst] at hc
    split at hc
    · rename_i hlt
      cases ht : tmpOf t with
      | none => rw [ht] at hc; cases hc
      | some p =>
        rw [ht] at hc
        cases hc
        have htn := tmpOf_tn (i := p.1) (j := p.2) ht
        intro i j x hx
        have hx' : getF i j (putF p.1 p.2 v fr) = some x := hx
        show tn i j < (a.tmps.setIfInBounds t u).size ∧ VV ρ φ x ((a.tmps.setIfInBounds t u).getD (tn i j) undef)
        by_cases hij : i = p.1 ∧ j = p.2
        · obtain ⟨rfl, rfl⟩ := hij
          rw [getF_putF] at hx'
          cases hx'
          rw [htn]
          refine ⟨by rw [Array.size_setIfInBounds]; exact Nat.lt_of_lt_of_le hlt hN, ?_⟩
          have hts : t < a.tmps.size := Nat.lt_of_lt_of_le hlt hN
          have : (a.tmps.setIfInBounds t u).getD t undef = u := by
            simp [Array.getD, hts]
          rw [this]
          exact hv
        · rw [getF_putF_ne hij] at hx'
          obtain ⟨h1, h2⟩ := hf i j x hx'
          have hne : t ≠ tn i j := by
            intro heq
            rw [← htn] at heq
            have := tn_inj heq
            exact hij ⟨this.1.symm, this.2.symm⟩
          refine ⟨by simpa using h1, ?_⟩
          have : (a.tmps.setIfInBounds t u).getD (tn i j) undef = a.tmps.getD (tn i j) undef := by
            simp [Array.getD, h1, Array.getElem_setIfInBounds, hne]
          rw [this]
          exact h2
    · cases hc
/-- the guard of a compiled operation -/
theorem cOper_ok {ops : Array Oper} {o : Oper} {ao : AOp} (hc : cOper P N ops o = some ao) : cDst N o.dst = some ao.dst ∧ ao.op = (match cOp P o.op with | some a => a | none => AO.no) ∧
    ((o.guard = none ∧ ao.guard = none) ∨ ∃ j want g t p, o.guard = some (j, want) ∧ ops[j]? = some g ∧ g.dst = some t ∧ tmpOf t = some p ∧ ao.guard = some (p.1, p.2, want)) := by
  unfold cOper at hc
  cases hd : cDst N o.dst with
  | none => rw [hd] at hc; cases hc
  | some dst =>
    rw [hd] at hc
    dsimp only at hc
    cases hg : o.guard with
    | none => rw [hg] at hc; cases hc; exact ⟨rfl, rfl, .inl ⟨rfl, rfl⟩⟩
    | some jw =>
      rw [hg] at hc
      dsimp only at hc
      cases hj : ops[jw.1]? with
      | none => rw [hj] at hc; cases hc
      | some g =>
        rw [hj] at hc
        dsimp only at hc
        cases ht : g.dst with
        | none => rw [ht] at hc; cases hc
        | some t =>
          rw [ht] at hc
          dsimp only at hc
          cases hp : tmpOf t with
          | none => rw [hp] at hc; cases hc
          | some p => rw [hp] at hc; cases hc; exact ⟨rfl, rfl, .inr ⟨jw.1, jw.2, g, t, p, rfl, hj, ht, hp, rfl⟩⟩
theorem wanted_ok {ops : Array Oper} {o : Oper} {ao : AOp} (hc : cOper P N ops o = some ao) (hf : FR ρ φ fr a.tmps) {b : Bool} (e : wantedA fr ao.guard = some b) : Region.wanted o (yielded ops a.tmps) = b := by
  rcases (cOper_ok hc).2.2 with ⟨h1, h2⟩ | ⟨j, want, g, t, p, h1, h2, h3, h4, h5⟩
  · rw [h2] at e
    cases e
    simp [Region.wanted, h1]
  · rw [h5] at e
    obtain ⟨x, h6, h7⟩ := ob_some (show ob (getF p.1 p.2 fr) _ = some b from e)
    obtain ⟨h8, h9⟩ := hf p.1 p.2 x h6
    rw [tmpOf_tn (i := p.1) (j := p.2) h4] at h8 h9
    have hy : yielded ops a.tmps j = match a.tmps.getD t undef with | .bool b => some b | _ => none := by
      simp only [yielded, h2, Option.bind_some, h3, Array.getElem?_eq_getElem h8]
      have hgd : a.tmps.getD t undef = a.tmps[t] := by simp [Array.getD, h8]
      rw [hgd]
      generalize a.tmps[t] = q
      cases q <;> rfl
    simp only [Region.wanted, h1, hy]
    unfold wantedB at h7
    split at h7
    · cases h7
      rw [show a.tmps.getD t undef = _ from h9]
      rename_i b1
      cases b1 <;> cases want <;> rfl
    · cases h7
      obtain ⟨vs, hvs, h10⟩ := h9
      cases h10
      rw [hvs]
      rfl
    · cases h7
/-- one operation of a region -/
theorem oper_wpOp {call : CallF} (hC : CallOk P E call) {ops : Array Oper} {i : Nat} {o : Oper} {ao : AOp} (hi : ops[i]? = some o) (hc : cOper P N ops o = some ao) (g : Gv E ρ φ fr a h w) (hN : N ≤ a.tmps.size) {b : Bool} (hw : wantedA fr ao.guard = some b) (ht : b = true → aop P E call ao.op fr h = .ok v h') (hf : b = false → v = .t [] ∧ h' = h)
    {Q : Exit → Act → World → Prop} {K : Act → World → Prop} (hn : ∀ a' w' φ', FR ρ φ' (setDst ao.dst v fr) a'.tmps → Stp ρ φ h w φ' h' w' → a'.defers = a.defers → a'.tmps.size = a.tmps.size → (∃ u, a' = a.put o.dst u ∧ VV ρ φ' v u) → K a' w') : wpOp P ops Q i K a w := by
  obtain ⟨hd, hop, _⟩ := cOper_ok hc
  have hwd := wanted_ok hc g.fr hw
  simp only [wpOp, hi, hwd]
  cases b with
  | false =>
    obtain ⟨rfl, rfl⟩ := hf rfl
    simp only [Bool.false_eq_true, if_false]
    exact hn _ w φ (put_fr g.fr undef_ok hd hN) (Stp.refl g.rel) (put_defers _ _ _) (put_size _ _ _) ⟨undef, rfl, undef_ok⟩
  | true =>
    simp only [if_true]
    refine .inl ?_
    have e := ht rfl
    cases hco : cOp P o.op with
    | none => rw [hop, hco] at e; cases e
    | some op' =>
      rw [hop, hco] at e
      refine op_wp hC hco g e ?_
      intro u w' φ' hvv hs
      exact hn _ w' φ' (put_fr (g.fr.le hs.le) hvv hd hN) hs (put_defers _ _ _) (put_size _ _ _) ⟨u, rfl, hvv⟩
theorem oper_wp {call : CallF} (hC : CallOk P E call) {ops : Array Oper} {i : Nat} {o : Oper} {ao : AOp} (hi : ops[i]? = some o) (hc : cOper P N ops o = some ao) (g : Gv E ρ φ fr a h w) (hN : N ≤ a.tmps.size) {b : Bool} (hw : wantedA fr ao.guard = some b) (ht : b = true → aop P E call ao.op fr h = .ok v h') (hf : b = false → v = .t [] ∧ h' = h)
    {Q : Exit → Act → World → Prop} {rest : List Nat} (hn : ∀ a' w' φ', FR ρ φ' (setDst ao.dst v fr) a'.tmps → Stp ρ φ h w φ' h' w' → a'.defers = a.defers → a'.tmps.size = a.tmps.size → (∃ u, a' = a.put o.dst u ∧ VV ρ φ' v u) → wpOps P ops Q rest a' w') : wpOps P ops Q (i :: rest) a w := by
  rw [wpOps_cons]
  exact oper_wpOp hC hi hc g hN hw ht hf hn
theorem mapO_get {α β : Type} {f : α → Option β} : ∀ {xs : List α} {ys : List β}, mapO f xs = some ys → xs.length = ys.length ∧ ∀ (i : Nat) x, xs[i]? = some x → ∃ y, ys[i]? = some y ∧ f x = some y
  | [], ys, e => by cases e; exact ⟨rfl, fun i x hx => by simp at hx⟩
  | x :: xs, ys, e => by
    simp only [mapO] at e
    cases h1 : f x with
    | none => rw [h1] at e; cases e
    | some y =>
      rw [h1] at e
      dsimp only at e
      cases h2 : mapO f xs with
      | none => rw [h2] at e; cases e
      | some m =>
        rw [h2] at e
        cases e
        obtain ⟨h3, h4⟩ := mapO_get h2
        refine ⟨by simp [h3], fun i z hz => ?_⟩
        cases i with
        | zero => simp at hz; subst hz; exact ⟨y, rfl, h1⟩
        | succ i => simpa using h4 i z (by simpa using hz)
/-- a region is left so -/
def Fin (ρ : Vn) (φ : Emb) (h : Hp) (w : World) (a : Act) (fr' : Fr) (h' : Hp) (a' : Act) (w' : World) : Prop :=
  ∃ φ', FR ρ φ' fr' a'.tmps ∧ Stp ρ φ h w φ' h' w' ∧ a'.defers = a.defers ∧ a'.tmps.size = a.tmps.size
theorem Fin.trans {φ' : Emb} {fr'' : Fr} {h'' : Hp} {a' a'' : Act} {w'' : World} (x : Stp ρ φ h w φ' h' w') (hd : a'.defers = a.defers) (hs : a'.tmps.size = a.tmps.size) (y : Fin ρ φ' h' w' a' fr'' h'' a'' w'') : Fin ρ φ h w a fr'' h'' a'' w'' := by
  obtain ⟨ψ, h1, h2, h3, h4⟩ := y
  exact ⟨ψ, h1, x.trans h2, h3.trans hd, h4.trans hs⟩
theorem region_wp {call : CallF} (hC : CallOk P E call) {ops : Array Oper} {l : List AOp} (hl : mapO (cOper P N ops) ops.toList = some l) {Q : Exit → Act → World → Prop} (he : EnvOk E ρ) :
    ∀ (m k : Nat), k + m = ops.size → ∀ (φ : Emb) (fr : Fr) (a : Act) (h : Hp) (w : World) (fr' : Fr) (h' : Hp), FR ρ φ fr a.tmps → Rel ρ φ h w → N ≤ a.tmps.size → aregion P E call (l.drop k) fr h = .ok fr' h' → (∀ a' w', Fin ρ φ h w a fr' h' a' w' → Q .normal a' w') → wpOps P ops Q (List.range' k m) a w
  | 0, k, hk, φ, fr, a, h, w, fr', h', hf, hr, hN, e, hq => by
    have hlen := (mapO_get hl).1
    have hd : l.drop k = [] := List.drop_eq_nil_of_le (by simp at hlen; omega)
    rw [hd] at e
    cases e
    exact hq a w ⟨φ, hf, Stp.refl hr, rfl, rfl⟩
  | m + 1, k, hk, φ, fr, a, h, w, fr', h', hf, hr, hN, e, hq => by
    have hlt : k < ops.size := by omega
    obtain ⟨ao, h1, h2⟩ := (mapO_get hl).2 k ops[k] (by simp [hlt])
    have hd : l.drop k = ao :: l.drop (k + 1) := by
      rw [List.drop_eq_getElem_cons (List.getElem?_eq_some_iff.1 h1).1]
      congr 1
      exact (List.getElem?_eq_some_iff.1 h1).2
    rw [hd] at e
    have e' : rof (wantedA fr ao.guard) (fun b => Bool.casesOn (motive := fun _ => RF) b (aregion P E call (l.drop (k + 1)) (setDst ao.dst (.t []) fr) h) (rf (aop P E call ao.op fr h) fun v h => aregion P E call (l.drop (k + 1)) (setDst ao.dst v fr) h)) = .ok fr' h' := e
    rw [List.range'_succ]
    cases hw : wantedA fr ao.guard with
    | none => rw [hw] at e'; cases e'
    | some b =>
      rw [hw] at e'
      cases b with
      | false =>
        refine oper_wp (v := .t []) (h' := h) hC (by simp [hlt]) h2 ⟨hf, hr, he⟩ hN hw (fun h => by cases h) (fun _ => ⟨rfl, rfl⟩) ?_
        intro a' w' φ' hf' hs hdf hsz _
        exact region_wp hC hl he m (k + 1) (by omega) φ' _ a' h w' fr' h' hf' hs.rel (by omega) e' fun a'' w'' hfin => hq a'' w'' (Fin.trans hs hdf hsz hfin)
      | true =>
        cases hop : aop P E call ao.op fr h with
        | no =>
          have e2 : rf (aop P E call ao.op fr h) (fun v h => aregion P E call (l.drop (k + 1)) (setDst ao.dst v fr) h) = .ok fr' h' := e'
          rw [hop] at e2; cases e2
        | ok v h1' =>
          have e2 : rf (aop P E call ao.op fr h) (fun v h => aregion P E call (l.drop (k + 1)) (setDst ao.dst v fr) h) = .ok fr' h' := e'
          rw [hop] at e2
          refine oper_wp hC (by simp [hlt]) h2 ⟨hf, hr, he⟩ hN hw (fun _ => hop) (fun h => by cases h) ?_
          intro a' w' φ' hf' hs hdf hsz _
          exact region_wp hC hl he m (k + 1) (by omega) φ' _ a' h1' w' fr' h' hf' hs.rel (by omega) e2 fun a'' w'' hfin => hq a'' w'' (Fin.trans hs hdf hsz hfin)
end
end Go.Proofs.YtmbbciidknchiaaGreat
