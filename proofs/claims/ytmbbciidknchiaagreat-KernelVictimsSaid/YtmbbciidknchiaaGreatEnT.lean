/-
  A verified evaluator: code is evaluated as the model runs it. No function of the program is named here.
-/
import Derived.Test.YtmbbciidknchiaaGreatEnS
namespace Go.Proofs.YtmbbciidknchiaaGreat
section
variable {P : Program} {E : Env} {T : Tab}
theorem rc_nrm {r : RF} {x : RC} (e : rc r = x) (hx : x ≠ .no) : ∃ fr h, r = .ok fr h ∧ x = .nrm fr h := by
  cases r with
  | no => exact absurd e.symm hx
  | ok fr h => exact ⟨fr, h, rfl, e.symm⟩
theorem CPost.trans {ρ : Vn} {φ φ' : Emb} {h h' : Hp} {w w' : World} {a a' : Act} {r : RC} (x : Stp ρ φ h w φ' h' w') (hd : a'.defers = a.defers) (hs : a'.tmps.size = a.tmps.size) {e : Exit} {a'' : Act} {w'' : World} (y : CPost ρ φ' h' w' a' r e a'' w'') : CPost ρ φ h w a r e a'' w'' := by
  cases r with
  | no => exact y
  | nrm fr h => exact ⟨y.1, Fin.trans x hd hs y.2⟩
  | ex id fr h => exact ⟨y.1, Fin.trans x hd hs y.2⟩
  | ret fr h => exact ⟨y.1, Fin.trans x hd hs y.2⟩
theorem code_ok (hT : TabOk P E T) (hD : DrawOk P E) (n : Nat) : CodeOk P E T n := by
  induction n using Nat.strongRecOn with
  | _ n ih =>
  cases n with
  | zero =>
    intro N c ac hc fr h r hr hne
    exact absurd hr.symm hne
  | succ n =>
  have ihn : CodeOk P E T n := ih n (Nat.lt_succ_self n)
  have hcall := call_of_code hT ihn
  intro N c
  induction c with
  | skip =>
    intro ac hc fr h r hr hne ρ φ a w he hf hrel hN
    cases hc
    have : r = .nrm fr h := hr.symm
    subst this
    exact wp_skip ⟨rfl, φ, hf, Stp.refl hrel, rfl, rfl⟩
  | label l =>
    intro ac hc fr h r hr hne ρ φ a w he hf hrel hN
    cases hc
    have : r = .nrm fr h := hr.symm
    subst this
    exact wp_label ⟨rfl, φ, hf, Stp.refl hrel, rfl, rfl⟩
  | ret =>
    intro ac hc fr h r hr hne ρ φ a w he hf hrel hN
    cases hc
    have : r = .ret fr h := hr.symm
    subst this
    exact wp_ret ⟨rfl, φ, hf, Stp.refl hrel, rfl, rfl⟩
  | exit id =>
    intro ac hc fr h r hr hne ρ φ a w he hf hrel hN
    cases hc
    have : r = .ex id fr h := hr.symm
    subst this
    exact wp_exit ⟨rfl, φ, hf, Stp.refl hrel, rfl, rfl⟩
  | region id ops draw =>
    intro ac hc fr h r hr hne ρ φ a w he hf hrel hN
    have hc' : cRegion P N ops draw = some ac := hc
    cases draw with
    | false =>
      unfold cRegion at hc'
      cases hl : mapO (cOper P N ops) ops.toList with
      | none => rw [hl] at hc'; cases hc'
      | some l =>
        rw [hl] at hc'
        cases hc'
        obtain ⟨fr', h', h1, rfl⟩ := rc_nrm (show rc (aregion P E (callBy T (aev P E T n)) l fr h) = r from hr) hne
        refine wp_region ?_
        rw [List.range_eq_range']
        exact region_wp hcall hl he ops.size 0 (by omega) φ fr a h w fr' h' hf hrel hN h1 fun a' w' hfin => ⟨rfl, hfin⟩
    | true =>
      have hdr : ∃ l, ac = .dreg l := by
        unfold cRegion at hc'
        cases hl : mapO (cOper P N ops) ops.toList with
        | none => rw [hl] at hc'; cases hc'
        | some l =>
          rw [hl] at hc'
          simp only [Bool.not_true, Bool.false_eq_true, if_false] at hc'
          split at hc'
          · cases hc'; exact ⟨_, rfl⟩
          · cases hc'
      obtain ⟨l, rfl⟩ := hdr
      obtain ⟨fr', h', h1, rfl⟩ := rc_nrm (show rc (draws P E (callBy T (aev P E T n)) l fr h) = r from hr) hne
      exact wp_region_draw (hD N ops l hc' _ hcall ρ φ fr a h w fr' h' he hf hrel hN h1 _ fun a' w' hfin => ⟨rfl, hfin⟩)
  | seq x y _ _ =>
    intro ac hc fr h r hr hne ρ φ a w he hf hrel hN
    simp only [cCode] at hc
    split at hc
    · rename_i ax ay hx hy
      cases hc
      have hr' : RC.casesOn (motive := fun _ => RC) (aev P E T n ax fr h) RC.no (aev P E T n ay) RC.ex RC.ret = r := hr
      refine wp_seq ?_
      cases h1 : aev P E T n ax fr h with
      | no => rw [h1] at hr'; exact absurd hr'.symm hne
      | nrm fr1 h1' =>
        rw [h1] at hr'
        refine wp_mono (ihn N x ax hx fr h _ h1 (by simp) ρ φ a w he hf hrel hN) ?_
        rintro e a1 w1 ⟨rfl, φ1, q1, q2, q3, q4⟩
        show y.wp P _ a1 w1
        refine wp_mono (ihn N y ay hy fr1 h1' r hr' hne ρ φ1 a1 w1 he q1 q2.rel (by omega)) ?_
        intro e a2 w2 hp
        exact hp.trans q2 q3 q4
      | ex id fr1 h1' =>
        rw [h1] at hr'
        have : r = .ex id fr1 h1' := hr'.symm
        subst this
        refine wp_mono (ihn N x ax hx fr h _ h1 (by simp) ρ φ a w he hf hrel hN) ?_
        rintro e a1 w1 ⟨rfl, hfin⟩
        exact ⟨rfl, hfin⟩
      | ret fr1 h1' =>
        rw [h1] at hr'
        have : r = .ret fr1 h1' := hr'.symm
        subst this
        refine wp_mono (ihn N x ax hx fr h _ h1 (by simp) ρ φ a w he hf hrel hN) ?_
        rintro e a1 w1 ⟨rfl, hfin⟩
        exact ⟨rfl, hfin⟩
    · cases hc
  | cond o x y _ _ =>
    intro ac hc fr h r hr hne ρ φ a w he hf hrel hN
    simp only [cCode] at hc
    split at hc
    · rename_i ao ax ay ho hx hy
      cases hc
      have hr' : cCond (aev P E T n) ao ax ay fr h = r := hr
      unfold cCond at hr'
      cases h1 : ev ao fr with
      | none => rw [h1] at hr'; exact absurd hr'.symm hne
      | some v =>
        rw [h1] at hr'
        cases v with
        | a l => exact absurd hr'.symm hne
        | t l => exact absurd hr'.symm hne
        | c c1 =>
          have hv : VC ρ φ c1 (a.eval o) := cX_ok ho hf h1
          cases c1 <;> first | exact absurd hr'.symm hne | skip
          rename_i b
          refine wp_cond (t := b) hv ?_
          cases b with
          | true => exact ihn N x ax hx fr h r hr' hne ρ φ a w he hf hrel hN
          | false => exact ihn N y ay hy fr h r hr' hne ρ φ a w he hf hrel hN
    · cases hc
  | block id b _ =>
    intro ac hc fr h r hr hne ρ φ a w he hf hrel hN
    obtain ⟨ab, hb, rfl⟩ := map_some (show (cCode P N b).map (ACd.block id) = some ac from hc)
    have hr' : RC.casesOn (motive := fun _ => RC) (aev P E T n ab fr h) RC.no RC.nrm (exitB id) RC.ret = r := hr
    refine wp_block ?_
    cases h1 : aev P E T n ab fr h with
    | no => rw [h1] at hr'; exact absurd hr'.symm hne
    | nrm fr1 h1' =>
      rw [h1] at hr'
      have : r = .nrm fr1 h1' := hr'.symm
      subst this
      refine wp_mono (ihn N b ab hb fr h _ h1 (by simp) ρ φ a w he hf hrel hN) ?_
      rintro e a1 w1 ⟨rfl, hfin⟩
      exact ⟨rfl, hfin⟩
    | ret fr1 h1' =>
      rw [h1] at hr'
      have : r = .ret fr1 h1' := hr'.symm
      subst this
      refine wp_mono (ihn N b ab hb fr h _ h1 (by simp) ρ φ a w he hf hrel hN) ?_
      rintro e a1 w1 ⟨rfl, hfin⟩
      exact ⟨rfl, hfin⟩
    | ex i fr1 h1' =>
      rw [h1] at hr'
      have hr2 : exitB id i fr1 h1' = r := hr'
      refine wp_mono (ihn N b ab hb fr h _ h1 (by simp) ρ φ a w he hf hrel hN) ?_
      rintro e a1 w1 ⟨rfl, hfin⟩
      unfold exitB at hr2
      cases hbi : Nat.beq i id with
      | true =>
        rw [hbi] at hr2
        have hi : i = id := Nat.eq_of_beq_eq_true hbi
        have : r = .nrm fr1 h1' := hr2.symm
        subst this
        simp only [Exit.inBlock, hi, if_true]
        exact ⟨rfl, hfin⟩
      | false =>
        rw [hbi] at hr2
        have hi : i ≠ id := by rintro rfl; rw [Nat.beq_refl] at hbi; cases hbi
        have : r = .ex i fr1 h1' := hr2.symm
        subst this
        simp only [Exit.inBlock, hi, if_false]
        exact ⟨rfl, hfin⟩
  | loop b _ =>
    intro ac hc fr h r hr hne ρ φ a w he hf hrel hN
    obtain ⟨ab, hb, rfl⟩ := map_some (show (cCode P N b).map ACd.loop = some ac from hc)
    have rounds : ∀ m, m ≤ n + 1 → ∀ (fr1 : Fr) (h1 : Hp), aev P E T m (.loop ab) fr1 h1 = r → ∀ (φ1 : Emb) (a1 : Act) (w1 : World), FR ρ φ1 fr1 a1.tmps → Stp ρ φ h w φ1 h1 w1 → a1.defers = a.defers → a1.tmps.size = a.tmps.size → Code.rounds P b (CPost ρ φ h w a r) m a1 w1 := by
      intro m
      induction m with
      | zero => intro _ fr1 h1 e; exact absurd e.symm hne
      | succ m ihm =>
        intro hm fr1 h1 e φ1 a1 w1 q1 q2 q3 q4
        have e' : RC.casesOn (motive := fun _ => RC) (aev P E T m ab fr1 h1) RC.no (aev P E T m (.loop ab)) RC.ex RC.ret = r := e
        rw [rounds_succ]
        have ihb := ih m (by omega) N b ab hb fr1 h1
        cases h2 : aev P E T m ab fr1 h1 with
        | no => rw [h2] at e'; exact absurd e'.symm hne
        | nrm fr2 h2' =>
          rw [h2] at e'
          refine wp_mono (ihb _ h2 (by simp) ρ φ1 a1 w1 he q1 q2.rel (by omega)) ?_
          rintro e a2 w2 ⟨rfl, φ2, p1, p2, p3, p4⟩
          exact ihm (by omega) fr2 h2' e' φ2 a2 w2 p1 (q2.trans p2) (p3.trans q3) (p4.trans q4)
        | ex id fr2 h2' =>
          rw [h2] at e'
          have : r = .ex id fr2 h2' := e'.symm
          subst this
          refine wp_mono (ihb _ h2 (by simp) ρ φ1 a1 w1 he q1 q2.rel (by omega)) ?_
          rintro e a2 w2 ⟨rfl, hfin⟩
          exact ⟨rfl, Fin.trans q2 q3 q4 hfin⟩
        | ret fr2 h2' =>
          rw [h2] at e'
          have : r = .ret fr2 h2' := e'.symm
          subst this
          refine wp_mono (ihb _ h2 (by simp) ρ φ1 a1 w1 he q1 q2.rel (by omega)) ?_
          rintro e a2 w2 ⟨rfl, hfin⟩
          exact ⟨rfl, Fin.trans q2 q3 q4 hfin⟩
    exact wp_loop_rounds (n + 1) (rounds (n + 1) (Nat.le_refl _) fr h hr φ a w hf (Stp.refl hrel) rfl rfl)
  | scope b ihb =>
    intro ac hc fr h r hr hne ρ φ a w he hf hrel hN
    refine wp_scope_straight (wp_mono (ihb ac hc fr h r hr hne ρ φ a w he hf hrel hN) ?_)
    intro e a1 w1 hp
    cases r with
    | no => exact hp.elim
    | nrm fr h => obtain ⟨rfl, hfin⟩ := hp; exact ⟨rfl, hfin⟩
    | ex id fr h => obtain ⟨rfl, hfin⟩ := hp; exact ⟨rfl, hfin⟩
    | ret fr h => obtain ⟨rfl, hfin⟩ := hp; exact ⟨rfl, hfin⟩
  | rangeFunc f ps x y _ _ => intro ac hc; cases hc
  | goto l => intro ac hc; cases hc
  | refuse s => intro ac hc; cases hc
end
end Go.Proofs.YtmbbciidknchiaaGreat
