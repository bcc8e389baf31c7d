/-
  A verified evaluator: a call whose law is shown over its pieces, and which gives back memory of its own; cells that mean the same. No function of the program is named here.
-/
import Derived.Test.YtnofmmceafkkoaaGreatRcN
set_option linter.unusedVariables false
set_option linter.unusedSimpArgs false
namespace Go.Proofs.YtnofmmceafkkoaaGreat
open Go.RowKit
theorem law_mem {P : Program} {f : FuncId} {fn : Func} {ac : ACd} {res : List AR} (hf : P.funcs[f]? = some fn) (hc : cFn P fn = some (.code ac res)) {args : List AV} {us : List Value} {s0 : Lit} (hs : ∃ fr, frameOf args places Fr.nil = some fr ∧ s0.frame = fr) (h0 : s0.hp = hp0)
    {ρ : Vn} (hargs : All2 (VV ρ (Emb.nil ρ.z)) args us) (w : World) (hz : ∀ b x, ρ.z b = some x → w.heap[b]? = some x) {Fin : Vn → AV → Hp → Prop}
    (ht : Tri P fn.ntmps ac (At w fn.ntmps ρ s0) fun e a w' => e = .ret ∧ ∃ ρ' s' v, retOf res s'.frame s'.hp = .ok v s'.hp ∧ Fin ρ' v s'.hp ∧ At w fn.ntmps ρ' s' a w') :
    Calls P f us.toArray w fun e w' => ∃ u ρ' φ' v h', e = .returned u ∧ Fin ρ' v h' ∧ VV ρ' φ' v u ∧ Rel ρ' φ' h' w' ∧ Out w φ' h' w' := by
  unfold cFn at hc
  cases hb : fn.body with
  | none => rw [hb] at hc; cases hc
  | some c =>
  rw [hb] at hc
  dsimp only at hc
  split at hc
  · rename_i b' r' h1 h2
    cases hc
    obtain ⟨fr, hfr, hsf⟩ := hs
    refine calls_of_wp hf hb ?_
    have hframe : FR ρ (Emb.nil ρ.z) fr (us.toArray ++ Array.replicate (fn.ntmps - us.toArray.size) undef) := by
      refine frame_ok (k := 0) hargs (fun i p hp => by rw [Nat.zero_add]; exact places_tn i p hp) (fun i u hiu => ?_) (fun i j x hx => by rw [getF_nil] at hx; cases hx) hfr
      have hlt := (List.getElem?_eq_some_iff.1 hiu).1
      rw [Nat.zero_add, Array.getElem?_append_left (by simpa using hlt)]
      simpa using hiu
    have hsz : fn.ntmps ≤ (us.toArray ++ Array.replicate (fn.ntmps - us.toArray.size) undef).size := by simp; omega
    refine wp_mono (ht c h1 { tmps := us.toArray ++ Array.replicate (fn.ntmps - us.toArray.size) undef, defers := [] } w ⟨Emb.nil ρ.z, by rw [hsf]; exact hframe, by rw [h0]; exact rel0 ρ w hz, ?_, rfl, hsz⟩) ?_
    · rw [h0]
      exact ⟨fun _ _ => rfl, Nat.le_refl _, rfl, rfl, rfl, fun id x hi => by rw [hp0_get] at hi; cases hi⟩
    · rintro e a' w' ⟨_, rfl, ρ', s', v, hret, hfin, φ', q1, q2, q3, q4, q5⟩
      obtain ⟨_, u, q6, q7⟩ := results_ok q1 q2 h2 hret
      exact ⟨q4, u, q6, u, ρ', φ', v, s'.hp, rfl, hfin, q7, q2, q3⟩
  · cases hc
section
variable {P : Program} {E E2 : Env} {N : Nat}
theorem Tri.regcallM {call call2 : CallF} (hC : CallOk P E call) (hC2 : CallOk P E2 call2) {l1 l2 : List AOp} {dst : Option (D16 × D16)} {f : Bid} {axs : List AX} {ρ ρ1 : Vn} (he : EnvOk E ρ) {s s1 : Lit} {m1 : List (Bid × Bid)} {nm1 : Nms} (h1 : endsR m1 nm1 s1 (aregion P E call l1 s.frame s.hp) = true) (hr1 : Ren ρ ρ1 nm1)
    {vs : List AV} (hv : evs s1.frame axs = some vs) {w0 : World} {Post : Exit → Act → World → Prop}
    (hcall : ∀ φ tmps w us, FR ρ1 φ s1.frame tmps → Rel ρ1 φ s1.hp w → Out w0 φ s1.hp w → All2 (VV ρ1 φ) vs us → Calls P f.num us.toArray w fun e w' => ∃ u, e = .returned u ∧ ∃ (ρ2 : Vn) (φ2 : Emb) (v : AV) (hp2 : Hp), EnvOk E2 ρ2 ∧ FR ρ2 φ2 s1.frame tmps ∧ VV ρ2 φ2 v u ∧ Rel ρ2 φ2 hp2 w' ∧ Out w0 φ2 hp2 w' ∧
      ∃ s2 m2 nm2 ρ3, endsR m2 nm2 s2 (aregion P E2 call2 l2 (setDst dst v s1.frame) hp2) = true ∧ Ren ρ2 ρ3 nm2 ∧ ∀ a w, At w0 N ρ3 s2 a w → Post .normal a w) :
    Tri P N (.reg (l1 ++ ⟨dst, .call f axs, none⟩ :: l2)) (At w0 N ρ s) Post := by
  intro c hc
  refine strip (K := fun c => ∀ a w, At w0 N ρ s a w → c.wp P (fun e a w => Clean e ∧ Post e a w) a w) (fun b hb a w hp => tri_scope (hb a w hp)) ?_ c hc
  intro c hc hne a w hat
  cases c with
  | region id ops draw =>
    have hc' : cRegion P N ops draw = some (.reg (l1 ++ ⟨dst, .call f axs, none⟩ :: l2)) := hc
    unfold cRegion at hc'
    cases hl : mapO (cOper P N ops) ops.toList with
    | none => rw [hl] at hc'; cases hc'
    | some l =>
      rw [hl] at hc'
      cases draw with
      | true =>
        simp only [Bool.not_true, Bool.false_eq_true, if_false] at hc'
        split at hc' <;> cases hc'
      | false =>
        cases hc'
        have hlen := (mapO_get hl).1
        have hk : l1.length < ops.size := by
          have : ops.size = (l1 ++ (⟨dst, .call f axs, none⟩ : AOp) :: l2).length := by rw [← hlen]; simp
          rw [this]; simp
        refine wp_region ?_
        have hrange : List.range ops.size = List.range' 0 l1.length ++ (l1.length :: List.range' (l1.length + 1) (ops.size - l1.length - 1)) := by
          rw [List.range_eq_range', ← List.range'_succ, show ops.size - l1.length - 1 + 1 = ops.size - l1.length by omega]
          have := List.range'_append_1 (s := 0) (m := l1.length) (n := ops.size - l1.length)
          rw [Nat.zero_add] at this
          rw [this]; congr 1; omega
        rw [hrange]
        obtain ⟨fr1, hp1, k1, k2⟩ := endsR_ok h1
        obtain ⟨φ, q1, q2, q3, q4, q5⟩ := hat
        refine region_part hC hl he l1.length 0 (by omega) φ _ a _ w fr1 hp1 q1 q2 q5 (by rw [List.drop_zero, List.take_left']; exact k1; rfl) ?_
        rintro a1 w1 ⟨φ1, p1, p2, p3, p4⟩
        have hat1 : At w0 N ρ1 s1 a1 w1 := At.fits k2 hr1 p1 p2.rel (q3.step p2) (p3.trans q4) (by omega)
        obtain ⟨φ2, g1, g2, g3, g4, g5⟩ := hat1
        obtain ⟨o, ho⟩ : ∃ o, ops[l1.length]? = some o := ⟨_, Array.getElem?_eq_getElem hk⟩
        obtain ⟨ao, h2, h3⟩ := (mapO_get hl).2 l1.length o (by simpa using ho)
        have hao : ao = ⟨dst, .call f axs, none⟩ := by
          rw [List.getElem?_append_right (Nat.le_refl _)] at h2
          simpa using h2.symm
        subst hao
        refine call_wp ho h3 g1 hv ?_
        intro us hus
        refine (hcall φ2 a1.tmps w1 us g1 g2 g3 hus).mono ?_
        rintro e w2 ⟨u, rfl, ρ2, φ3, v, hp2', he2, r1, hvu, r2, r3, s2, m2, nm2, ρ3, h5, hr2, hpost⟩
        refine ⟨u, rfl, ?_⟩
        obtain ⟨fr2, hp2, k3, k4⟩ := endsR_ok h5
        have hfr := put_fr r1 hvu (cOper_ok h3).1 g5
        have happ : List.range' (l1.length + 1) (ops.size - l1.length - 1) = List.range' (l1.length + 1) (ops.size - l1.length - 1) ++ [] := by simp
        rw [happ]
        refine region_part hC2 hl he2 (ops.size - l1.length - 1) (l1.length + 1) (by omega) φ3 _ _ _ w2 fr2 hp2 hfr r2 (by rw [put_size]; exact g5) ?_ ?_
        · have hdrop : ((l1 ++ (⟨dst, .call f axs, none⟩ : AOp) :: l2).drop (l1.length + 1)) = l2 := by
            rw [List.drop_append]; simp
          rw [hdrop, List.take_of_length_le]
          · exact k3
          · have : ops.size = (l1 ++ (⟨dst, .call f axs, none⟩ : AOp) :: l2).length := by rw [← hlen]; simp
            simp at this; omega
        · rintro a3 w3 ⟨φ4, t1, t2, t3, t4⟩
          show Clean .normal ∧ _
          refine ⟨trivial, hpost a3 w3 (At.fits k4 hr2 t1 t2.rel (r3.step t2) (t3.trans (by rw [put_defers]; exact g4)) ?_)⟩
          rw [t4, put_size]; exact g5
  | scope b => exact absurd rfl (hne b)
  | seq x y =>
    simp only [cCode] at hc
    split at hc <;> cases hc
  | cond o x y =>
    simp only [cCode] at hc
    split at hc <;> cases hc
  | block id b => obtain ⟨_, _, h⟩ := map_some (show (cCode P N b).map (ACd.block id) = some _ from hc); cases h
  | loop b => obtain ⟨_, _, h⟩ := map_some (show (cCode P N b).map ACd.loop = some _ from hc); cases h
  | skip => cases hc
  | label l => cases hc
  | exit id => cases hc
  | ret => cases hc
  | _ => cases hc
end
end Go.Proofs.YtnofmmceafkkoaaGreat
