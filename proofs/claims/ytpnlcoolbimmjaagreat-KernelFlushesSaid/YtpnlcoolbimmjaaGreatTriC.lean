/-
  A verified evaluator: a region that keeps its order, with a call by contract in its midst; frozen memory under another hand. No function of the program is named here.
-/
import Derived.Test.YtpnlcoolbimmjaaGreatTri
set_option linter.unusedVariables false
namespace Go.Proofs.YtpnlcoolbimmjaaGreat
open Go.RowKit
section
variable {P : Program} {E : Env} {ρ : Vn} {N : Nat}
/-- a part of a region -/
theorem region_part {call : CallF} (hC : CallOk P E call) {ops : Array Oper} {l : List AOp} (hl : mapO (cOper P N ops) ops.toList = some l) {Q : Exit → Act → World → Prop} (he : EnvOk E ρ) {rest : List Nat} :
    ∀ (m k : Nat), k + m ≤ ops.size → ∀ (φ : Emb) (fr : Fr) (a : Act) (h : Hp) (w : World) (fr' : Fr) (h' : Hp), FR ρ φ fr a.tmps → Rel ρ φ h w → N ≤ a.tmps.size → aregion P E call ((l.drop k).take m) fr h = .ok fr' h' → (∀ a' w', Fin ρ φ h w a fr' h' a' w' → wpOps P ops Q rest a' w') → wpOps P ops Q (List.range' k m ++ rest) a w
  | 0, k, hk, φ, fr, a, h, w, fr', h', hf, hr, hN, e, hq => by
    cases e
    exact hq a w ⟨φ, hf, Stp.refl hr, rfl, rfl⟩
  | m + 1, k, hk, φ, fr, a, h, w, fr', h', hf, hr, hN, e, hq => by
    have hlt : k < ops.size := by omega
    obtain ⟨ao, h1, h2⟩ := (mapO_get hl).2 k ops[k] (by simp [hlt])
    have hd : (l.drop k).take (m + 1) = ao :: (l.drop (k + 1)).take m := by
      rw [List.drop_eq_getElem_cons (List.getElem?_eq_some_iff.1 h1).1, List.take_succ_cons]
      congr 1
      exact (List.getElem?_eq_some_iff.1 h1).2
    rw [hd] at e
    have e' : rof (wantedA fr ao.guard) (fun b => Bool.casesOn (motive := fun _ => RF) b (aregion P E call ((l.drop (k + 1)).take m) (setDst ao.dst (.t []) fr) h) (rf (aop P E call ao.op fr h) fun v h => aregion P E call ((l.drop (k + 1)).take m) (setDst ao.dst v fr) h)) = .ok fr' h' := e
    rw [List.range'_succ, List.cons_append]
    cases hw : wantedA fr ao.guard with
    | none => rw [hw] at e'; cases e'
    | some b =>
      rw [hw] at e'
      cases b with
      | false =>
        refine oper_wp (v := .t []) (h' := h) hC (by simp [hlt]) h2 ⟨hf, hr, he⟩ hN hw (fun h => by cases h) (fun _ => ⟨rfl, rfl⟩) ?_
        intro a' w' φ' hf' hs hdf hsz _
        exact region_part hC hl he m (k + 1) (by omega) φ' _ a' h w' fr' h' hf' hs.rel (by omega) e' fun a'' w'' hfin => hq a'' w'' (Fin.trans hs hdf hsz hfin)
      | true =>
        cases hop : aop P E call ao.op fr h with
        | no =>
          have e2 : rf (aop P E call ao.op fr h) (fun v h => aregion P E call ((l.drop (k + 1)).take m) (setDst ao.dst v fr) h) = .ok fr' h' := e'
          rw [hop] at e2; cases e2
        | ok v h1' =>
          have e2 : rf (aop P E call ao.op fr h) (fun v h => aregion P E call ((l.drop (k + 1)).take m) (setDst ao.dst v fr) h) = .ok fr' h' := e'
          rw [hop] at e2
          refine oper_wp hC (by simp [hlt]) h2 ⟨hf, hr, he⟩ hN hw (fun _ => hop) (fun h => by cases h) ?_
          intro a' w' φ' hf' hs hdf hsz _
          exact region_part hC hl he m (k + 1) (by omega) φ' _ a' h1' w' fr' h' hf' hs.rel (by omega) e2 fun a'' w'' hfin => hq a'' w'' (Fin.trans hs hdf hsz hfin)
/-- what a compiled call was -/
theorem call_of {op : Op} {f : Bid} {axs : List AX} (hc : cOp P op = some (.call f axs)) : ∃ c fn, op = .call c ∧ c.callee = .value (.func f.num) ∧ cXs c.args.toList = some axs ∧ P.funcs[f.num]? = some fn ∧ fn.body.isSome ∧ fn.name ≠ "runtime.NumGoroutine" := by
  cases op with
  | call c =>
    simp only [cOp] at hc
    split at hc
    · rename_i g _ args _ hcal
      split at hc
      · rename_i fn hfn
        split at hc
        · rename_i hb
          split at hc
          · rename_i f' axs' hf hx
            cases hc
            exact ⟨c, fn, rfl, by rw [hcal, Bid.of_num hf], hx, by rw [Bid.of_num hf]; exact hfn, hb.1, hb.2⟩
          · cases hc
        · obtain ⟨_, _, _, _, _, _, _, h⟩ := cOv_ok hc
          cases h
      · cases hc
    all_goals
      exfalso
      revert hc
      (try unfold cAp)
      (repeat' split) <;> intro hc <;> first | (cases hc; done) | (obtain ⟨_, _, h⟩ := map_some hc; cases h; done)
  | unOp uo t x =>
    exfalso
    cases uo <;> first | (cases hc; done) | (obtain ⟨_, _, h⟩ := map_some (show (cX x).map AO.not = some _ from hc); cases h; done)
  | _ =>
    exfalso
    revert hc
    simp only [cOp]
    (try unfold cEqa)
    (try unfold cMu)
    (repeat' split) <;> intro hc <;> first | (cases hc; done) | (obtain ⟨_, _, h⟩ := map_some hc; cases h; done) | contradiction
/-- a call by contract -/
theorem call_wp {ops : Array Oper} {i : Nat} {o : Oper} {dst : Option (D16 × D16)} {f : Bid} {axs : List AX} (hi : ops[i]? = some o) (hc : cOper P N ops o = some ⟨dst, .call f axs, none⟩) {φ : Emb} {fr : Fr} {a : Act} {w : World} (hf : FR ρ φ fr a.tmps) {vs : List AV} (hv : evs fr axs = some vs)
    {Q : Exit → Act → World → Prop} {rest : List Nat} (hcall : ∀ us, All2 (VV ρ φ) vs us → Calls P f.num us.toArray w fun e w' => ∃ u, e = .returned u ∧ wpOps P ops Q rest (a.put o.dst u) w') : wpOps P ops Q (i :: rest) a w := by
  rw [wpOps_cons]
  obtain ⟨hd, hop, hg⟩ := cOper_ok hc
  have hgn : o.guard = none := by
    rcases hg with h | ⟨j, want, g, t, p, _, _, _, _, h5⟩
    · exact h.1
    · cases h5
  have hco : cOp P o.op = some (.call f axs) := by
    cases h : cOp P o.op with
    | none => rw [h] at hop; cases hop
    | some x => rw [h] at hop; exact congrArg some hop.symm
  obtain ⟨c, fn, h1, h2, h3, h4, h5, h6⟩ := call_of hco
  have hwd : Region.wanted o (yielded ops a.tmps) = true := by simp [Region.wanted, hgn]
  simp only [wpOp, hi, hwd, if_true]
  refine .inl ?_
  obtain ⟨cb, hcb⟩ := Option.isSome_iff_exists.1 h5
  have hus := cXs_ok hf h3 hv
  unfold Oper.wp
  have hent : ∀ args, (callFunc f.num args).run P w = .ok (.enter f.num args) w := fun args => enter_run h4 (by simpa using h6) hcb args w
  rw [execOp_eq, h1, opR_call h2 (show a.eval (.func f.num) = .func (.func f.num) #[] #[] from rfl), hent]
  have harr : (#[] ++ c.args.map a.eval ++ #[] : Array Value) = (c.args.toList.map a.eval).toArray := by
    apply Array.ext'; simp
  rw [harr]
  show Calls P f.num (c.args.toList.map a.eval).toArray w _
  refine (hcall _ hus).mono ?_
  rintro en w' ⟨u, rfl, hk⟩
  exact hk
end
/-- no frozen slices here -/
def noD : AC → Bool
  | .ds .. => false
  | .pd .. => false
  | _ => true
def noDV : AV → Bool
  | .c x => noD x
  | .a l => l.all noD
  | .t _ => false
def Lit.noD (s : Lit) : Bool := (s.fr.all fun x => noDV x.2.2) && s.mem.all fun x => match x.2 with | .cells c => c.all Go.Proofs.YtpnlcoolbimmjaaGreat.noD | .map l => l.all fun e => noDV e.1 && noDV e.2
section
variable {ρ : Vn} {φ : Emb} {z : Nat → Option Obj}
theorem VC.toZ {x : AC} {v : Value} (h : noD x = true) (hv : VC ρ φ x v) : VC { ρ with z := z } φ x v := by
  cases x <;> first | exact hv | cases h
theorem All2.toZ {l : List AC} {vs : List Value} (h : l.all noD = true) (hv : All2 (VC ρ φ) l vs) : All2 (VC { ρ with z := z } φ) l vs := by
  induction hv with
  | nil => exact .nil
  | cons h1 _ ih =>
    rw [List.all_cons, Bool.and_eq_true] at h
    exact .cons (VC.toZ h.1 h1) (ih h.2)
theorem VV.toZ {x : AV} {v : Value} (h : noDV x = true) (hv : VV ρ φ x v) : VV { ρ with z := z } φ x v := by
  cases x with
  | c x => exact VC.toZ h hv
  | a l => obtain ⟨vs, h1, h2⟩ := hv; exact ⟨vs, h1, All2.toZ h h2⟩
  | t l => cases h
end
/-- frozen memory under another hand: old memory is written by others, in blocks that are none of ours -/
theorem At.toZ {w0 w w' : World} {N : Nat} {ρ : Vn} {s : Lit} {a : Act} {z : Nat → Option Obj} (h : At w0 N ρ s a w) (hd : s.noD = true) (hos : w'.os = w.os) (htape : w'.tape = w.tape) (hout : w'.output = w.output) (hsize : w.heap.size ≤ w'.heap.size)
    (hkeep : ∀ b, b < w.heap.size → ρ.z b = none → w'.heap[b]? = w.heap[b]?) (hold : ∀ b x, ρ.z b = some x → w0.heap.size ≤ b ∨ w'.heap[b]? = w.heap[b]?) (hz : ∀ b x, z b = some x → w'.heap[b]? = some x ∧ ((ρ.z b).isSome ∨ w.heap.size ≤ b ∨ b < w0.heap.size)) : At w0 N { ρ with z := z } s a w' := by
  obtain ⟨φ, h1, h2, h3, h4, h5⟩ := h
  unfold Lit.noD at hd
  rw [Bool.and_eq_true, List.all_eq_true, List.all_eq_true] at hd
  have live : ∀ {id : Bid} {x : Nat × Nat × Nat}, (s.hp.get id).isSome → φ id = some x → ρ.z x.1 = none := fun {id x} hi hx => by
    cases hq : ρ.z x.1 with
    | none => rfl
    | some y => exact absurd rfl ((h2.frz x.1 y hq).2 id x hi hx)
  refine ⟨φ, fun i j v hv => ?_, ⟨⟨?_, ?_, h2.inj, h2.low, h2.free⟩, ?_⟩, ⟨?_, Nat.le_trans h3.size hsize, hos.trans h3.os, htape.trans h3.tape, hout.trans h3.output, h3.live⟩, h4, h5⟩
  · have := hd.1 _ (frame_get hv)
    exact ⟨(h1 i j v hv).1, VV.toZ this (h1 i j v hv).2⟩
  · intro id c hc
    obtain ⟨b, base, arr, T, k1, k2, k3, k4⟩ := h2.cells id c hc
    have hlt := h2.block (id := id) (by rw [hc]; rfl) k1
    have hn := live (id := id) (by rw [hc]; rfl) k1
    have hm := hd.2 _ (memOf_get (show get3 (memOf s.mem) id = some (.cells c) from hc))
    refine ⟨b, base, arr, T, k1, (hkeep b hlt hn).trans k2, k3, fun o x hx => ?_⟩
    obtain ⟨v, k5, k6⟩ := k4 o x hx
    have hm' : c.all Go.Proofs.YtpnlcoolbimmjaaGreat.noD = true := hm
    rw [List.all_eq_true] at hm'
    exact ⟨v, k5, VC.toZ (hm' x (List.mem_of_getElem? hx)) k6⟩
  · intro id l hc
    obtain ⟨b, es, cl, k1, k2, k3⟩ := h2.maps id l hc
    have hlt := h2.block (id := id) (by rw [hc]; rfl) k1
    have hn := live (id := id) (by rw [hc]; rfl) k1
    have hm : (l.all fun e => noDV e.1 && noDV e.2) = true := hd.2 _ (memOf_get (show get3 (memOf s.mem) id = some (.map l) from hc))
    refine ⟨b, es, cl, k1, (hkeep b hlt hn).trans k2, ?_⟩
    have go : ∀ {l : List (AV × AV)} {es : List MapEntry}, (l.all fun e => noDV e.1 && noDV e.2) = true → All2 (fun (e : AV × AV) (x : MapEntry) => VV ρ φ e.1 x.key ∧ VV ρ φ e.2 x.val) l es → All2 (fun (e : AV × AV) (x : MapEntry) => VV { ρ with z := z } φ e.1 x.key ∧ VV { ρ with z := z } φ e.2 x.val) l es := by
      intro l es hm h
      induction h with
      | nil => exact .nil
      | cons h1 _ ih =>
        rw [List.all_cons, Bool.and_eq_true, Bool.and_eq_true] at hm
        exact .cons ⟨VV.toZ hm.1.1 h1.1, VV.toZ hm.1.2 h1.2⟩ (ih hm.2)
    exact go hm k3
  · intro b x hb
    obtain ⟨k1, k2⟩ := hz b x hb
    refine ⟨k1, fun id y hi hy he => ?_⟩
    rcases k2 with k2 | k2 | k2
    · obtain ⟨o, ho⟩ := Option.isSome_iff_exists.1 k2
      exact (h2.frz b o ho).2 id y hi hy he
    · have := h2.block hi hy
      omega
    · have := h3.live id y hi hy
      omega
  · intro b hb
    cases hq : ρ.z b with
    | none => exact (hkeep b (Nat.lt_of_lt_of_le hb h3.size) hq).trans (h3.old b hb)
    | some y =>
      rcases hold b y hq with h | h
      · omega
      · exact h.trans (h3.old b hb)
/-- the written state with one temporary more -/
def Lit.put (s : Lit) (d : Option (D16 × D16)) (v : AV) : Lit := match d with
  | none => s
  | some p => { s with fr := (p.1, p.2, v) :: s.fr }
theorem Lit.frame_put (s : Lit) (d : Option (D16 × D16)) (v : AV) : (s.put d v).frame = setDst d v s.frame := by
  cases d <;> rfl
theorem Lit.hp_put (s : Lit) (d : Option (D16 × D16)) (v : AV) : (s.put d v).hp = s.hp := by
  cases d <;> rfl
noncomputable def endsR (m : List (Bid × Bid)) (nm : Nms) (s : Lit) (r : RF) : Bool := match r with
  | .ok fr h => fitsL m nm s fr h
  | .no => false
theorem endsR_ok {m : List (Bid × Bid)} {nm : Nms} {s : Lit} {r : RF} (h : endsR m nm s r = true) : ∃ fr hp, r = .ok fr hp ∧ fitsL m nm s fr hp = true := by
  cases r with
  | no => cases h
  | ok fr hp => exact ⟨fr, hp, rfl, h⟩
section
variable {P : Program} {E E2 : Env} {N : Nat}
theorem At.fits {w0 w : World} {a : Act} {ρ ρ' : Vn} {φ : Emb} {s : Lit} {m : List (Bid × Bid)} {nm : Nms} {fr : Fr} {hp : Hp} (hfit : fitsL m nm s fr hp = true) (hr : Ren ρ ρ' nm) (f : FR ρ φ fr a.tmps) (r : Rel ρ φ hp w) (o : Out w0 φ hp w) (hd : a.defers = []) (hN : N ≤ a.tmps.size) : At w0 N ρ' s a w := by
  obtain ⟨r1, r2, r3⟩ := fits_ok hfit hr r f
  refine ⟨renE m φ, r2, r1, ⟨o.old, o.size, o.os, o.tape, o.output, fun id x hi hx => ?_⟩, hd, hN⟩
  obtain ⟨id0, k1, k2⟩ := r3 id x hi hx
  exact o.live id0 x k1 k2
/-- names anew -/
theorem At.ren {w0 w : World} {a : Act} {ρ ρ' : Vn} {s s' : Lit} {m : List (Bid × Bid)} {nm : Nms} (h : At w0 N ρ s a w) (hfit : fitsL m nm s' s.frame s.hp = true) (hr : Ren ρ ρ' nm) : At w0 N ρ' s' a w := by
  obtain ⟨φ, h1, h2, h3, h4, h5⟩ := h
  exact At.fits hfit hr h1 h2 h3 h4 h5
/-- A region that keeps its order, with a call by contract in its midst: up to the call, from s to s1; behind it, from s1 with the call's value to s2. -/
theorem Tri.regcall {call : CallF} (hC : CallOk P E call) {l1 l2 : List AOp} {dst : Option (D16 × D16)} {f : Bid} {axs : List AX} {ρ ρ1 : Vn} (he : EnvOk E ρ) {s s1 : Lit} {m1 : List (Bid × Bid)} {nm1 : Nms} (h1 : endsR m1 nm1 s1 (aregion P E call l1 s.frame s.hp) = true) (hr1 : Ren ρ ρ1 nm1)
    {vs : List AV} (hv : evs s1.frame axs = some vs) {w0 : World} {Post : Exit → Act → World → Prop}
    (hcall : ∀ φ a w us, At w0 N ρ1 s1 a w → Rel ρ1 φ s1.hp w → All2 (VV ρ1 φ) vs us → Calls P f.num us.toArray w fun e w' => ∃ u, e = .returned u ∧ ∃ (ρ2 : Vn) (v : AV), EnvOk E ρ2 ∧ At w0 N ρ2 s1 a w' ∧ (∀ φ, VV ρ2 φ v u) ∧ ∃ s2 m2 nm2 ρ3, endsR m2 nm2 s2 (aregion P E call l2 (s1.put dst v).frame (s1.put dst v).hp) = true ∧ Ren ρ2 ρ3 nm2 ∧ ∀ a w, At w0 N ρ3 s2 a w → Post .normal a w) :
    Tri P N (.reg (l1 ++ ⟨dst, .call f axs, none⟩ :: l2)) (At w0 N ρ s) Post := by
  intro c hc
  refine strip (K := fun c => ∀ a w, At w0 N ρ s a w → c.wp P (fun e a w => Clean e ∧ Post e a w) a w) (fun b hb a w hp => tri_scope (hb a w hp)) ?_ c hc
  intro c hc hne a w hat
  cases c with
  | region id ops draw =>
    have hc' : cRegion P N ops draw = some (.reg (l1 ++ ⟨dst, .call f axs, none⟩ :: l2)) := hc
    unfold cRegion at hc'
    cases hl : mapO (cOper P N ops) ops.toList with
    | none => rw [hl] at hc'; cases hc'
    | some l =>
      rw [hl] at hc'
      cases draw with
      | true =>
        simp only [Bool.not_true, Bool.false_eq_true, if_false] at hc'
        split at hc' <;> cases hc'
      | false =>
        cases hc'
        have hlen := (mapO_get hl).1
        have hk : l1.length < ops.size := by
          have : ops.size = (l1 ++ (⟨dst, .call f axs, none⟩ : AOp) :: l2).length := by rw [← hlen]; simp
          rw [this]; simp
        refine wp_region ?_
        have hrange : List.range ops.size = List.range' 0 l1.length ++ (l1.length :: List.range' (l1.length + 1) (ops.size - l1.length - 1)) := by
          rw [List.range_eq_range', ← List.range'_succ, show ops.size - l1.length - 1 + 1 = ops.size - l1.length by omega]
          have := List.range'_append_1 (s := 0) (m := l1.length) (n := ops.size - l1.length)
          rw [Nat.zero_add] at this
          rw [this]; congr 1; omega
        rw [hrange]
        obtain ⟨fr1, hp1, k1, k2⟩ := endsR_ok h1
        obtain ⟨φ, q1, q2, q3, q4, q5⟩ := hat
        refine region_part hC hl he l1.length 0 (by omega) φ _ a _ w fr1 hp1 q1 q2 q5 (by rw [List.drop_zero, List.take_left']; exact k1; rfl) ?_
        rintro a1 w1 ⟨φ1, p1, p2, p3, p4⟩
        have hat1 : At w0 N ρ1 s1 a1 w1 := At.fits k2 hr1 p1 p2.rel (q3.step p2) (p3.trans q4) (by omega)
        obtain ⟨φ2, g1, g2, g3, g4, g5⟩ := hat1
        obtain ⟨o, ho⟩ : ∃ o, ops[l1.length]? = some o := ⟨_, Array.getElem?_eq_getElem hk⟩
        obtain ⟨ao, h2, h3⟩ := (mapO_get hl).2 l1.length o (by simpa using ho)
        have hao : ao = ⟨dst, .call f axs, none⟩ := by
          rw [List.getElem?_append_right (Nat.le_refl _)] at h2
          simpa using h2.symm
        subst hao
        refine call_wp ho h3 g1 hv ?_
        intro us hus
        refine (hcall φ2 a1 w1 us ⟨φ2, g1, g2, g3, g4, g5⟩ g2 hus).mono ?_
        rintro e w2 ⟨u, rfl, ρ2, v, he2, hat2, hvu, s2, m2, nm2, ρ3, h5, hr2, hpost⟩
        refine ⟨u, rfl, ?_⟩
        obtain ⟨φ3, r1, r2, r3, r4, r5⟩ := hat2
        obtain ⟨fr2, hp2, k3, k4⟩ := endsR_ok h5
        rw [Lit.frame_put, Lit.hp_put] at k3
        have hfr := put_fr r1 (hvu φ3) (cOper_ok h3).1 r5
        have happ : List.range' (l1.length + 1) (ops.size - l1.length - 1) = List.range' (l1.length + 1) (ops.size - l1.length - 1) ++ [] := by simp
        rw [happ]
        refine region_part hC hl he2 (ops.size - l1.length - 1) (l1.length + 1) (by omega) φ3 _ _ _ w2 fr2 hp2 hfr r2 (by rw [put_size]; exact r5) ?_ ?_
        · have hdrop : ((l1 ++ (⟨dst, .call f axs, none⟩ : AOp) :: l2).drop (l1.length + 1)) = l2 := by
            rw [List.drop_append]; simp
          rw [hdrop, List.take_of_length_le]
          · exact k3
          · have : ops.size = (l1 ++ (⟨dst, .call f axs, none⟩ : AOp) :: l2).length := by rw [← hlen]; simp
            simp at this; omega
        · rintro a3 w3 ⟨φ4, t1, t2, t3, t4⟩
          show Clean .normal ∧ _
          refine ⟨trivial, hpost a3 w3 (At.fits k4 hr2 t1 t2.rel (r3.step t2) (t3.trans (by rw [put_defers]; exact r4)) ?_)⟩
          rw [t4, put_size]; exact r5
  | scope b => exact absurd rfl (hne b)
  | seq x y =>
    simp only [cCode] at hc
    split at hc <;> cases hc
  | cond o x y =>
    simp only [cCode] at hc
    split at hc <;> cases hc
  | block id b => obtain ⟨_, _, h⟩ := map_some (show (cCode P N b).map (ACd.block id) = some _ from hc); cases h
  | loop b => obtain ⟨_, _, h⟩ := map_some (show (cCode P N b).map ACd.loop = some _ from hc); cases h
  | _ => cases hc
/-- the same with frame and memory not written out -/
def AtH (w0 : World) (N : Nat) (ρ : Vn) (fr : Fr) (h : Hp) (a : Act) (w : World) : Prop :=
  ∃ φ, FR ρ φ fr a.tmps ∧ Rel ρ φ h w ∧ Out w0 φ h w ∧ a.defers = [] ∧ N ≤ a.tmps.size
/-- the first parts of a sequence -/
def cutA : Nat → ACd → Option (List ACd × ACd)
  | 0, c => some ([], c)
  | k + 1, .seq x y => (cutA k y).map fun p => (x :: p.1, p.2)
  | _, _ => none
def cutL (k : Nat) (c : ACd) : List ACd := match cutA k c with
  | some p => p.1
  | none => []
def cutR (k : Nat) (c : ACd) : ACd := match cutA k c with
  | some p => p.2
  | none => .bad
noncomputable def runL (P : Program) (E : Env) (T : Tab) (n : Nat) (l : List ACd) : Fr → Hp → RC :=
  @List.rec ACd (fun _ => Fr → Hp → RC) RC.nrm (fun x _ ih fr h => RC.casesOn (motive := fun _ => RC) (aev P E T n x fr h) .no ih (fun _ _ _ => .no) (fun _ _ => .no)) l
theorem Tri.preH {T : Tab} {n : Nat} (hcode : CodeOk P E T n) {ρ : Vn} (he : EnvOk E ρ) {w0 : World} {Post : Exit → Act → World → Prop} {r : ACd} {fr' : Fr} {h' : Hp} (hrest : Tri P N r (AtH w0 N ρ fr' h') Post) :
    ∀ {k : Nat} {ac : ACd} {l : List ACd} {fr : Fr} {h : Hp}, cutA k ac = some (l, r) → runL P E T n l fr h = .nrm fr' h' → Tri P N ac (AtH w0 N ρ fr h) Post
  | 0, ac, l, fr, h, hc, hr => by cases hc; cases hr; exact hrest
  | k + 1, .seq x y, l, fr, h, hc, hr => by
    obtain ⟨p, hp, he2⟩ := map_some (show (cutA k y).map (fun p => (x :: p.1, p.2)) = some (l, r) from hc)
    obtain ⟨l', r'⟩ := p
    cases he2
    have hr' : RC.casesOn (motive := fun _ => RC) (aev P E T n x fr h) .no (runL P E T n l') (fun _ _ _ => .no) (fun _ _ => .no) = .nrm fr' h' := hr
    cases hx : aev P E T n x fr h with
    | no => rw [hx] at hr'; cases hr'
    | ex id f g => rw [hx] at hr'; cases hr'
    | ret f g => rw [hx] at hr'; cases hr'
    | nrm fr1 h1 =>
      rw [hx] at hr'
      refine Tri.seq (Mid := AtH w0 N ρ fr1 h1) ?_ (Tri.preH hcode he hrest hp hr')
      intro c hcc a w hat
      obtain ⟨φ, q1, q2, q3, q4, q5⟩ := hat
      refine wp_mono (hcode N c x hcc fr h _ hx (by simp) ρ φ a w he q1 q2 q5) ?_
      rintro e a' w' ⟨rfl, φ', p1, p2, p3, p4⟩
      exact ⟨trivial, .inl ⟨rfl, φ', p1, p2.rel, q3.step p2, p3.trans q4, by omega⟩⟩
  | k + 1, .skip, l, fr, h, hc, hr => nomatch hc
  | k + 1, .reg _, l, fr, h, hc, hr => nomatch hc
  | k + 1, .dreg _, l, fr, h, hc, hr => nomatch hc
  | k + 1, .cond _ _ _, l, fr, h, hc, hr => nomatch hc
  | k + 1, .block _ _, l, fr, h, hc, hr => nomatch hc
  | k + 1, .loop _, l, fr, h, hc, hr => nomatch hc
  | k + 1, .exit _, l, fr, h, hc, hr => nomatch hc
  | k + 1, .ret, l, fr, h, hc, hr => nomatch hc
  | k + 1, .bad, l, fr, h, hc, hr => nomatch hc
/-- the first parts are run, then the rest follows from the state written out -/
theorem Tri.pre_run {T : Tab} {n : Nat} (hcode : CodeOk P E T n) {ρ ρ' : Vn} (he : EnvOk E ρ) {k : Nat} {ac r : ACd} {l : List ACd} (hcut : cutA k ac = some (l, r)) {s s' : Lit} {m : List (Bid × Bid)} {nm : Nms} (hend : endsAt .nrm m nm s' (runL P E T n l s.frame s.hp) = true) (hr : Ren ρ ρ' nm)
    {w0 : World} {Post : Exit → Act → World → Prop} (hrest : Tri P N r (At w0 N ρ' s') Post) : Tri P N ac (At w0 N ρ s) Post := by
  cases hx : runL P E T n l s.frame s.hp with
  | no => rw [hx] at hend; cases hend
  | ex id f g => rw [hx] at hend; cases hend
  | ret f g => rw [hx] at hend; cases hend
  | nrm fr' h' =>
    rw [hx] at hend
    refine Tri.preH hcode he (hrest.pre ?_) hcut hx
    rintro a w ⟨φ, q1, q2, q3, q4, q5⟩
    exact At.fits hend hr q1 q2 q3 q4 q5
end
end Go.Proofs.YtpnlcoolbimmjaaGreat
