/-
  A verified evaluator of the model: EvE.
-/
import Derived.Test.YtjnfgapfhpihmaaGreatEvD
import Derived.LoopN
import Derived.Scope
set_option linter.unusedVariables false
set_option linter.unusedSimpArgs false
namespace Go.Proofs.YtjnfgapfhpihmaaGreat
def optX : Option AX → List AX
  | some x => [x]
  | none => []
def AO.uses : AO → List AX
  | .mv x => [x]
  | .pick c x y => [c, x, y]
  | .gen _ => []
  | .bin _ x y => [x, y]
  | .not x => [x]
  | .ci _ x => [x]
  | .eqs _ x y => [x, y]
  | .eqa _ _ x y => [x, y]
  | .al _ => []
  | .bx x => [x]
  | .bd _ ps => ps.map (·.2.2)
  | .bs _ _ ps => ps.map (·.2.2)
  | .ld x => [x]
  | .ldn _ x => [x]
  | .st _ x v => [x, v]
  | .nc x => [x]
  | .mf _ l m => l ++ m
  | .ixa _ _ _ x i => [x, i]
  | .mm => []
  | .ms _ _ l c => [l, c]
  | .sll _ x a b c => [x] ++ optX a ++ optX b ++ optX c
  | .sla _ _ x a b c => [x] ++ optX a ++ optX b ++ optX c
  | .fa _ x => [x]
  | .fd _ x => [x]
  | .fdn _ _ x => [x]
  | .iaa _ _ x i => [x, i]
  | .ias _ x i => [x, i]
  | .eqn _ x y => [x, y]
  | .len x => [x]
  | .lens x => [x]
  | .cap x => [x]
  | .lk _ _ _ _ x i => [x, i]
  | .mu _ _ m k v => [m, k, v]
  | .ex x _ => [x]
  | .bts x => [x]
  | .call _ l => l
  | .cv x l => x :: l
  | .ap _ _ x y => [x, y]
  | .apz _ _ _ x y => [x, y]
  | .cp _ x y => [x, y]
  | .clr _ x => [x]
  | .ov x y => [x, y]
  | .no => []
section
variable {P : Program} {E : Env} {fr fr' : Fr}
theorem evs_congr : ∀ {l : List AX}, (∀ x ∈ l, ev x fr = ev x fr') → evs fr l = evs fr' l
  | [], _ => rfl
  | x :: l, h => by
    show ob (ev x fr) _ = ob (ev x fr') _
    rw [h x (by simp)]
    have := evs_congr (l := l) fun y hy => h y (by simp [hy])
    show ob (ev x fr') (fun v => ob (evs fr l) _) = ob (ev x fr') (fun v => ob (evs fr' l) _)
    rw [this]
theorem evC_congr {x : AX} (h : ev x fr = ev x fr') (f : AC → RO) : evC x fr f = evC x fr' f := by unfold evC; rw [h]
theorem evP_congr {x : AX} (h : ev x fr = ev x fr') (f : Bid → Nat → RO) : evP x fr f = evP x fr' f := by unfold evP evC; rw [h]
theorem evN_congr {x : AX} (h : ev x fr = ev x fr') : evN x fr = evN x fr' := by unfold evN; rw [h]
theorem bound_congr {d : Nat} {o : Option AX} (h : ∀ x ∈ optX o, ev x fr = ev x fr') : bound fr d o = bound fr' d o := by
  cases o with
  | none => rfl
  | some x => exact evN_congr (h x (by simp [optX]))
theorem fills_congr : ∀ {ps : List (Nat × Nat × AX)}, (∀ x ∈ ps.map (·.2.2), ev x fr = ev x fr') → fills fr ps = fills fr' ps
  | [], _ => rfl
  | p :: ps, h => by
    have h1 := fills_congr (ps := ps) fun y hy => h y (by simp at hy ⊢; exact .inr hy)
    funext z
    show fill1 fr p (fills fr ps) z = fill1 fr' p (fills fr' ps) z
    unfold fill1
    rw [h1, h p.2.2 (by simp)]
theorem aop_congr {call : CallF} {ao : AO} {h : Hp} (hu : ∀ x ∈ ao.uses, ev x fr = ev x fr') (hg : ∀ o, ao = .gen o → ∀ x ∈ o.operands.toList, (opdVal fr x = opdVal fr' x ∧ opdOk fr x = opdOk fr' x) ∧ opdAV fr x = opdAV fr' x) (hs : ∀ o, ao = .gen o → ∀ cs b, o ≠ .select cs b) : aop P E call ao fr h = aop P E call ao fr' h := by
  cases ao with
  | gen o =>
    have h1 := hg o rfl
    show ro (genAny P E o fr) _ = ro (genAny P E o fr') _
    have hm : o.operands.toList.map (opdAV fr) = o.operands.toList.map (opdAV fr') := List.map_congr_left fun x hx => (h1 x hx).2
    replace h1 := fun x hx => (h1 x hx).1
    have hrun : genRun P o fr = genRun P o fr' := ?_
    · unfold genAny
      rw [hrun, hm]
    have hall : o.operands.toList.all (opdOk fr) = o.operands.toList.all (opdOk fr') := by
      rw [Bool.eq_iff_iff, List.all_eq_true, List.all_eq_true]
      exact ⟨fun h2 x hx => by rw [← (h1 x hx).2]; exact h2 x hx, fun h2 x hx => by rw [(h1 x hx).2]; exact h2 x hx⟩
    unfold genRun
    rw [hall]
    cases hb : o.operands.toList.all (opdOk fr') with
    | false => rfl
    | true =>
      have hx : execOp (opdVal fr) ⟨none, o, 0, "", #[], none⟩ = execOp (opdVal fr') ⟨none, o, 0, "", #[], none⟩ := execOp_congr _ (fun cs b => hs o rfl cs b) fun x hx => (h1 x (by simpa using hx)).1
      rw [hx]
  | mv x => show opMv x fr h = opMv x fr' h; unfold opMv; rw [hu x (by simp [AO.uses])]
  | pick c x y => show opPick c x y fr h = opPick c x y fr' h; unfold opPick opMv; rw [evC_congr (hu c (by simp [AO.uses])), hu x (by simp [AO.uses]), hu y (by simp [AO.uses])]
  | bin op x y => show opBin E op x y fr h = opBin E op x y fr' h; unfold opBin evC; rw [hu x (by simp [AO.uses]), hu y (by simp [AO.uses])]
  | not x => show opNot x fr h = opNot x fr' h; unfold opNot; rw [evC_congr (hu x (by simp [AO.uses]))]
  | ci k x => show opCi E k x fr h = opCi E k x fr' h; unfold opCi; rw [evC_congr (hu x (by simp [AO.uses]))]
  | eqs n x y => show opEqs E n x y fr h = opEqs E n x y fr' h; unfold opEqs evC; rw [hu x (by simp [AO.uses]), hu y (by simp [AO.uses])]
  | eqa n ks x y => show opEqa E n ks x y fr h = opEqa E n ks x y fr' h; unfold opEqa; rw [hu x (by simp [AO.uses]), hu y (by simp [AO.uses])]
  | al z => rfl
  | bx x => show opBx x fr h = opBx x fr' h; unfold opBx; rw [hu x (by simp [AO.uses])]
  | bd z ps => show opBd z ps fr h = opBd z ps fr' h; unfold opBd; rw [fills_congr (fun x hx => hu x hx)]
  | bs z n ps => show opBs z n ps fr h = opBs z n ps fr' h; unfold opBs; rw [fills_congr (fun x hx => hu x hx)]
  | ld x => show opLd E x fr h = opLd E x fr' h; unfold opLd; rw [evC_congr (hu x (by simp [AO.uses]))]
  | ldn n x => show opLdn E n x fr h = opLdn E n x fr' h; unfold opLdn; rw [evC_congr (hu x (by simp [AO.uses]))]
  | st n x v => show opSt n x v fr h = opSt n x v fr' h; unfold opSt; rw [evP_congr (hu x (by simp [AO.uses])), hu v (by simp [AO.uses])]
  | nc x => show opNc x fr h = opNc x fr' h; unfold opNc; rw [evC_congr (hu x (by simp [AO.uses]))]
  | mf f l m => show opMf f l m fr h = opMf f l m fr' h; unfold opMf; rw [evs_congr (fun x hx => hu x (by simp [AO.uses, hx])), evs_congr (fun x hx => hu x (by simp [AO.uses, hx]))]
  | ixa n s g x i => show opIxa n s g x i fr h = opIxa n s g x i fr' h; unfold opIxa; rw [hu x (by simp [AO.uses]), evN_congr (hu i (by simp [AO.uses]))]
  | mm => rfl
  | ms z b l c => show opMs z b l c fr h = opMs z b l c fr' h; unfold opMs; rw [evN_congr (hu l (by simp [AO.uses])), evN_congr (hu c (by simp [AO.uses]))]
  | sll s x lo hi mx =>
    show opSll E s x lo hi mx fr h = opSll E s x lo hi mx fr' h
    have h1 : ∀ d, bound fr d lo = bound fr' d lo := fun d => bound_congr fun y hy => hu y (by simp [AO.uses, hy])
    have h2 : ∀ d, bound fr d hi = bound fr' d hi := fun d => bound_congr fun y hy => hu y (by simp [AO.uses, hy])
    have h3 : ∀ d, bound fr d mx = bound fr' d mx := fun d => bound_congr fun y hy => hu y (by simp [AO.uses, hy])
    have h4 : ∀ m, mx = some m → evN m fr = evN m fr' := fun m hm => evN_congr (hu m (by simp [AO.uses, hm, optX]))
    have b1 : ∀ {o : Option AX}, (∀ y, o = some y → ev y fr = ev y fr') → boundC fr o = boundC fr' o := fun {o} ho => by
      cases o with
      | none => rfl
      | some y => simp only [boundC, ho y rfl]
    have c1 : boundC fr lo = boundC fr' lo := b1 fun y hy => hu y (by simp [AO.uses, hy, optX])
    have c2 : boundC fr hi = boundC fr' hi := b1 fun y hy => hu y (by simp [AO.uses, hy, optX])
    have c3 : boundC fr mx = boundC fr' mx := b1 fun y hy => hu y (by simp [AO.uses, hy, optX])
    unfold opSll
    rw [evC_congr (hu x (by simp [AO.uses]))]
    have e0 : ∀ v, opSl0 s v lo hi mx fr h = opSl0 s v lo hi mx fr' h := fun v => by
      unfold opSl0
      simp only [h1, h2, h3]
      cases mx with
      | none => rfl
      | some m => simp only [h4 m rfl]
    have e1 : ∀ e y, opSlD E s e y lo hi mx fr h = opSlD E s e y lo hi mx fr' h := fun e y => by
      unfold opSlD
      simp only [c1, c2, c3]
    simp only [e0, e1]
  | sla n s x lo hi mx =>
    show opSla n s x lo hi mx fr h = opSla n s x lo hi mx fr' h
    have h1 : ∀ d, bound fr d lo = bound fr' d lo := fun d => bound_congr fun y hy => hu y (by simp [AO.uses, hy])
    have h2 : ∀ d, bound fr d hi = bound fr' d hi := fun d => bound_congr fun y hy => hu y (by simp [AO.uses, hy])
    have h3 : ∀ d, bound fr d mx = bound fr' d mx := fun d => bound_congr fun y hy => hu y (by simp [AO.uses, hy])
    unfold opSla
    rw [evP_congr (hu x (by simp [AO.uses]))]
    simp only [h1, h2, h3]
  | fa o x => show opFa o x fr h = opFa o x fr' h; unfold opFa; rw [evC_congr (hu x (by simp [AO.uses]))]
  | fd o x => show opFd o x fr h = opFd o x fr' h; unfold opFd; rw [hu x (by simp [AO.uses])]
  | fdn o n x => show opFdn o n x fr h = opFdn o n x fr' h; unfold opFdn; rw [hu x (by simp [AO.uses])]
  | iaa n s x i => show opIaa n s x i fr h = opIaa n s x i fr' h; unfold opIaa; rw [evC_congr (hu x (by simp [AO.uses])), evN_congr (hu i (by simp [AO.uses]))]
  | ias s x i => show opIas E s x i fr h = opIas E s x i fr' h; unfold opIas iasOf; rw [evC_congr (hu x (by simp [AO.uses])), evN_congr (hu i (by simp [AO.uses]))]; congr 1; funext c; congr 1; funext s' y; congr 1; exact evC_congr (hu i (by simp [AO.uses])) _
  | eqn n x y => show opEqn n x y fr h = opEqn n x y fr' h; unfold opEqn evC; rw [hu x (by simp [AO.uses]), hu y (by simp [AO.uses])]
  | len x => show opLen E x fr h = opLen E x fr' h; unfold opLen; rw [evC_congr (hu x (by simp [AO.uses]))]
  | lens x => show opLens E x fr h = opLens E x fr' h; unfold opLens; rw [evC_congr (hu x (by simp [AO.uses]))]
  | cap x => show opCap x fr h = opCap x fr' h; unfold opCap; rw [evC_congr (hu x (by simp [AO.uses]))]
  | lk z ok ag ks x i => show opLk E z ok ag ks x i fr h = opLk E z ok ag ks x i fr' h; unfold opLk; rw [evC_congr (hu x (by simp [AO.uses])), hu i (by simp [AO.uses])]
  | mu ag ks m k v => show opMu E ag ks m k v fr h = opMu E ag ks m k v fr' h; unfold opMu; rw [evC_congr (hu m (by simp [AO.uses])), hu k (by simp [AO.uses]), hu v (by simp [AO.uses])]
  | ex x i => show opEx x i fr h = opEx x i fr' h; unfold opEx; rw [hu x (by simp [AO.uses])]
  | bts x => show opBts E x fr h = opBts E x fr' h; unfold opBts; rw [evC_congr (hu x (by simp [AO.uses]))]
  | call f l => show opCall call f l fr h = opCall call f l fr' h; unfold opCall; rw [evs_congr (l := l) (fun x hx => hu x hx)]
  | cv x l => show opCv call x l fr h = opCv call x l fr' h; unfold opCv; rw [evC_congr (hu x (by simp [AO.uses])), evs_congr (fun y hy => hu y (by simp [AO.uses, hy]))]
  | ap s b x y => show opAp E s b x y fr h = opAp E s b x y fr' h; unfold opAp evC; rw [hu x (by simp [AO.uses]), hu y (by simp [AO.uses])]
  | apz s b z x y => show opApz s b z x y fr h = opApz s b z x y fr' h; unfold opApz; rw [evC_congr (hu x (by simp [AO.uses])), evN_congr (hu y (by simp [AO.uses]))]
  | cp s x y => show opCp s x y fr h = opCp s x y fr' h; unfold opCp evC; rw [hu x (by simp [AO.uses]), hu y (by simp [AO.uses])]
  | clr z x => show opClr z x fr h = opClr z x fr' h; unfold opClr; rw [evC_congr (hu x (by simp [AO.uses]))]
  | ov x y => show opOv x y fr h = opOv x y fr' h; unfold opOv evC; rw [hu x (by simp [AO.uses]), hu y (by simp [AO.uses])]
  | no => rfl
theorem cXs_mem : ∀ {xs : List Operand} {l : List AX}, cXs xs = some l → ∀ y ∈ l, ∃ x ∈ xs, cX x = some y
  | [], l, e, y, hy => by cases e; cases hy
  | x :: xs, l, e, y, hy => by
    simp only [cXs] at e
    cases h1 : cX x with
    | none => rw [h1] at e; cases e
    | some ax =>
      rw [h1] at e
      dsimp only at e
      cases h2 : cXs xs with
      | none => rw [h2] at e; cases e
      | some m =>
        rw [h2] at e
        cases e
        rcases List.mem_cons.1 hy with rfl | hy
        · exact ⟨x, by simp, h1⟩
        · obtain ⟨z, h3, h4⟩ := cXs_mem h2 y hy
          exact ⟨z, by simp [h3], h4⟩
theorem cParts_mem {place : Nat → Option (Nat × Nat)} : ∀ {xs : List (Nat × Operand)} {l : List (Nat × Nat × AX)}, cParts place xs = some l → ∀ y ∈ l.map (·.2.2), ∃ x ∈ xs.map (·.2), cX x = some y
  | [], l, e, y, hy => by cases e; cases hy
  | (i, x) :: xs, l, e, y, hy => by
    simp only [cParts] at e
    split at e
    · rename_i o s ax ps h1 h2 h3
      cases e
      simp only [List.map_cons, List.mem_cons] at hy
      rcases hy with rfl | hy
      · exact ⟨x, by simp, h2⟩
      · obtain ⟨z, h4, h5⟩ := cParts_mem h3 y hy
        exact ⟨z, by simp at h4 ⊢; exact .inr h4, h5⟩
    · cases e
theorem cO_mem {o : Option Operand} {ao : Option AX} (e : cO o = some ao) : ∀ y ∈ optX ao, ∃ x, o = some x ∧ cX x = some y := by
  cases o with
  | none => cases e; intro y hy; cases hy
  | some x =>
    simp only [cO] at e
    cases h1 : cX x with
    | none => rw [h1] at e; cases e
    | some ax =>
      rw [h1] at e
      cases e
      intro y hy
      simp [optX] at hy
      subst hy
      exact ⟨x, rfl, h1⟩
def Uses (op : Op) (ao : AO) : Prop := (∀ y ∈ ao.uses, (∃ v, y = .k v) ∨ ∃ x ∈ op.operands.toList, cX x = some y) ∧ ∀ o, ao = .gen o → o.operands = op.operands ∧ ∀ cs b, o ≠ .select cs b
theorem Uses.one {op : Op} {ao : AO} {x : Operand} {ax : AX} (hu : ao.uses = [ax]) (hg : ∀ o, ao ≠ .gen o) (hx : cX x = some ax) (ho : x ∈ op.operands.toList) : Uses op ao :=
  ⟨fun y hy => by rw [hu] at hy; simp at hy; subst hy; exact .inr ⟨x, ho, hx⟩, fun o e => absurd e (hg o)⟩
theorem Uses.two {op : Op} {ao : AO} {x y : Operand} {ax ay : AX} (hu : ao.uses = [ax, ay]) (hg : ∀ o, ao ≠ .gen o) (hx : cX x = some ax) (hy : cX y = some ay) (h1 : x ∈ op.operands.toList) (h2 : y ∈ op.operands.toList) : Uses op ao :=
  ⟨fun z hz => by
    rw [hu] at hz; simp at hz
    rcases hz with rfl | rfl
    · exact .inr ⟨x, h1, hx⟩
    · exact .inr ⟨y, h2, hy⟩, fun o e => absurd e (hg o)⟩
theorem Uses.three {op : Op} {ao : AO} {x y z : Operand} {ax ay az : AX} (hu : ao.uses = [ax, ay, az]) (hg : ∀ o, ao ≠ .gen o) (hx : cX x = some ax) (hy : cX y = some ay) (hz : cX z = some az) (h1 : x ∈ op.operands.toList) (h2 : y ∈ op.operands.toList) (h3 : z ∈ op.operands.toList) : Uses op ao :=
  ⟨fun q hq => by
    rw [hu] at hq; simp at hq
    rcases hq with rfl | rfl | rfl
    · exact .inr ⟨x, h1, hx⟩
    · exact .inr ⟨y, h2, hy⟩
    · exact .inr ⟨z, h3, hz⟩, fun o e => absurd e (hg o)⟩
theorem Uses.gen {op o : Op} (h : o.operands = op.operands) (hs : ∀ cs b, o ≠ .select cs b) : Uses op (.gen o) :=
  ⟨fun y hy => (by cases hy), fun o' e => (by cases e; exact ⟨h, hs⟩)⟩
theorem uses_ok {op : Op} {ao : AO} (hc : cOp P op = some ao) : Uses op ao := by
  cases op with
  | move x => obtain ⟨ax, hx, rfl⟩ := map_some (show (cX x).map AO.mv = some ao from hc); exact .one rfl (fun _ => by simp) hx (by simp [Op.operands])
  | assign x => obtain ⟨ax, hx, rfl⟩ := map_some (show (cX x).map AO.mv = some ao from hc); exact .one rfl (fun _ => by simp) hx (by simp [Op.operands])
  | pick c x y =>
    simp only [cOp] at hc
    split at hc
    · rename_i a b d h1 h2 h3; cases hc; exact .three rfl (fun _ => by simp) h1 h2 h3 (by simp [Op.operands]) (by simp [Op.operands]) (by simp [Op.operands])
    · cases hc
  | alloc t => obtain ⟨z, hz, rfl⟩ := map_some (show (zeroOf P t).map AO.al = some ao from hc); exact ⟨fun y hy => (by cases hy), fun o e => (by cases e)⟩
  | box t x => obtain ⟨ax, hx, rfl⟩ := map_some (show (cX x).map AO.bx = some ao from hc); exact .one rfl (fun _ => by simp) hx (by simp [Op.operands])
  | build t ps =>
    simp only [cOp] at hc
    have go : ∀ {place : Nat → Option (Nat × Nat)} {z : List AC} {l : List (Nat × Nat × AX)}, cParts place ps.toList = some l → Uses (.build t ps) (.bd z l) := by
      intro place z l hl
      refine ⟨fun y hy => ?_, fun o e => (by cases e)⟩
      obtain ⟨x, h1, h2⟩ := cParts_mem hl y hy
      exact .inr ⟨x, by simpa [Op.operands] using h1, h2⟩
    split at hc
    · split at hc
      · obtain ⟨l, hl, rfl⟩ := map_some hc; exact go hl
      · cases hc
    · split at hc
      · obtain ⟨l, hl, rfl⟩ := map_some hc; exact go hl
      · cases hc
    · cases hc
  | buildSlice t n ps =>
    simp only [cOp] at hc
    split at hc
    · split at hc
      · split at hc
        · obtain ⟨l, hl, rfl⟩ := map_some hc
          refine ⟨fun y hy => ?_, fun o e => (by cases e)⟩
          obtain ⟨x, h1, h2⟩ := cParts_mem hl y hy
          exact .inr ⟨x, by simpa [Op.operands] using h1, h2⟩
        · cases hc
      · cases hc
    · cases hc
  | load t x =>
    simp only [cOp] at hc
    split at hc
    · rename_i h1 h2 h3; cases hc; exact .one rfl (fun _ => by simp) h3 (by simp [Op.operands])
    · rename_i h1 h2 h3; cases hc; exact .one rfl (fun _ => by simp) h3 (by simp [Op.operands])
    · rename_i h1 h2 h3; cases hc; exact .one rfl (fun _ => by simp) h3 (by simp [Op.operands])
    · cases hc
  | store t x y =>
    simp only [cOp] at hc
    split at hc
    · rename_i h1 h2 h3; cases hc; exact .two rfl (fun _ => by simp) h2 h3 (by simp [Op.operands]) (by simp [Op.operands])
    · cases hc
  | nilCheck x => obtain ⟨ax, hx, rfl⟩ := map_some (show (cX x).map AO.nc = some ao from hc); exact .one rfl (fun _ => by simp) hx (by simp [Op.operands])
  | binOp op t x y u =>
    have hg : Uses (.binOp op t x y u) (.gen (.binOp op t x y 0)) := .gen rfl (fun _ _ => by simp)
    have h2 : ∀ {ao : AO} {ax ay : AX}, ao.uses = [ax, ay] → (∀ o, ao ≠ .gen o) → cX x = some ax → cX y = some ay → Uses (.binOp op t x y u) ao := fun h1 h2 h3 h4 => .two h1 h2 h3 h4 (by simp [Op.operands]) (by simp [Op.operands])
    have hq : ∀ {neg : Bool}, cEqa P neg t x y = some ao → Uses (.binOp op t x y u) ao := by
      intro neg hc
      unfold cEqa at hc
      split at hc
      · cases hc
      · split at hc
        · rename_i h3 h4 h5
          split at hc
          · cases hc; exact h2 rfl (fun _ => by simp) h4 h5
          · cases hc
        · cases hc
    simp only [cOp] at hc
    split at hc
    · cases hc; exact hg
    · cases hc; exact hg
    · cases hc; exact hg
    · cases hc; exact hg
    · cases hc; exact hg
    · cases hc; exact hg
    · cases hc; exact hg
    · cases hc; exact hg
    · split at hc
      · rename_i h3 h4; cases hc; exact h2 rfl (fun _ => by simp) h3 h4
      · cases hc
    · split at hc
      · rename_i h3 h4; cases hc; exact h2 rfl (fun _ => by simp) h3 h4
      · cases hc
    · split at hc
      · rename_i h3 h4; cases hc; exact h2 rfl (fun _ => by simp) h3 h4
      · cases hc
    · exact hq hc
    · exact hq hc
    · exact hq hc
    · exact hq hc
    · split at hc
      · rename_i h3 h4; cases hc; exact h2 rfl (fun _ => by simp) h3 h4
      · cases hc
    · split at hc
      · rename_i h3 h4; cases hc; exact h2 rfl (fun _ => by simp) h3 h4
      · cases hc
    · cases hc; exact hg
    · cases hc
  | unOp op t x =>
    cases op with
    | not => obtain ⟨ax, hx, rfl⟩ := map_some (show (cX x).map AO.not = some ao from hc); exact .one rfl (fun _ => by simp) hx (by simp [Op.operands])
    | _ => cases hc; exact .gen rfl (fun _ _ => by simp)
  | convert s d x =>
    simp only [cOp] at hc
    split at hc
    · split at hc
      · obtain ⟨ax, hx, rfl⟩ := map_some hc; exact .one rfl (fun _ => by simp) hx (by simp [Op.operands])
      · cases hc
    · obtain ⟨ax, hx, rfl⟩ := map_some hc; exact .one rfl (fun _ => by simp) hx (by simp [Op.operands])
    · cases hc; exact .gen rfl (fun _ _ => by simp)
    · cases hc
  | makeFunc fn first caps =>
    cases fn with
    | func f =>
      simp only [cOp] at hc
      split at hc
      · rename_i h1 h2 h3
        cases hc
        refine ⟨fun y hy => ?_, fun o e => (by cases e)⟩
        rcases List.mem_append.1 hy with hy | hy
        · obtain ⟨x, h4, h5⟩ := cXs_mem h2 y hy; exact .inr ⟨x, by simp [Op.operands]; exact .inl (by simpa using h4), h5⟩
        · obtain ⟨x, h4, h5⟩ := cXs_mem h3 y hy; exact .inr ⟨x, by simp [Op.operands]; exact .inr (by simpa using h4), h5⟩
      · cases hc
    | _ => cases hc
  | makeMap t o =>
    cases o with
    | none => cases hc; exact ⟨fun y hy => (by cases hy), fun o e => (by cases e)⟩
    | some x => cases hc
  | makeSlice t x y =>
    simp only [cOp] at hc
    split at hc
    · split at hc
      · rename_i h1 h2 h3 h4 h5
        split at hc
        · cases hc; exact .two rfl (fun _ => by simp) h4 h5 (by simp [Op.operands]) (by simp [Op.operands])
        · cases hc
      · cases hc
    · cases hc
  | slice t x lo hi mx =>
    simp only [cOp] at hc
    split at hc
    · cases hc
    · have go : ∀ {ao : AO} {ax : AX} {a b c : Option AX}, ao.uses = [ax] ++ optX a ++ optX b ++ optX c → (∀ o, ao ≠ .gen o) → cX x = some ax → cO lo = some a → cO hi = some b → cO mx = some c → Uses (.slice t x lo hi mx) ao := by
        intro ao ax a b c hu hg hx ha hb hcc
        refine ⟨fun y hy => ?_, fun o e => absurd e (hg o)⟩
        rw [hu] at hy
        simp only [List.mem_append, List.mem_singleton] at hy
        rcases hy with ((rfl | hy) | hy) | hy
        · exact .inr ⟨x, by simp [Op.operands], hx⟩
        · obtain ⟨z, rfl, h2⟩ := cO_mem ha y hy; exact .inr ⟨z, by simp [Op.operands], h2⟩
        · obtain ⟨z, rfl, h2⟩ := cO_mem hb y hy; exact .inr ⟨z, by simp [Op.operands], h2⟩
        · obtain ⟨z, rfl, h2⟩ := cO_mem hcc y hy; exact .inr ⟨z, by simp [Op.operands], h2⟩
      split at hc
      · rename_i h1 h2 h3 h4 h5; obtain ⟨s, _, rfl⟩ := map_some hc; exact go rfl (fun _ => by simp) h2 h3 h4 h5
      · rename_i h1 h2 h3 h4 h5; obtain ⟨s, _, rfl⟩ := map_some hc; exact go rfl (fun _ => by simp) h2 h3 h4 h5
      · cases hc; exact .gen rfl (fun _ _ => by simp)
      · cases hc
  | fieldAddr s x f =>
    simp only [cOp] at hc
    split at hc
    · rename_i h1 h2
      split at hc
      · split at hc
        · split at hc
          · cases hc; exact .one rfl (fun _ => by simp) h2 (by simp [Op.operands])
          · cases hc
        · cases hc
      · cases hc
    · cases hc
  | field t x f =>
    simp only [cOp] at hc
    split at hc
    · rename_i h1 h2
      split at hc
      · split at hc
        · cases hc; exact .one rfl (fun _ => by simp) h2 (by simp [Op.operands])
        · cases hc; exact .one rfl (fun _ => by simp) h2 (by simp [Op.operands])
        · cases hc; exact .one rfl (fun _ => by simp) h2 (by simp [Op.operands])
        · cases hc
      · cases hc
    · cases hc
  | indexAddr t x i =>
    simp only [cOp] at hc
    split at hc
    · rename_i h1 h2 h3; obtain ⟨s, _, rfl⟩ := map_some hc; exact .two rfl (fun _ => by simp) h2 h3 (by simp [Op.operands]) (by simp [Op.operands])
    · rename_i h1 h2 h3; obtain ⟨s, _, rfl⟩ := map_some hc; exact .two rfl (fun _ => by simp) h2 h3 (by simp [Op.operands]) (by simp [Op.operands])
    · cases hc
  | index t x i =>
    simp only [cOp] at hc
    split at hc
    · rename_i h1 h2 h3
      split at hc
      · cases hc; exact .two rfl (fun _ => by simp) h2 h3 (by simp [Op.operands]) (by simp [Op.operands])
      · cases hc; exact .two rfl (fun _ => by simp) h2 h3 (by simp [Op.operands]) (by simp [Op.operands])
      · cases hc; exact .two rfl (fun _ => by simp) h2 h3 (by simp [Op.operands]) (by simp [Op.operands])
      · cases hc
    · cases hc; exact .gen rfl (fun _ _ => by simp)
    · cases hc
  | lookup t x i ok =>
    simp only [cOp] at hc
    split at hc
    · rename_i h1 h2 h3
      split at hc
      · cases hc; exact .two rfl (fun _ => by simp) h2 h3 (by simp [Op.operands]) (by simp [Op.operands])
      · cases hc
    · cases hc
  | mapUpdate t m k x =>
    have hc' : cMu P t m k x = some ao := hc
    unfold cMu at hc'
    split at hc'
    · rename_i h1 h2 h3 h4
      split at hc'
      · cases hc'; exact .three rfl (fun _ => by simp) h2 h3 h4 (by simp [Op.operands]) (by simp [Op.operands]) (by simp [Op.operands])
      · cases hc'
    · cases hc'
  | insert t m k x =>
    have hc' : cMu P t m k x = some ao := hc
    unfold cMu at hc'
    split at hc'
    · rename_i h1 h2 h3 h4
      split at hc'
      · cases hc'; exact .three rfl (fun _ => by simp) h2 h3 h4 (by simp [Op.operands]) (by simp [Op.operands]) (by simp [Op.operands])
      · cases hc'
    · cases hc'
  | extract x i => obtain ⟨ax, hx, rfl⟩ := map_some (show (cX x).map (fun x => AO.ex x i) = some ao from hc); exact .one rfl (fun _ => by simp) hx (by simp [Op.operands])
  | call c =>
    have mem : ∀ x ∈ c.args.toList, x ∈ (Op.call c).operands.toList := fun x hx => by
      simp only [Op.operands, Call.operands]
      simp at hx ⊢
      exact .inr hx
    have ap : ∀ {el : TypeId} {x y : Operand} {ax ay : AX}, c.args.toList = [x, y] → cX x = some ax → cX y = some ay → cAp P el ax ay = some ao → Uses (.call c) ao := by
      intro el x y ax ay ha hx hy hc
      unfold cAp at hc
      split at hc
      · split at hc
        · cases hc; exact .two rfl (fun _ => by simp) hx hy (mem x (by simp [ha])) (mem y (by simp [ha]))
        · cases hc
      · cases hc
    simp only [cOp] at hc
    split at hc
    · split at hc
      · split at hc
        · split at hc
          · rename_i h1 h2
            cases hc
            refine ⟨fun y hy => ?_, fun o e => (by cases e)⟩
            obtain ⟨x, h3, h4⟩ := cXs_mem h2 y hy
            exact .inr ⟨x, mem x h3, h4⟩
          · cases hc
        · obtain ⟨x, y, ax, ay, h1, h2, h3, rfl⟩ := cOv_ok hc
          exact .two rfl (fun _ => by simp) h2 h3 (mem x (by simp [h1])) (mem y (by simp [h1]))
      · cases hc
    · rename_i x hnf hcal
      split at hc
      · rename_i h1 h2
        cases hc
        refine ⟨fun y hy => ?_, fun o e => (by cases e)⟩
        rcases List.mem_cons.1 hy with rfl | hy
        · exact .inr ⟨x, by simp [Op.operands, Call.operands, hcal], h1⟩
        · obtain ⟨z, h3, h4⟩ := cXs_mem h2 y hy
          exact .inr ⟨z, mem z h3, h4⟩
      · cases hc
    · rename_i x y tx ty' hcal hargs hty
      split at hc
      · rename_i h1 h2 h3 h4
        split at hc
        · split at hc
          · cases hc; exact .two rfl (fun _ => by simp) h3 h4 (mem x (by simp [hargs])) (mem y (by simp [hargs]))
          · cases hc
        · cases hc
      · rename_i h1 h2 h3 h4; exact ap hargs h3 h4 hc
      · rename_i h1 h2 h3 h4; exact ap hargs h3 h4 hc
      · cases hc
    · rename_i x t hcal hargs hty
      split at hc
      · rename_i h1 h2; cases hc; exact .one rfl (fun _ => by simp) h2 (mem x (by simp [hargs]))
      · rename_i h1 h2; cases hc; exact .one rfl (fun _ => by simp) h2 (mem x (by simp [hargs]))
      · cases hc; exact ⟨fun y hy => .inl (by simp [AO.uses] at hy; exact ⟨_, hy⟩), fun o e => (by cases e)⟩
      · cases hc
    · rename_i x t hcal hargs hty
      split at hc
      · rename_i h1 h2; cases hc; exact .one rfl (fun _ => by simp) h2 (mem x (by simp [hargs]))
      · cases hc
    · rename_i x y tx ts hcal hargs hty
      split at hc
      · rename_i h1 h2 h3
        obtain ⟨s, hs, rfl⟩ := map_some hc
        exact .two rfl (fun _ => by simp) h2 h3 (mem x (by simp [hargs])) (mem y (by simp [hargs]))
      · cases hc
    · rename_i x t hcal hargs hty
      split at hc
      · rename_i h1 h2
        split at hc
        · split at hc
          · cases hc; exact .one rfl (fun _ => by simp) h2 (mem x (by simp [hargs]))
          · cases hc
        · cases hc
      · cases hc
    · cases hc; exact .gen rfl (fun _ _ => by simp)
    · cases hc; exact .gen rfl (fun _ _ => by simp)
    · cases hc
  | makeInterface t x => cases hc; exact .gen rfl (fun _ _ => by simp)
  | typeAssert x t u ok => cases hc; exact .gen rfl (fun _ _ => by simp)
  | _ => cases hc
def Agree (ops : Array Oper) (o : Oper) (fr fr' : Fr) : Prop := ∀ t ∈ looks ops o, ∀ p, tmpOf t = some p → getF p.1 p.2 fr = getF p.1 p.2 fr'
theorem aop_agree {ops : Array Oper} {o : Oper} {ao : AO} (hc : cOp P o.op = some ao) (hag : Agree ops o fr fr') (call : CallF) (h : Hp) : aop P E call ao fr h = aop P E call ao fr' h := by
  obtain ⟨h1, h2⟩ := uses_ok hc
  have mem : ∀ t, Operand.tmp t ∈ o.op.operands.toList → t ∈ looks ops o := fun t ht => List.mem_append_left _ (List.mem_filterMap.2 ⟨.tmp t, ht, rfl⟩)
  refine aop_congr (fun y hy => ?_) (fun q hq x hx => ?_) (fun q hq => (h2 q hq).2)
  · rcases h1 y hy with ⟨v, rfl⟩ | ⟨x, hx, hcx⟩
    · rfl
    · cases x with
      | tmp t =>
        simp only [cX] at hcx
        cases ht : tmpOf t with
        | none => rw [ht] at hcx; cases hcx
        | some p => rw [ht] at hcx; cases hcx; exact hag t (mem t hx) p ht
      | const u =>
        simp only [cX] at hcx
        cases hu : AV.of u with
        | none => rw [hu] at hcx; cases hcx
        | some b => rw [hu] at hcx; cases hcx; rfl
      | global g => cases hcx
      | func f =>
        simp only [cX] at hcx
        cases hb : Bid.of f with
        | none => rw [hb] at hcx; cases hcx
        | some b => rw [hb] at hcx; cases hcx; rfl
  · rw [(h2 q hq).1] at hx
    cases x with
    | tmp t =>
      simp only [opdVal, opdOk, opdAV]
      cases ht : tmpOf t with
      | none => exact ⟨⟨rfl, rfl⟩, rfl⟩
      | some p => simp only [hag t (mem t hx) p ht]; exact ⟨⟨trivial, trivial⟩, trivial⟩
    | const u => exact ⟨⟨rfl, rfl⟩, rfl⟩
    | global g => exact ⟨⟨rfl, rfl⟩, rfl⟩
    | func f => exact ⟨⟨rfl, rfl⟩, rfl⟩
theorem wanted_agree {N : Nat} {ops : Array Oper} {o : Oper} {ao : AOp} (hc : cOper P N ops o = some ao) (hag : Agree ops o fr fr') : wantedA fr ao.guard = wantedA fr' ao.guard := by
  rcases (cOper_ok hc).2.2 with ⟨h1, h2⟩ | ⟨j, want, g, t, p, h1, h2, h3, h4, h5⟩
  · rw [h2]; rfl
  · rw [h5]
    show ob (getF p.1 p.2 fr) _ = ob (getF p.1 p.2 fr') _
    rw [hag t (List.mem_append_right _ (by simp [h1, h2, h3])) p h4]
end
end Go.Proofs.YtjnfgapfhpihmaaGreat
namespace Go.Proofs.YtjnfgapfhpihmaaGreat
section
variable {P : Program} {E : Env} {ρ : Vn} {φ : Emb} {fr : Fr} {a : Act} {h h' : Hp} {w w' : World} {v : AV} {N : Nat}
def resR (tmps : Array Value) : ResultVar → Sem Value
  | .tmp t => pure (tmps.getD t undef)
  | .cell a t => do loadVar t (← asAddr (tmps.getD a undef))
theorem res_ok {tmps : Array Value} (hf : FR ρ φ fr tmps) (r : Rel ρ φ h w) : ∀ {rs : List ResultVar} {ars : List AR} {vs : List AV}, cRes P rs = some ars → ares fr h ars = some vs → ∃ us, (rs.mapM (resR tmps) : Sem (List Value)).run P w = .ok us w ∧ All2 (VV ρ φ) vs us
  | [], ars, vs, hc, e => by cases hc; cases e; exact ⟨[], rfl, .nil⟩
  | .tmp t :: rs, ars, vs, hc, e => by
    simp only [cRes] at hc
    split at hc
    · rename_i i j l ht hl
      cases hc
      obtain ⟨u, h1, e1⟩ := ob_some (show ob (getF i j fr) (fun v => ob (ares fr h l) fun vs => some (v :: vs)) = some vs from e)
      obtain ⟨us, h2, e2⟩ := ob_some e1
      cases e2
      obtain ⟨xs, h3, h4⟩ := res_ok hf r hl h2
      have h5 := (hf i j u h1).2
      rw [tmpOf_tn ht] at h5
      refine ⟨tmps.getD t undef :: xs, ?_, .cons h5 h4⟩
      rw [List.mapM_cons]
      simp only [resR, Sem.run_bind, Sem.run_pure, Result.andThen_ok, h3]
    · cases hc
  | .cell b t :: rs, ars, vs, hc, e => by
    simp only [cRes] at hc
    have many : ∀ {i j : D16} {dd : TypeDesc} {s : Nat} {l : List AR}, tmpOf b = some (i, j) → P.underlying t = some dd → aggD dd = true → sizeT P t = some s → cRes P rs = some l → ares fr h (.cells i j s :: l) = some vs → ∃ us, ((ResultVar.cell b t :: rs).mapM (resR tmps) : Sem (List Value)).run P w = .ok us w ∧ All2 (VV ρ φ) vs us := by
      intro i j dd s l ht hu hd hs hl e
      obtain ⟨u, h1, e1⟩ := ob_some (show ob (ares1 fr h (.cells i j s)) (fun v => ob (ares fr h l) fun vs => some (v :: vs)) = some vs from e)
      obtain ⟨us, h2, e2⟩ := ob_some e1
      cases e2
      obtain ⟨xs, h3, h4⟩ := res_ok hf r hl h2
      obtain ⟨q, h5, e3⟩ := ob_some (show ob (getF i j fr) _ = some u from h1)
      have h6 := (hf i j q h5).2
      rw [tmpOf_tn ht] at h6
      split at e3
      · rename_i id off
        obtain ⟨m, h7, e4⟩ := ob_some e3
        cases e4
        obtain ⟨bb, base, tot, h8, h9⟩ := h6
        obtain ⟨b', base', tot', ys, h10, h11, h12, h13⟩ := r.lds h7
        rw [h8] at h10
        cases h10
        refine ⟨.agg ys.toArray :: xs, ?_, .cons ⟨ys, rfl, h12⟩ h4⟩
        have hia := run_isAgg hu w
        rw [hd] at hia
        rw [List.mapM_cons]
        simp only [resR, h9, asAddr, Sem.run_bind, Sem.run_pure, Result.andThen_ok, loadVar, hia, if_true, run_sizeT hs, run_loads h13 h11, h3]
      · cases e3
    split at hc
    · rename_i i j fs s l ht hu hs hl; cases hc; exact many ht hu rfl hs hl e
    · rename_i i j n el s l ht hu hs hl; cases hc; exact many ht hu rfl hs hl e
    · rename_i i j dd s l hne1 hne2 ht hu hs hl
      cases hc
      obtain ⟨u, h1, e1⟩ := ob_some (show ob (ares1 fr h (.cell i j)) (fun v => ob (ares fr h l) fun vs => some (v :: vs)) = some vs from e)
      obtain ⟨us, h2, e2⟩ := ob_some e1
      cases e2
      obtain ⟨xs, h3, h4⟩ := res_ok hf r hl h2
      obtain ⟨q, h5, e3⟩ := ob_some (show ob (getF i j fr) _ = some u from h1)
      have h6 := (hf i j q h5).2
      rw [tmpOf_tn ht] at h6
      split at e3
      · rename_i id off
        obtain ⟨m, h7, e4⟩ := ob_some e3
        cases e4
        obtain ⟨bb, base, tot, h8, h9⟩ := h6
        obtain ⟨b', base', tot', y, h10, h11, h12⟩ := r.ld h7
        rw [h8] at h10
        cases h10
        refine ⟨y :: xs, ?_, .cons h12 h4⟩
        have hia := run_isAgg hu w
        rw [show aggD dd = false by cases dd <;> first | rfl | exact (hne1 _ rfl).elim | exact (hne2 _ _ rfl).elim] at hia
        rw [List.mapM_cons]
        simp only [resR, h9, asAddr, Sem.run_bind, Sem.run_pure, Result.andThen_ok, loadVar, hia, Bool.false_eq_true, if_false, run_load, h11, h3]
      · cases e3
    · cases hc
theorem tvs_ok : ∀ {vs : List AV} {ts : List TV} {us : List Value}, tvs vs = some ts → All2 (VV ρ φ) vs us → All2 (VT ρ φ) ts us
  | [], ts, us, e, h => by cases e; cases h; exact .nil
  | v :: vs, ts, us, e, h => by
    cases h with
    | cons h1 h2 =>
      obtain ⟨t, h3, e1⟩ := ob_some (show ob v.tv (fun v => ob (tvs vs) fun l => some (v :: l)) = some ts from e)
      obtain ⟨m, h4, e2⟩ := ob_some e1
      cases e2
      exact .cons (h1.tv h3) (tvs_ok h4 h2)
theorem results_ok {fn : Func} {tmps : Array Value} (hf : FR ρ φ fr tmps) (r : Rel ρ φ h w) {ars : List AR} (hc : cRes P fn.results.toList = some ars) (e : retOf ars fr h = .ok v h') : h' = h ∧ ∃ u, (results fn tmps).run P w = .ok u w ∧ VV ρ φ v u := by
  obtain ⟨vs, h1, e1⟩ := ro_ok e
  obtain ⟨x, h2, e2⟩ := ro_ok e1
  cases e2
  refine ⟨rfl, ?_⟩
  obtain ⟨us, h3, h4⟩ := res_ok hf r hc h1
  have hm : (fn.results.mapM (resR tmps) : Sem (Array Value)).run P w = .ok us.toArray w := by
    rw [Array.mapM_eq_mapM_toList]
    simp only [Sem.run_map, h3, Result.andThen_ok]
  have hr : (results fn tmps).run P w = .ok (if hh : us.toArray.size = 1 then us.toArray[0] else .tuple us.toArray) w := by
    have : results fn tmps = (do let vs ← fn.results.mapM (resR tmps); pure (if h : vs.size = 1 then vs[0] else .tuple vs)) := rfl
    rw [this]
    simp only [Sem.run_bind, hm, Result.andThen_ok, Sem.run_pure]
  have tup : ∀ {l : List AV}, oneT l = some v → All2 (VV ρ φ) l us → us.length ≠ 1 → ∃ u, (results fn tmps).run P w = .ok u w ∧ VV ρ φ v u := by
    intro l h5 h6 h7
    obtain ⟨ts, h8, h9⟩ := ob_some h5
    cases h9
    refine ⟨.tuple us.toArray, ?_, ⟨us, rfl, tvs_ok h8 h6⟩⟩
    rw [hr, dif_neg (by simpa using h7)]
  cases h4 with
  | nil => exact tup (l := []) h2 .nil (by simp)
  | cons q1 q2 =>
    rename_i a0 b0 vs0 us0
    cases q2 with
    | nil =>
      have : some a0 = some v := h2
      cases this
      refine ⟨b0, ?_, q1⟩
      rw [hr]
      simp
    | cons q3 q4 => exact tup (l := a0 :: _ :: _) h2 (.cons q1 (.cons q3 q4)) (by simp)
theorem frame_ok {tmps : Array Value} : ∀ {vs : List AV} {us : List Value} {ps : List (D16 × D16)} {k : Nat} {fr fr' : Fr}, All2 (VV ρ φ) vs us → (∀ (i : Nat) p, ps[i]? = some p → tn p.1 p.2 = k + i) → (∀ (i : Nat) u, us[i]? = some u → tmps[k + i]? = some u) → FR ρ φ fr tmps → frameOf vs ps fr = some fr' → FR ρ φ fr' tmps
  | [], us, ps, k, fr, fr', h1, h2, h3, h4, e => by cases e; exact h4
  | v :: vs, us, [], k, fr, fr', h1, h2, h3, h4, e => by cases e
  | v :: vs, us, p :: ps, k, fr, fr', h1, h2, h3, h4, e => by
    cases h1 with
    | cons q1 q2 =>
      rename_i u us
      have e' : frameOf vs ps (putF p.1 p.2 v fr) = some fr' := e
      have hp := h2 0 p rfl
      have hu := h3 0 u rfl
      refine frame_ok (k := k + 1) q2 (fun i q hq => by have := h2 (i + 1) q (by simpa using hq); omega) (fun i x hx => by have := h3 (i + 1) x (by simpa using hx); rwa [show k + 1 + i = k + (i + 1) by omega]) ?_ e'
      intro i j x hx
      by_cases hij : i = p.1 ∧ j = p.2
      · obtain ⟨rfl, rfl⟩ := hij
        rw [getF_putF] at hx
        cases hx
        rw [hp]
        have hlt := (Array.getElem?_eq_some_iff.1 hu).1
        refine ⟨hlt, ?_⟩
        have : tmps.getD (k + 0) undef = u := by simp only [Array.getD_eq_getD_getElem?, hu]; rfl
        rw [this]
        exact q1
      · rw [getF_putF_ne hij] at hx
        exact h4 i j x hx
end
def DrawOk (P : Program) (E : Env) : Prop :=
  ∀ (N : Nat) (ops : Array Oper) (l : List (AOp × AK)), cRegion P N ops true = some (.dreg l) → ∀ (call : CallF), CallOk P E call → ∀ (ρ : Vn) (φ : Emb) (fr : Fr) (a : Act) (h : Hp) (w : World) (fr' : Fr) (h' : Hp), EnvOk E ρ → FR ρ φ fr a.tmps → Rel ρ φ h w → N ≤ a.tmps.size → draws P E call l fr h = .ok fr' h' →
    ∀ (Q : Exit → Act → World → Prop), (∀ a' w', Fin ρ φ h w a fr' h' a' w' → Q .normal a' w') → ∀ t, wpOps P ops Q (Region.schedule (P.follows .mixedOrders) ops t) a { w with drawn := w.drawn + 1 }
def TabOk (P : Program) (E : Env) (T : Tab) : Prop :=
  ∀ id fn, get3 T id = some fn → (∀ args w, (callFunc id.num args).run P w = .ok (.enter id.num args) w) ∧
    match fn with
    | .code b res => ∃ f c, P.funcs[id.num]? = some f ∧ f.body = some c ∧ cCode P f.ntmps c = some b ∧ cRes P f.results.toList = some res
    | .nat g => ∀ vs v, g vs = some v → ∀ ρ φ h w us, EnvOk E ρ → Rel ρ φ h w → All2 (VV ρ φ) vs us → Calls P id.num us.toArray w fun e w' => ∃ u φ', e = .returned u ∧ VV ρ φ' v u ∧ Stp ρ φ h w φ' h w'
    | .natm g => ∀ vs v h h', g vs h = .ok v h' → ∀ ρ φ w us, EnvOk E ρ → Rel ρ φ h w → All2 (VV ρ φ) vs us → Calls P id.num us.toArray w fun e w' => ∃ u φ', e = .returned u ∧ VV ρ φ' v u ∧ Stp ρ φ h w φ' h' w'
def CPost (ρ : Vn) (φ : Emb) (h : Hp) (w : World) (a : Act) (r : RC) (e : Exit) (a' : Act) (w' : World) : Prop :=
  match r with
  | .no => False
  | .nrm fr' h' => e = .normal ∧ Fin ρ φ h w a fr' h' a' w'
  | .ex id fr' h' => e = .exit id ∧ Fin ρ φ h w a fr' h' a' w'
  | .ret fr' h' => e = .ret ∧ Fin ρ φ h w a fr' h' a' w'
def CodeOk (P : Program) (E : Env) (T : Tab) (n : Nat) : Prop :=
  ∀ (N : Nat) (c : Code) (ac : ACd), cCode P N c = some ac → ∀ (fr : Fr) (h : Hp) (r : RC), aev P E T n ac fr h = r → r ≠ .no → ∀ (ρ : Vn) (φ : Emb) (a : Act) (w : World), EnvOk E ρ → FR ρ φ fr a.tmps → Rel ρ φ h w → N ≤ a.tmps.size → c.wp P (CPost ρ φ h w a r) a w
theorem places_tn : ∀ (i : Nat) p, places[i]? = some p → tn p.1 p.2 = i := by
  intro i p hp
  have hlt : i < 24 := (List.getElem?_eq_some_iff.1 hp).1
  match i, hlt, hp with
  | 0, _, h => cases h; rfl
  | 1, _, h => cases h; rfl
  | 2, _, h => cases h; rfl
  | 3, _, h => cases h; rfl
  | 4, _, h => cases h; rfl
  | 5, _, h => cases h; rfl
  | 6, _, h => cases h; rfl
  | 7, _, h => cases h; rfl
  | 8, _, h => cases h; rfl
  | 9, _, h => cases h; rfl
  | 10, _, h => cases h; rfl
  | 11, _, h => cases h; rfl
  | 12, _, h => cases h; rfl
  | 13, _, h => cases h; rfl
  | 14, _, h => cases h; rfl
  | 15, _, h => cases h; rfl
  | 16, _, h => cases h; rfl
  | 17, _, h => cases h; rfl
  | 18, _, h => cases h; rfl
  | 19, _, h => cases h; rfl
  | 20, _, h => cases h; rfl
  | 21, _, h => cases h; rfl
  | 22, _, h => cases h; rfl
  | 23, _, h => cases h; rfl
section
variable {P : Program} {E : Env} {T : Tab}
theorem call_of_code (hT : TabOk P E T) {n : Nat} (hcode : CodeOk P E T n) : CallOk P E (callBy T (aev P E T n)) := by
  intro f vs h v h' e
  obtain ⟨fn, h1, e1⟩ := ro_ok e
  obtain ⟨hent, hfn⟩ := hT f fn h1
  refine ⟨hent, ?_⟩
  cases fn with
  | nat g =>
    obtain ⟨x, h2, e2⟩ := ro_ok (show ro (g vs) _ = RO.ok v h' from e1)
    cases e2
    intro ρ φ w us he hr hu
    exact hfn vs v h2 ρ φ h w us he hr hu
  | natm g =>
    intro ρ φ w us he hr hu
    exact hfn vs v h h' e1 ρ φ w us he hr hu
  | code b res =>
    obtain ⟨fr, h2, e2⟩ := ro_ok (show ro (frameOf vs places Fr.nil) _ = RO.ok v h' from e1)
    obtain ⟨fd, c, hf, hb, hcc, hcr⟩ := hfn
    intro ρ φ w us he hr hu
    refine calls_of_wp hf hb ?_
    have hframe : FR ρ φ fr (us.toArray ++ Array.replicate (fd.ntmps - us.toArray.size) undef) := by
      refine frame_ok (k := 0) hu (fun i p hp => by rw [Nat.zero_add]; exact places_tn i p hp) (fun i u hiu => ?_) (fun i j x hx => by rw [getF_nil] at hx; cases hx) h2
      have hlt := (List.getElem?_eq_some_iff.1 hiu).1
      rw [Nat.zero_add, Array.getElem?_append_left (by simpa using hlt)]
      simpa using hiu
    have hsz : fd.ntmps ≤ (us.toArray ++ Array.replicate (fd.ntmps - us.toArray.size) undef).size := by simp; omega
    cases hrun : aev P E T n b fr h with
    | no => have e3 : RC.casesOn (motive := fun _ => RO) (aev P E T n b fr h) RO.no (retOf res) (fun _ _ _ => RO.no) (retOf res) = .ok v h' := e2
            rw [hrun] at e3; cases e3
    | ex id fr2 h2' => have e3 : RC.casesOn (motive := fun _ => RO) (aev P E T n b fr h) RO.no (retOf res) (fun _ _ _ => RO.no) (retOf res) = .ok v h' := e2
                       rw [hrun] at e3; cases e3
    | nrm fr2 h2' =>
      have e3 : RC.casesOn (motive := fun _ => RO) (aev P E T n b fr h) RO.no (retOf res) (fun _ _ _ => RO.no) (retOf res) = .ok v h' := e2
      rw [hrun] at e3
      refine wp_mono (hcode fd.ntmps c b hcc fr h _ hrun (by simp) ρ φ { tmps := us.toArray ++ Array.replicate (fd.ntmps - us.toArray.size) undef, defers := [] } w he hframe hr hsz) ?_
      rintro e a' w' ⟨rfl, φ', q1, q2, q3, q4⟩
      obtain ⟨rfl, u, q5, q6⟩ := results_ok q1 q2.rel hcr e3
      exact ⟨q3, u, q5, u, φ', rfl, q6, q2⟩
    | ret fr2 h2' =>
      have e3 : RC.casesOn (motive := fun _ => RO) (aev P E T n b fr h) RO.no (retOf res) (fun _ _ _ => RO.no) (retOf res) = .ok v h' := e2
      rw [hrun] at e3
      refine wp_mono (hcode fd.ntmps c b hcc fr h _ hrun (by simp) ρ φ { tmps := us.toArray ++ Array.replicate (fd.ntmps - us.toArray.size) undef, defers := [] } w he hframe hr hsz) ?_
      rintro e a' w' ⟨rfl, φ', q1, q2, q3, q4⟩
      obtain ⟨rfl, u, q5, q6⟩ := results_ok q1 q2.rel hcr e3
      exact ⟨q3, u, q5, u, φ', rfl, q6, q2⟩
end
end Go.Proofs.YtjnfgapfhpihmaaGreat
namespace Go.Proofs.YtjnfgapfhpihmaaGreat
section
variable {P : Program} {E : Env} {T : Tab}
theorem rc_nrm {r : RF} {x : RC} (e : rc r = x) (hx : x ≠ .no) : ∃ fr h, r = .ok fr h ∧ x = .nrm fr h := by
  cases r with
  | no => exact absurd e.symm hx
  | ok fr h => exact ⟨fr, h, rfl, e.symm⟩
theorem CPost.trans {ρ : Vn} {φ φ' : Emb} {h h' : Hp} {w w' : World} {a a' : Act} {r : RC} (x : Stp ρ φ h w φ' h' w') (hd : a'.defers = a.defers) (hs : a'.tmps.size = a.tmps.size) {e : Exit} {a'' : Act} {w'' : World} (y : CPost ρ φ' h' w' a' r e a'' w'') : CPost ρ φ h w a r e a'' w'' := by
  cases r with
  | no => exact y
  | nrm fr h => exact ⟨y.1, Fin.trans x hd hs y.2⟩
  | ex id fr h => exact ⟨y.1, Fin.trans x hd hs y.2⟩
  | ret fr h => exact ⟨y.1, Fin.trans x hd hs y.2⟩
theorem code_ok (hT : TabOk P E T) (hD : DrawOk P E) (n : Nat) : CodeOk P E T n := by
  induction n using Nat.strongRecOn with
  | _ n ih =>
  cases n with
  | zero =>
    intro N c ac hc fr h r hr hne
    exact absurd hr.symm hne
  | succ n =>
  have ihn : CodeOk P E T n := ih n (Nat.lt_succ_self n)
  have hcall := call_of_code hT ihn
  intro N c
  induction c with
  | skip =>
    intro ac hc fr h r hr hne ρ φ a w he hf hrel hN
    cases hc
    have : r = .nrm fr h := hr.symm
    subst this
    exact wp_skip ⟨rfl, φ, hf, Stp.refl hrel, rfl, rfl⟩
  | label l =>
    intro ac hc fr h r hr hne ρ φ a w he hf hrel hN
    cases hc
    have : r = .nrm fr h := hr.symm
    subst this
    exact wp_label ⟨rfl, φ, hf, Stp.refl hrel, rfl, rfl⟩
  | ret =>
    intro ac hc fr h r hr hne ρ φ a w he hf hrel hN
    cases hc
    have : r = .ret fr h := hr.symm
    subst this
    exact wp_ret ⟨rfl, φ, hf, Stp.refl hrel, rfl, rfl⟩
  | exit id =>
    intro ac hc fr h r hr hne ρ φ a w he hf hrel hN
    cases hc
    have : r = .ex id fr h := hr.symm
    subst this
    exact wp_exit ⟨rfl, φ, hf, Stp.refl hrel, rfl, rfl⟩
  | region id ops draw =>
    intro ac hc fr h r hr hne ρ φ a w he hf hrel hN
    have hc' : cRegion P N ops draw = some ac := hc
    cases draw with
    | false =>
      unfold cRegion at hc'
      cases hl : mapO (cOper P N ops) ops.toList with
      | none => rw [hl] at hc'; cases hc'
      | some l =>
        rw [hl] at hc'
        cases hc'
        obtain ⟨fr', h', h1, rfl⟩ := rc_nrm (show rc (aregion P E (callBy T (aev P E T n)) l fr h) = r from hr) hne
        refine wp_region ?_
        rw [List.range_eq_range']
        exact region_wp hcall hl he ops.size 0 (by omega) φ fr a h w fr' h' hf hrel hN h1 fun a' w' hfin => ⟨rfl, hfin⟩
    | true =>
      have hdr : ∃ l, ac = .dreg l := by
        unfold cRegion at hc'
        cases hl : mapO (cOper P N ops) ops.toList with
        | none => rw [hl] at hc'; cases hc'
        | some l =>
          rw [hl] at hc'
          simp only [Bool.not_true, Bool.false_eq_true, if_false] at hc'
          split at hc'
          · cases hc'; exact ⟨_, rfl⟩
          · cases hc'
      obtain ⟨l, rfl⟩ := hdr
      obtain ⟨fr', h', h1, rfl⟩ := rc_nrm (show rc (draws P E (callBy T (aev P E T n)) l fr h) = r from hr) hne
      exact wp_region_draw (hD N ops l hc' _ hcall ρ φ fr a h w fr' h' he hf hrel hN h1 _ fun a' w' hfin => ⟨rfl, hfin⟩)
  | seq x y _ _ =>
    intro ac hc fr h r hr hne ρ φ a w he hf hrel hN
    simp only [cCode] at hc
    split at hc
    · rename_i ax ay hx hy
      cases hc
      have hr' : RC.casesOn (motive := fun _ => RC) (aev P E T n ax fr h) RC.no (aev P E T n ay) RC.ex RC.ret = r := hr
      refine wp_seq ?_
      cases h1 : aev P E T n ax fr h with
      | no => rw [h1] at hr'; exact absurd hr'.symm hne
      | nrm fr1 h1' =>
        rw [h1] at hr'
        refine wp_mono (ihn N x ax hx fr h _ h1 (by simp) ρ φ a w he hf hrel hN) ?_
        rintro e a1 w1 ⟨rfl, φ1, q1, q2, q3, q4⟩
        show y.wp P _ a1 w1
        refine wp_mono (ihn N y ay hy fr1 h1' r hr' hne ρ φ1 a1 w1 he q1 q2.rel (by omega)) ?_
        intro e a2 w2 hp
        exact hp.trans q2 q3 q4
      | ex id fr1 h1' =>
        rw [h1] at hr'
        have : r = .ex id fr1 h1' := hr'.symm
        subst this
        refine wp_mono (ihn N x ax hx fr h _ h1 (by simp) ρ φ a w he hf hrel hN) ?_
        rintro e a1 w1 ⟨rfl, hfin⟩
        exact ⟨rfl, hfin⟩
      | ret fr1 h1' =>
        rw [h1] at hr'
        have : r = .ret fr1 h1' := hr'.symm
        subst this
        refine wp_mono (ihn N x ax hx fr h _ h1 (by simp) ρ φ a w he hf hrel hN) ?_
        rintro e a1 w1 ⟨rfl, hfin⟩
        exact ⟨rfl, hfin⟩
    · cases hc
  | cond o x y _ _ =>
    intro ac hc fr h r hr hne ρ φ a w he hf hrel hN
    simp only [cCode] at hc
    split at hc
    · rename_i ao ax ay ho hx hy
      cases hc
      have hr' : cCond (aev P E T n) ao ax ay fr h = r := hr
      unfold cCond at hr'
      cases h1 : ev ao fr with
      | none => rw [h1] at hr'; exact absurd hr'.symm hne
      | some v =>
        rw [h1] at hr'
        cases v with
        | a l => exact absurd hr'.symm hne
        | t l => exact absurd hr'.symm hne
        | c c1 =>
          have hv : VC ρ φ c1 (a.eval o) := cX_ok ho hf h1
          cases c1 <;> first | exact absurd hr'.symm hne | skip
          rename_i b
          refine wp_cond (t := b) hv ?_
          cases b with
          | true => exact ihn N x ax hx fr h r hr' hne ρ φ a w he hf hrel hN
          | false => exact ihn N y ay hy fr h r hr' hne ρ φ a w he hf hrel hN
    · cases hc
  | block id b _ =>
    intro ac hc fr h r hr hne ρ φ a w he hf hrel hN
    obtain ⟨ab, hb, rfl⟩ := map_some (show (cCode P N b).map (ACd.block id) = some ac from hc)
    have hr' : RC.casesOn (motive := fun _ => RC) (aev P E T n ab fr h) RC.no RC.nrm (exitB id) RC.ret = r := hr
    refine wp_block ?_
    cases h1 : aev P E T n ab fr h with
    | no => rw [h1] at hr'; exact absurd hr'.symm hne
    | nrm fr1 h1' =>
      rw [h1] at hr'
      have : r = .nrm fr1 h1' := hr'.symm
      subst this
      refine wp_mono (ihn N b ab hb fr h _ h1 (by simp) ρ φ a w he hf hrel hN) ?_
      rintro e a1 w1 ⟨rfl, hfin⟩
      exact ⟨rfl, hfin⟩
    | ret fr1 h1' =>
      rw [h1] at hr'
      have : r = .ret fr1 h1' := hr'.symm
      subst this
      refine wp_mono (ihn N b ab hb fr h _ h1 (by simp) ρ φ a w he hf hrel hN) ?_
      rintro e a1 w1 ⟨rfl, hfin⟩
      exact ⟨rfl, hfin⟩
    | ex i fr1 h1' =>
      rw [h1] at hr'
      have hr2 : exitB id i fr1 h1' = r := hr'
      refine wp_mono (ihn N b ab hb fr h _ h1 (by simp) ρ φ a w he hf hrel hN) ?_
      rintro e a1 w1 ⟨rfl, hfin⟩
      unfold exitB at hr2
      cases hbi : Nat.beq i id with
      | true =>
        rw [hbi] at hr2
        have hi : i = id := Nat.eq_of_beq_eq_true hbi
        have : r = .nrm fr1 h1' := hr2.symm
        subst this
        simp only [Exit.inBlock, hi, if_true]
        exact ⟨rfl, hfin⟩
      | false =>
        rw [hbi] at hr2
        have hi : i ≠ id := by rintro rfl; rw [Nat.beq_refl] at hbi; cases hbi
        have : r = .ex i fr1 h1' := hr2.symm
        subst this
        simp only [Exit.inBlock, hi, if_false]
        exact ⟨rfl, hfin⟩
  | loop b _ =>
    intro ac hc fr h r hr hne ρ φ a w he hf hrel hN
    obtain ⟨ab, hb, rfl⟩ := map_some (show (cCode P N b).map ACd.loop = some ac from hc)
    have rounds : ∀ m, m ≤ n + 1 → ∀ (fr1 : Fr) (h1 : Hp), aev P E T m (.loop ab) fr1 h1 = r → ∀ (φ1 : Emb) (a1 : Act) (w1 : World), FR ρ φ1 fr1 a1.tmps → Stp ρ φ h w φ1 h1 w1 → a1.defers = a.defers → a1.tmps.size = a.tmps.size → Code.rounds P b (CPost ρ φ h w a r) m a1 w1 := by
      intro m
      induction m with
      | zero => intro _ fr1 h1 e; exact absurd e.symm hne
      | succ m ihm =>
        intro hm fr1 h1 e φ1 a1 w1 q1 q2 q3 q4
        have e' : RC.casesOn (motive := fun _ => RC) (aev P E T m ab fr1 h1) RC.no (aev P E T m (.loop ab)) RC.ex RC.ret = r := e
        rw [rounds_succ]
        have ihb := ih m (by omega) N b ab hb fr1 h1
        cases h2 : aev P E T m ab fr1 h1 with
        | no => rw [h2] at e'; exact absurd e'.symm hne
        | nrm fr2 h2' =>
          rw [h2] at e'
          refine wp_mono (ihb _ h2 (by simp) ρ φ1 a1 w1 he q1 q2.rel (by omega)) ?_
          rintro e a2 w2 ⟨rfl, φ2, p1, p2, p3, p4⟩
          exact ihm (by omega) fr2 h2' e' φ2 a2 w2 p1 (q2.trans p2) (p3.trans q3) (p4.trans q4)
        | ex id fr2 h2' =>
          rw [h2] at e'
          have : r = .ex id fr2 h2' := e'.symm
          subst this
          refine wp_mono (ihb _ h2 (by simp) ρ φ1 a1 w1 he q1 q2.rel (by omega)) ?_
          rintro e a2 w2 ⟨rfl, hfin⟩
          exact ⟨rfl, Fin.trans q2 q3 q4 hfin⟩
        | ret fr2 h2' =>
          rw [h2] at e'
          have : r = .ret fr2 h2' := e'.symm
          subst this
          refine wp_mono (ihb _ h2 (by simp) ρ φ1 a1 w1 he q1 q2.rel (by omega)) ?_
          rintro e a2 w2 ⟨rfl, hfin⟩
          exact ⟨rfl, Fin.trans q2 q3 q4 hfin⟩
    exact wp_loop_rounds (n + 1) (rounds (n + 1) (Nat.le_refl _) fr h hr φ a w hf (Stp.refl hrel) rfl rfl)
  | scope b ihb =>
    intro ac hc fr h r hr hne ρ φ a w he hf hrel hN
    refine wp_scope_straight (wp_mono (ihb ac hc fr h r hr hne ρ φ a w he hf hrel hN) ?_)
    intro e a1 w1 hp
    cases r with
    | no => exact hp.elim
    | nrm fr h => obtain ⟨rfl, hfin⟩ := hp; exact ⟨rfl, hfin⟩
    | ex id fr h => obtain ⟨rfl, hfin⟩ := hp; exact ⟨rfl, hfin⟩
    | ret fr h => obtain ⟨rfl, hfin⟩ := hp; exact ⟨rfl, hfin⟩
  | rangeFunc f ps x y _ _ => intro ac hc; cases hc
  | goto l => intro ac hc; cases hc
  | refuse s => intro ac hc; cases hc
end
end Go.Proofs.YtjnfgapfhpihmaaGreat
namespace Go.Proofs.YtjnfgapfhpihmaaGreat
structure Rec where
  b : Bool
  v : AV
  fr : Fr
  h : Hp
  past : List Hp
  rid : Bid
  made : Option AB
inductive Trc (P : Program) (E : Env) (call : CallF) : List (AOp × AK) → Fr → Hp → List Hp → Bid → List Rec → Fr → Hp → List Hp → Prop
  | nil {fr : Fr} {h : Hp} {past : List Hp} {rid : Bid} : Trc P E call [] fr h past rid [] fr h past
  | skip {o : AOp} {k : AK} {l : List (AOp × AK)} {fr fr' : Fr} {h h' : Hp} {past pf : List Hp} {rid : Bid} {rs : List Rec} (hw : wantedA fr o.guard = some false)
      (t : Trc P E call l (setDst o.dst (.t []) fr) h (pastOf k h past) rid rs fr' h' pf) : Trc P E call ((o, k) :: l) fr h past rid (⟨false, .t [], fr, h, past, rid, none⟩ :: rs) fr' h' pf
  | pure {o : AOp} {l : List (AOp × AK)} {fr fr' : Fr} {h h' h1 : Hp} {past pf : List Hp} {rid : Bid} {rs : List Rec} {v : AV} (hw : wantedA fr o.guard = some true) (ho : aop P E noCall o.op fr h = .ok v h1)
      (t : Trc P E call l (setDst o.dst v fr) h past rid rs fr' h' pf) : Trc P E call ((o, .pure) :: l) fr h past rid (⟨true, v, fr, h, past, rid, none⟩ :: rs) fr' h' pf
  | read {o : AOp} {lo : Nat} {l : List (AOp × AK)} {fr fr' : Fr} {h h' h1 : Hp} {past pf : List Hp} {rid : Bid} {rs : List Rec} {v : AV} (hw : wantedA fr o.guard = some true) (ho : aop P E noCall o.op fr h = .ok v h1) (hs : sameIn P E o.op fr v (past.length - lo) past = true)
      (t : Trc P E call l (setDst o.dst v fr) h past rid rs fr' h' pf) : Trc P E call ((o, .read lo) :: l) fr h past rid (⟨true, v, fr, h, past, rid, none⟩ :: rs) fr' h' pf
  | make {o : AOp} {l : List (AOp × AK)} {fr fr' : Fr} {h h' h1 : Hp} {past pf : List Hp} {rid r : Bid} {rs : List Rec} {v : AV} {b : AB} (hw : wantedA fr o.guard = some true) (ho : aop P E noCall o.op fr ⟨rid, h.bl⟩ = .ok v h1) (hb : h1.get rid = some b) (hr : rid.inc = some r) (hn : freshIn rid (h :: past) = true)
      (t : Trc P E call l (setDst o.dst v fr) (h.putB rid (some b)) (putAll rid b past) r rs fr' h' pf) : Trc P E call ((o, .make) :: l) fr h past rid (⟨true, v, fr, h, past, rid, some b⟩ :: rs) fr' h' pf
  | effect {o : AOp} {l : List (AOp × AK)} {fr fr' : Fr} {h h' h1 : Hp} {past pf : List Hp} {rid : Bid} {rs : List Rec} {v : AV} (hw : wantedA fr o.guard = some true) (ho : aop P E call o.op fr h = .ok v h1)
      (t : Trc P E call l (setDst o.dst v fr) h1 (h :: past) rid rs fr' h' pf) : Trc P E call ((o, .effect) :: l) fr h past rid (⟨true, v, fr, h, past, rid, none⟩ :: rs) fr' h' pf
section
variable {P : Program} {E : Env} {call : CallF}
theorem rf_ok {r : RO} {f : AV → Hp → RF} {fr' : Fr} {h' : Hp} (e : rf r f = .ok fr' h') : ∃ v h1, r = .ok v h1 ∧ f v h1 = .ok fr' h' := by
  cases r with
  | no => cases e
  | ok v h1 => exact ⟨v, h1, rfl, e⟩
theorem trc_of : ∀ {l : List (AOp × AK)} {fr : Fr} {h : Hp} {past : List Hp} {rid : Bid} {fr' : Fr} {h' : Hp}, adraw P E call l fr h past rid = .ok fr' h' → ∃ rs pf, Trc P E call l fr h past rid rs fr' h' pf
  | [], fr, h, past, rid, fr', h', e => by cases e; exact ⟨[], past, .nil⟩
  | (o, k) :: l, fr, h, past, rid, fr', h', e => by
    have e' : drawStep P E call o k (adraw P E call l) fr h past rid = .ok fr' h' := e
    unfold drawStep at e'
    cases hw : wantedA fr o.guard with
    | none => rw [hw] at e'; cases e'
    | some b =>
      rw [hw] at e'
      cases b with
      | false =>
        obtain ⟨rs, pf, t⟩ := trc_of (show adraw P E call l (setDst o.dst (.t []) fr) h (pastOf k h past) rid = .ok fr' h' from e')
        exact ⟨_, pf, .skip hw t⟩
      | true =>
        cases k with
        | pure =>
          obtain ⟨v, h1, h2, e2⟩ := rf_ok (show rf (aop P E noCall o.op fr h) _ = .ok fr' h' from e')
          obtain ⟨rs, pf, t⟩ := trc_of e2
          exact ⟨_, pf, .pure hw h2 t⟩
        | read lo =>
          obtain ⟨v, h1, h2, e2⟩ := rf_ok (show rf (aop P E noCall o.op fr h) _ = .ok fr' h' from e')
          cases hs : sameIn P E o.op fr v (past.length - lo) past with
          | false => rw [hs] at e2; cases e2
          | true =>
            rw [hs] at e2
            obtain ⟨rs, pf, t⟩ := trc_of (show adraw P E call l (setDst o.dst v fr) h past rid = .ok fr' h' from e2)
            exact ⟨_, pf, .read hw h2 hs t⟩
        | make =>
          obtain ⟨v, h1, h2, e2⟩ := rf_ok (show rf (aop P E noCall o.op fr ⟨rid, h.bl⟩) _ = .ok fr' h' from e')
          cases hb : h1.get rid with
          | none => rw [hb] at e2; cases e2
          | some b =>
            rw [hb] at e2
            dsimp only at e2
            cases hr : rid.inc with
            | none => rw [hr] at e2; cases e2
            | some r =>
              rw [hr] at e2
              dsimp only at e2
              cases hn : freshIn rid (h :: past) with
              | false => rw [hn] at e2; cases e2
              | true =>
                rw [hn] at e2
                obtain ⟨rs, pf, t⟩ := trc_of (show adraw P E call l (setDst o.dst v fr) (h.putB rid (some b)) (putAll rid b past) r = .ok fr' h' from e2)
                exact ⟨_, pf, .make hw h2 hb hr hn t⟩
        | effect =>
          obtain ⟨v, h1, h2, e2⟩ := rf_ok (show rf (aop P E call o.op fr h) _ = .ok fr' h' from e')
          obtain ⟨rs, pf, t⟩ := trc_of e2
          exact ⟨_, pf, .effect hw h2 t⟩
end
end Go.Proofs.YtjnfgapfhpihmaaGreat
namespace Go.Proofs.YtjnfgapfhpihmaaGreat
def MkRes (P : Program) (ρ : Vn) (φ : Emb) (h : Hp) (w : World) (v : AV) (h' : Hp) (op : Op) (f : Operand → Value) (ty : TypeId) : Prop :=
  ∃ (V : Bid → AC) (B : AB) (n : Bid) (u : Value) (blk : Obj) (tot : Nat), h.next.inc = some n ∧ v = .c (V h.next) ∧ h' = h.more n B ∧ (opR f op ty).run P w = .ok (.value u) { w with heap := w.heap.push blk } ∧
    (∀ (ψ : Emb) (id : Bid), ψ id = some (w.heap.size, 0, tot) → VC ρ ψ (V id) u) ∧
    ((∃ c vs T, B = .cells c ∧ blk = .cells (List.toArray vs) T (0, 0) ∧ tot = vs.length ∧ All2 (VC ρ φ) c vs) ∨ (B = .map [] ∧ blk = .map #[] 0 ∧ tot = 0))
section
variable {P : Program} {E : Env} {ρ : Vn} {φ : Emb} {fr : Fr} {a : Act} {h h' : Hp} {w w' : World} {v : AV} {ty : TypeId}
theorem mk_al (hf : FR ρ φ fr a.tmps) {t : TypeId} {ao : AO} (hc : cOp P (.alloc t) = some ao) (e : aop P E noCall ao fr h = .ok v h') : MkRes P ρ φ h w v h' (.alloc t) a.eval ty := by
  obtain ⟨z, hz, rfl⟩ := map_some (show (zeroOf P t).map AO.al = some ao from hc)
  obtain ⟨n, h1, rfl, rfl⟩ := new_ok (k := fun id => .c (.p id 0)) (show opAl z fr h = .ok v h' from e)
  obtain ⟨u, hu0, hu1, _⟩ := run_zeroT (ρ := ρ) (φ := φ) hz
  refine ⟨fun id => .p id 0, _, n, .pointer (some ⟨w.heap.size, 0, none⟩), .cells u.cells t, u.cells.toList.length, h1, rfl, rfl, ?_, fun ψ id hx => ⟨_, _, _, hx, rfl⟩, .inl ⟨_, u.cells.toList, t, rfl, by simp, rfl, hu1⟩⟩
  simp [opR, execOp, Instr.alloc, hu0, newVar, newRow]
theorem mk_bx (hf : FR ρ φ fr a.tmps) {t : TypeId} {x : Operand} {ao : AO} (hc : cOp P (.box t x) = some ao) (e : aop P E noCall ao fr h = .ok v h') : MkRes P ρ φ h w v h' (.box t x) a.eval ty := by
  obtain ⟨ax, hx, rfl⟩ := map_some (show (cX x).map AO.bx = some ao from hc)
  obtain ⟨u, h1, e1⟩ := ro_ok (show opBx ax fr h = .ok v h' from e)
  obtain ⟨l, h2, e2⟩ := ro_ok e1
  obtain ⟨n, h3, rfl, rfl⟩ := new_ok e2
  have hv := (cX_ok hx hf h1).cells h2
  refine ⟨fun id => .p id 0, _, n, .pointer (some ⟨w.heap.size, 0, none⟩), .cells (a.eval x).cells t, (a.eval x).cells.toList.length, h3, rfl, rfl, ?_, fun ψ id hx => ⟨_, _, _, hx, rfl⟩, .inl ⟨_, (a.eval x).cells.toList, t, rfl, by simp, rfl, hv⟩⟩
  simp [opR, execOp, Instr.box, newVar, newRow]
theorem mk_bs (hf : FR ρ φ fr a.tmps) {t : TypeId} {len : Nat} {parts : Array (Nat × Operand)} {ao : AO} (hc : cOp P (.buildSlice t len parts) = some ao) (e : aop P E noCall ao fr h = .ok v h') : MkRes P ρ φ h w v h' (.buildSlice t len parts) a.eval ty := by
  simp only [cOp] at hc
  have hparts : (parts.map fun x => (x.1, a.eval x.2)).toList = parts.toList.map fun p => (p.1, a.eval p.2) := by simp
  split at hc
  · rename_i el hu
    split at hc
    · rename_i s z hs hz
      split at hc
      · rename_i hcond
        obtain ⟨ps, hps, rfl⟩ := map_some hc
        obtain ⟨l, h1, e1⟩ := ro_ok (show opBs (zrep z len) len ps fr h = .ok v h' from e)
        obtain ⟨n, h2, rfl, rfl⟩ := new_ok e1
        obtain ⟨u, hu0, hu1, _⟩ := run_zeroT (ρ := ρ) (φ := φ) hz
        have hzs := zeros_ok (by omega) hu1 len
        rw [hcond.2.1] at hzs
        obtain ⟨cs, h3, h4⟩ := fills_ok hf hps h1 hzs
        have hfill : Instr.fill (fun i => some (i * s, s)) (zrow u.cells (len * s)).toArray (parts.map fun x => (x.1, a.eval x.2)).toList = some cs.toArray := by
          rw [hparts]
          exact h3
        refine ⟨fun id => .sl id 0 len len, _, n, .slice (some ⟨w.heap.size, 0, none⟩) len len, .cells cs.toArray el, cs.length, h2, rfl, rfl, ?_, fun ψ id hx => ⟨_, _, _, hx, rfl⟩, .inl ⟨_, cs, el, rfl, rfl, rfl, h4⟩⟩
        have hbig : ¬ (len * s > 16777216) := by omega
        by_cases h0 : len * s = 0
        · have hfill' : Instr.fill (fun i => some (i * s, s)) ((Array.range (len * s)).map fun i => (#[] : Array Value)[i % (#[] : Array Value).size]!) (parts.map fun x => (x.1, a.eval x.2)).toList = some cs.toArray := by
            have e0 : ((Array.range (len * s)).map fun i => (#[] : Array Value)[i % (#[] : Array Value).size]!) = (zrow u.cells (len * s)).toArray := by
              rw [h0]; apply Array.ext'; simp [zrow]
            rw [e0]
            exact hfill
          simp only [opR, execOp, Instr.buildSlice, Sem.run_bind, run_underlying hu, run_sizeT hs, Result.andThen_ok, hbig, if_false, if_pos h0, Sem.run_pure, hfill', newRow, run_newObj, Sem.run_ite, Nat.reducePow]
        · simp only [opR, execOp, Instr.buildSlice, Sem.run_bind, run_underlying hu, run_sizeT hs, Result.andThen_ok, hbig, if_false, h0, hu0, Sem.run_pure, zrow_eq, hfill, newRow, run_newObj, Sem.run_ite, Nat.reducePow]
      · cases hc
    · cases hc
  · cases hc
theorem mk_mm {t : TypeId} {o : Option Operand} {ao : AO} (hc : cOp P (.makeMap t o) = some ao) (e : aop P E noCall ao fr h = .ok v h') : MkRes P ρ φ h w v h' (.makeMap t o) a.eval ty := by
  cases o with
  | some x => cases hc
  | none =>
    cases hc
    obtain ⟨n, h1, rfl, rfl⟩ := new_ok (k := fun id => .c (.mp id)) (show opMm fr h = .ok v h' from e)
    refine ⟨fun id => .mp id, _, n, .map (some w.heap.size), .map #[] 0, 0, h1, rfl, rfl, ?_, fun ψ id hx => ⟨_, _, _, hx, rfl⟩, .inr ⟨rfl, rfl, rfl⟩⟩
    simp [opR, execOp, Instr.makeMap]
theorem mk_ms (hf : FR ρ φ fr a.tmps) {t : TypeId} {x y : Operand} {ao : AO} (hc : cOp P (.makeSlice t x y) = some ao) (e : aop P E noCall ao fr h = .ok v h') : MkRes P ρ φ h w v h' (.makeSlice t x y) a.eval ty := by
  simp only [cOp] at hc
  split at hc
  · rename_i el hu
    split at hc
    · rename_i s z b ax ay hs hz hbt hx hy
      split at hc
      · rename_i hcond
        cases hc
        obtain ⟨l, h1, e1⟩ := ro_ok (show opMs z b ax ay fr h = .ok v h' from e)
        obtain ⟨c, h2, e2⟩ := ro_ok e1
        obtain ⟨hb, e3⟩ := br_ok e2
        obtain ⟨n, h3, rfl, rfl⟩ := new_ok e3
        obtain ⟨hb1, hb0, hb2⟩ := and3 hb
        have l1 : l ≤ c := Nat.le_of_ble_eq_true hb1
        have l0 : c ≤ 1048576 := Nat.le_of_ble_eq_true hb0
        have l2 : c * b ≤ 1048576 := Nat.le_of_ble_eq_true hb2
        obtain ⟨k1, h4⟩ := evN_some h1
        obtain ⟨k2, h5⟩ := evN_some h2
        have hl := eq_ofNat (cX_ok hx hf h4)
        have hcap := eq_ofNat (cX_ok hy hf h5)
        obtain ⟨u, hu0, hu1, _⟩ := run_zeroT (ρ := ρ) (φ := φ) hz
        have hzs := zeros_ok (by omega) hu1 c
        rw [hcond.2] at hzs
        obtain ⟨i, hi, hib⟩ := run_bytesT hbt
        have hlw : IntKind.i64.wrap (l : Int) = l := IntWalk.i64_in _ (by omega)
        have hcw : IntKind.i64.wrap (c : Int) = c := IntWalk.i64_in _ (by omega)
        have hbig : ¬ ((b : Int) * (c : Int) > 281474976710656) := by
          have : ((c * b : Nat) : Int) ≤ 1048576 := by omega
          have e1 : ((c * b : Nat) : Int) = (b : Int) * (c : Int) := by rw [Int.natCast_mul, Int.mul_comm]
          omega
        refine ⟨fun id => .sl id 0 l c, _, n, .slice (some ⟨w.heap.size, 0, none⟩) l c, .cells (zrow u.cells (c * s)).toArray el, (zrow u.cells (c * s)).length, h3, rfl, rfl, ?_, fun ψ id hx => ⟨_, _, _, hx, rfl⟩, .inl ⟨_, _, el, rfl, rfl, rfl, hzs⟩⟩
        simp only [opR, execOp, Instr.makeSlice, Sem.run_bind, run_underlying hu, hl, hcap, asInt, run_asIntOf, Sem.run_pure, Result.andThen_ok, typeInfo, run_program, hi, hib, hlw, hcw]
        rw [if_neg (by simp; omega)]
        simp only [Sem.run_bind, run_askRoom, Result.andThen_ok, run_sizeT hs, Int.toNat_natCast]
        by_cases h0 : c * s = 0
        · have e0 : (Array.range (c * s)).map (fun x => (#[] : Array Value)[x % (#[] : Array Value).size]!) = (zrow u.cells (c * s)).toArray := by
            rw [h0]; apply Array.ext'; simp [zrow]
          rw [if_pos h0]
          simp only [Sem.run_bind, Sem.run_pure, Result.andThen_ok, newRow, e0, run_newObj]
        · rw [if_neg h0]
          simp only [Sem.run_bind, Sem.run_pure, Result.andThen_ok, newRow, hu0, zrow_eq, run_newObj]
      · cases hc
    · cases hc
  · cases hc
end
end Go.Proofs.YtjnfgapfhpihmaaGreat
