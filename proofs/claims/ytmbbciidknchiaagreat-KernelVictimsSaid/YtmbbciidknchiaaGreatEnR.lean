/-
  A verified evaluator: an operation's evaluation depends on its operands alone. No function of the program is named here.
-/
import Derived.Test.YtmbbciidknchiaaGreatEnQ
namespace Go.Proofs.YtmbbciidknchiaaGreat
/-- the operands of a compiled operation -/
def optX : Option AX → List AX
  | some x => [x]
  | none => []
def AO.uses : AO → List AX
  | .mv x => [x]
  | .pick c x y => [c, x, y]
  | .gen _ => []
  | .bin _ x y => [x, y]
  | .not x => [x]
  | .ci _ x => [x]
  | .eqs _ x y => [x, y]
  | .eqa _ _ x y => [x, y]
  | .al _ => []
  | .bx x => [x]
  | .bd _ ps => ps.map (·.2.2)
  | .bs _ _ ps => ps.map (·.2.2)
  | .ld x => [x]
  | .ldn _ x => [x]
  | .st _ x v => [x, v]
  | .nc x => [x]
  | .mf _ l m => l ++ m
  | .ixa _ _ _ x i => [x, i]
  | .mm => []
  | .ms _ _ l c => [l, c]
  | .sll _ x a b c => [x] ++ optX a ++ optX b ++ optX c
  | .sla _ _ x a b c => [x] ++ optX a ++ optX b ++ optX c
  | .fa _ x => [x]
  | .fd _ x => [x]
  | .fdn _ _ x => [x]
  | .iaa _ _ x i => [x, i]
  | .ias _ x i => [x, i]
  | .eqn _ x y => [x, y]
  | .len x => [x]
  | .lens x => [x]
  | .cap x => [x]
  | .lk _ _ _ _ x i => [x, i]
  | .mu _ _ m k v => [m, k, v]
  | .ex x _ => [x]
  | .bts x => [x]
  | .call _ l => l
  | .cv x l => x :: l
  | .ap _ _ x y => [x, y]
  | .apz _ _ _ x y => [x, y]
  | .cp _ x y => [x, y]
  | .clr _ x => [x]
  | .no => []
section
variable {P : Program} {E : Env} {fr fr' : Fr}
theorem evs_congr : ∀ {l : List AX}, (∀ x ∈ l, ev x fr = ev x fr') → evs fr l = evs fr' l
  | [], _ => rfl
  | x :: l, h => by
    show ob (ev x fr) _ = ob (ev x fr') _
    rw [h x (by simp)]
    have := evs_congr (l := l) fun y hy => h y (by simp [hy])
    show ob (ev x fr') (fun v => ob (evs fr l) _) = ob (ev x fr') (fun v => ob (evs fr' l) _)
    rw [this]
theorem evC_congr {x : AX} (h : ev x fr = ev x fr') (f : AC → RO) : evC x fr f = evC x fr' f := by unfold evC; rw [h]
theorem evP_congr {x : AX} (h : ev x fr = ev x fr') (f : Bid → Nat → RO) : evP x fr f = evP x fr' f := by unfold evP evC; rw [h]
theorem evN_congr {x : AX} (h : ev x fr = ev x fr') : evN x fr = evN x fr' := by unfold evN; rw [h]
theorem bound_congr {d : Nat} {o : Option AX} (h : ∀ x ∈ optX o, ev x fr = ev x fr') : bound fr d o = bound fr' d o := by
  cases o with
  | none => rfl
  | some x => exact evN_congr (h x (by simp [optX]))
theorem fills_congr : ∀ {ps : List (Nat × Nat × AX)}, (∀ x ∈ ps.map (·.2.2), ev x fr = ev x fr') → fills fr ps = fills fr' ps
  | [], _ => rfl
  | p :: ps, h => by
    have h1 := fills_congr (ps := ps) fun y hy => h y (by simp at hy ⊢; exact .inr hy)
    funext z
    show fill1 fr p (fills fr ps) z = fill1 fr' p (fills fr' ps) z
    unfold fill1
    rw [h1, h p.2.2 (by simp)]
theorem aop_congr {call : CallF} {ao : AO} {h : Hp} (hu : ∀ x ∈ ao.uses, ev x fr = ev x fr') (hg : ∀ o, ao = .gen o → ∀ x ∈ o.operands.toList, (opdVal fr x = opdVal fr' x ∧ opdOk fr x = opdOk fr' x) ∧ opdAV fr x = opdAV fr' x) (hs : ∀ o, ao = .gen o → ∀ cs b, o ≠ .select cs b) : aop P E call ao fr h = aop P E call ao fr' h := by
  cases ao with
  | gen o =>
    have h1 := hg o rfl
    show ro (genAny P E o fr) _ = ro (genAny P E o fr') _
    have hm : o.operands.toList.map (opdAV fr) = o.operands.toList.map (opdAV fr') := List.map_congr_left fun x hx => (h1 x hx).2
    replace h1 := fun x hx => (h1 x hx).1
    have hrun : genRun P o fr = genRun P o fr' := ?_
    · unfold genAny
      rw [hrun, hm]
    have hall : o.operands.toList.all (opdOk fr) = o.operands.toList.all (opdOk fr') := by
      rw [Bool.eq_iff_iff, List.all_eq_true, List.all_eq_true]
      exact ⟨fun h2 x hx => by rw [← (h1 x hx).2]; exact h2 x hx, fun h2 x hx => by rw [(h1 x hx).2]; exact h2 x hx⟩
    unfold genRun
    rw [hall]
    cases hb : o.operands.toList.all (opdOk fr') with
    | false => rfl
    | true =>
      have hx : execOp (opdVal fr) ⟨none, o, 0, "", #[], none⟩ = execOp (opdVal fr') ⟨none, o, 0, "", #[], none⟩ := execOp_congr _ (fun cs b => hs o rfl cs b) fun x hx => (h1 x (by simpa using hx)).1
      rw [hx]
  | mv x => show opMv x fr h = opMv x fr' h; unfold opMv; rw [hu x (by simp [AO.uses])]
  | pick c x y => show opPick c x y fr h = opPick c x y fr' h; unfold opPick opMv; rw [evC_congr (hu c (by simp [AO.uses])), hu x (by simp [AO.uses]), hu y (by simp [AO.uses])]
  | bin op x y => show opBin E op x y fr h = opBin E op x y fr' h; unfold opBin evC; rw [hu x (by simp [AO.uses]), hu y (by simp [AO.uses])]
  | not x => show opNot x fr h = opNot x fr' h; unfold opNot; rw [evC_congr (hu x (by simp [AO.uses]))]
  | ci k x => show opCi E k x fr h = opCi E k x fr' h; unfold opCi; rw [evC_congr (hu x (by simp [AO.uses]))]
  | eqs n x y => show opEqs E n x y fr h = opEqs E n x y fr' h; unfold opEqs evC; rw [hu x (by simp [AO.uses]), hu y (by simp [AO.uses])]
  | eqa n ks x y => show opEqa E n ks x y fr h = opEqa E n ks x y fr' h; unfold opEqa; rw [hu x (by simp [AO.uses]), hu y (by simp [AO.uses])]
  | al z => rfl
  | bx x => show opBx x fr h = opBx x fr' h; unfold opBx; rw [hu x (by simp [AO.uses])]
  | bd z ps => show opBd z ps fr h = opBd z ps fr' h; unfold opBd; rw [fills_congr (fun x hx => hu x hx)]
  | bs z n ps => show opBs z n ps fr h = opBs z n ps fr' h; unfold opBs; rw [fills_congr (fun x hx => hu x hx)]
  | ld x => show opLd x fr h = opLd x fr' h; unfold opLd; rw [evP_congr (hu x (by simp [AO.uses]))]
  | ldn n x => show opLdn n x fr h = opLdn n x fr' h; unfold opLdn; rw [evP_congr (hu x (by simp [AO.uses]))]
  | st n x v => show opSt n x v fr h = opSt n x v fr' h; unfold opSt; rw [evP_congr (hu x (by simp [AO.uses])), hu v (by simp [AO.uses])]
  | nc x => show opNc x fr h = opNc x fr' h; unfold opNc; rw [evC_congr (hu x (by simp [AO.uses]))]
  | mf f l m => show opMf f l m fr h = opMf f l m fr' h; unfold opMf; rw [evs_congr (fun x hx => hu x (by simp [AO.uses, hx])), evs_congr (fun x hx => hu x (by simp [AO.uses, hx]))]
  | ixa n s g x i => show opIxa n s g x i fr h = opIxa n s g x i fr' h; unfold opIxa; rw [hu x (by simp [AO.uses]), evN_congr (hu i (by simp [AO.uses]))]
  | mm => rfl
  | ms z b l c => show opMs z b l c fr h = opMs z b l c fr' h; unfold opMs; rw [evN_congr (hu l (by simp [AO.uses])), evN_congr (hu c (by simp [AO.uses]))]
  | sll s x lo hi mx =>
    show opSll s x lo hi mx fr h = opSll s x lo hi mx fr' h
    have h1 : ∀ d, bound fr d lo = bound fr' d lo := fun d => bound_congr fun y hy => hu y (by simp [AO.uses, hy])
    have h2 : ∀ d, bound fr d hi = bound fr' d hi := fun d => bound_congr fun y hy => hu y (by simp [AO.uses, hy])
    have h3 : ∀ d, bound fr d mx = bound fr' d mx := fun d => bound_congr fun y hy => hu y (by simp [AO.uses, hy])
    have h4 : ∀ m, mx = some m → evN m fr = evN m fr' := fun m hm => evN_congr (hu m (by simp [AO.uses, hm, optX]))
    unfold opSll
    rw [evC_congr (hu x (by simp [AO.uses]))]
    simp only [h1, h2, h3]
    cases mx with
    | none => rfl
    | some m => simp only [h4 m rfl]
  | sla n s x lo hi mx =>
    show opSla n s x lo hi mx fr h = opSla n s x lo hi mx fr' h
    have h1 : ∀ d, bound fr d lo = bound fr' d lo := fun d => bound_congr fun y hy => hu y (by simp [AO.uses, hy])
    have h2 : ∀ d, bound fr d hi = bound fr' d hi := fun d => bound_congr fun y hy => hu y (by simp [AO.uses, hy])
    have h3 : ∀ d, bound fr d mx = bound fr' d mx := fun d => bound_congr fun y hy => hu y (by simp [AO.uses, hy])
    unfold opSla
    rw [evP_congr (hu x (by simp [AO.uses]))]
    simp only [h1, h2, h3]
  | fa o x => show opFa o x fr h = opFa o x fr' h; unfold opFa; rw [evP_congr (hu x (by simp [AO.uses]))]
  | fd o x => show opFd o x fr h = opFd o x fr' h; unfold opFd; rw [hu x (by simp [AO.uses])]
  | fdn o n x => show opFdn o n x fr h = opFdn o n x fr' h; unfold opFdn; rw [hu x (by simp [AO.uses])]
  | iaa n s x i => show opIaa n s x i fr h = opIaa n s x i fr' h; unfold opIaa; rw [evP_congr (hu x (by simp [AO.uses])), evN_congr (hu i (by simp [AO.uses]))]
  | ias s x i => show opIas s x i fr h = opIas s x i fr' h; unfold opIas; rw [evC_congr (hu x (by simp [AO.uses])), evN_congr (hu i (by simp [AO.uses]))]
  | eqn n x y => show opEqn n x y fr h = opEqn n x y fr' h; unfold opEqn evC; rw [hu x (by simp [AO.uses]), hu y (by simp [AO.uses])]
  | len x => show opLen x fr h = opLen x fr' h; unfold opLen; rw [evC_congr (hu x (by simp [AO.uses]))]
  | lens x => show opLens E x fr h = opLens E x fr' h; unfold opLens; rw [evC_congr (hu x (by simp [AO.uses]))]
  | cap x => show opCap x fr h = opCap x fr' h; unfold opCap; rw [evC_congr (hu x (by simp [AO.uses]))]
  | lk z ok ag ks x i => show opLk E z ok ag ks x i fr h = opLk E z ok ag ks x i fr' h; unfold opLk; rw [evC_congr (hu x (by simp [AO.uses])), hu i (by simp [AO.uses])]
  | mu ag ks m k v => show opMu E ag ks m k v fr h = opMu E ag ks m k v fr' h; unfold opMu; rw [evC_congr (hu m (by simp [AO.uses])), hu k (by simp [AO.uses]), hu v (by simp [AO.uses])]
  | ex x i => show opEx x i fr h = opEx x i fr' h; unfold opEx; rw [hu x (by simp [AO.uses])]
  | bts x => show opBts x fr h = opBts x fr' h; unfold opBts; rw [evC_congr (hu x (by simp [AO.uses]))]
  | call f l => show opCall call f l fr h = opCall call f l fr' h; unfold opCall; rw [evs_congr (l := l) (fun x hx => hu x hx)]
  | cv x l => show opCv call x l fr h = opCv call x l fr' h; unfold opCv; rw [evC_congr (hu x (by simp [AO.uses])), evs_congr (fun y hy => hu y (by simp [AO.uses, hy]))]
  | ap s b x y => show opAp s b x y fr h = opAp s b x y fr' h; unfold opAp evC; rw [hu x (by simp [AO.uses]), hu y (by simp [AO.uses])]
  | apz s b z x y => show opApz s b z x y fr h = opApz s b z x y fr' h; unfold opApz; rw [evC_congr (hu x (by simp [AO.uses])), evN_congr (hu y (by simp [AO.uses]))]
  | cp s x y => show opCp s x y fr h = opCp s x y fr' h; unfold opCp evC; rw [hu x (by simp [AO.uses]), hu y (by simp [AO.uses])]
  | clr z x => show opClr z x fr h = opClr z x fr' h; unfold opClr; rw [evC_congr (hu x (by simp [AO.uses]))]
  | no => rfl
theorem cXs_mem : ∀ {xs : List Operand} {l : List AX}, cXs xs = some l → ∀ y ∈ l, ∃ x ∈ xs, cX x = some y
  | [], l, e, y, hy => by cases e; cases hy
  | x :: xs, l, e, y, hy => by
    simp only [cXs] at e
    cases h1 : cX x with
    | none => rw [h1] at e; cases e
    | some ax =>
      rw [h1] at e
      dsimp only at e
      cases h2 : cXs xs with
      | none => rw [h2] at e; cases e
      | some m =>
        rw [h2] at e
        cases e
        rcases List.mem_cons.1 hy with rfl | hy
        · exact ⟨x, by simp, h1⟩
        · obtain ⟨z, h3, h4⟩ := cXs_mem h2 y hy
          exact ⟨z, by simp [h3], h4⟩
theorem cParts_mem {place : Nat → Option (Nat × Nat)} : ∀ {xs : List (Nat × Operand)} {l : List (Nat × Nat × AX)}, cParts place xs = some l → ∀ y ∈ l.map (·.2.2), ∃ x ∈ xs.map (·.2), cX x = some y
  | [], l, e, y, hy => by cases e; cases hy
  | (i, x) :: xs, l, e, y, hy => by
    simp only [cParts] at e
    split at e
    · rename_i o s ax ps h1 h2 h3
      cases e
      simp only [List.map_cons, List.mem_cons] at hy
      rcases hy with rfl | hy
      · exact ⟨x, by simp, h2⟩
      · obtain ⟨z, h4, h5⟩ := cParts_mem h3 y hy
        exact ⟨z, by simp at h4 ⊢; exact .inr h4, h5⟩
    · cases e
theorem cO_mem {o : Option Operand} {ao : Option AX} (e : cO o = some ao) : ∀ y ∈ optX ao, ∃ x, o = some x ∧ cX x = some y := by
  cases o with
  | none => cases e; intro y hy; cases hy
  | some x =>
    simp only [cO] at e
    cases h1 : cX x with
    | none => rw [h1] at e; cases e
    | some ax =>
      rw [h1] at e
      cases e
      intro y hy
      simp [optX] at hy
      subst hy
      exact ⟨x, rfl, h1⟩
/-- the compiled operation uses the operation's operands -/
def Uses (op : Op) (ao : AO) : Prop := (∀ y ∈ ao.uses, (∃ v, y = .k v) ∨ ∃ x ∈ op.operands.toList, cX x = some y) ∧ ∀ o, ao = .gen o → o.operands = op.operands ∧ ∀ cs b, o ≠ .select cs b
theorem Uses.one {op : Op} {ao : AO} {x : Operand} {ax : AX} (hu : ao.uses = [ax]) (hg : ∀ o, ao ≠ .gen o) (hx : cX x = some ax) (ho : x ∈ op.operands.toList) : Uses op ao :=
  ⟨fun y hy => by rw [hu] at hy; simp at hy; subst hy; exact .inr ⟨x, ho, hx⟩, fun o e => absurd e (hg o)⟩
theorem Uses.two {op : Op} {ao : AO} {x y : Operand} {ax ay : AX} (hu : ao.uses = [ax, ay]) (hg : ∀ o, ao ≠ .gen o) (hx : cX x = some ax) (hy : cX y = some ay) (h1 : x ∈ op.operands.toList) (h2 : y ∈ op.operands.toList) : Uses op ao :=
  ⟨fun z hz => by
    rw [hu] at hz; simp at hz
    rcases hz with rfl | rfl
    · exact .inr ⟨x, h1, hx⟩
    · exact .inr ⟨y, h2, hy⟩, fun o e => absurd e (hg o)⟩
theorem Uses.three {op : Op} {ao : AO} {x y z : Operand} {ax ay az : AX} (hu : ao.uses = [ax, ay, az]) (hg : ∀ o, ao ≠ .gen o) (hx : cX x = some ax) (hy : cX y = some ay) (hz : cX z = some az) (h1 : x ∈ op.operands.toList) (h2 : y ∈ op.operands.toList) (h3 : z ∈ op.operands.toList) : Uses op ao :=
  ⟨fun q hq => by
    rw [hu] at hq; simp at hq
    rcases hq with rfl | rfl | rfl
    · exact .inr ⟨x, h1, hx⟩
    · exact .inr ⟨y, h2, hy⟩
    · exact .inr ⟨z, h3, hz⟩, fun o e => absurd e (hg o)⟩
theorem Uses.gen {op o : Op} (h : o.operands = op.operands) (hs : ∀ cs b, o ≠ .select cs b) : Uses op (.gen o) :=
  ⟨fun y hy => (by cases hy), fun o' e => (by cases e; exact ⟨h, hs⟩)⟩
theorem opsMem {x : Operand} {l : List Operand} (h : x ∈ l) : x ∈ l := h
theorem uses_ok {op : Op} {ao : AO} (hc : cOp P op = some ao) : Uses op ao := by
  cases op with
  | move x => obtain ⟨ax, hx, rfl⟩ := map_some (show (cX x).map AO.mv = some ao from hc); exact .one rfl (fun _ => by simp) hx (by simp [Op.operands])
  | assign x => obtain ⟨ax, hx, rfl⟩ := map_some (show (cX x).map AO.mv = some ao from hc); exact .one rfl (fun _ => by simp) hx (by simp [Op.operands])
  | pick c x y =>
    simp only [cOp] at hc
    split at hc
    · rename_i a b d h1 h2 h3; cases hc; exact .three rfl (fun _ => by simp) h1 h2 h3 (by simp [Op.operands]) (by simp [Op.operands]) (by simp [Op.operands])
    · cases hc
  | alloc t => obtain ⟨z, hz, rfl⟩ := map_some (show (zeroOf P t).map AO.al = some ao from hc); exact ⟨fun y hy => (by cases hy), fun o e => (by cases e)⟩
  | box t x => obtain ⟨ax, hx, rfl⟩ := map_some (show (cX x).map AO.bx = some ao from hc); exact .one rfl (fun _ => by simp) hx (by simp [Op.operands])
  | build t ps =>
    simp only [cOp] at hc
    have go : ∀ {place : Nat → Option (Nat × Nat)} {z : List AC} {l : List (Nat × Nat × AX)}, cParts place ps.toList = some l → Uses (.build t ps) (.bd z l) := by
      intro place z l hl
      refine ⟨fun y hy => ?_, fun o e => (by cases e)⟩
      obtain ⟨x, h1, h2⟩ := cParts_mem hl y hy
      exact .inr ⟨x, by simpa [Op.operands] using h1, h2⟩
    split at hc
    · split at hc
      · obtain ⟨l, hl, rfl⟩ := map_some hc; exact go hl
      · cases hc
    · split at hc
      · obtain ⟨l, hl, rfl⟩ := map_some hc; exact go hl
      · cases hc
    · cases hc
  | buildSlice t n ps =>
    simp only [cOp] at hc
    split at hc
    · split at hc
      · split at hc
        · obtain ⟨l, hl, rfl⟩ := map_some hc
          refine ⟨fun y hy => ?_, fun o e => (by cases e)⟩
          obtain ⟨x, h1, h2⟩ := cParts_mem hl y hy
          exact .inr ⟨x, by simpa [Op.operands] using h1, h2⟩
        · cases hc
      · cases hc
    · cases hc
  | load t x =>
    simp only [cOp] at hc
    split at hc
    · rename_i h1 h2 h3; cases hc; exact .one rfl (fun _ => by simp) h3 (by simp [Op.operands])
    · rename_i h1 h2 h3; cases hc; exact .one rfl (fun _ => by simp) h3 (by simp [Op.operands])
    · rename_i h1 h2 h3; cases hc; exact .one rfl (fun _ => by simp) h3 (by simp [Op.operands])
    · cases hc
  | store t x y =>
    simp only [cOp] at hc
    split at hc
    · rename_i h1 h2 h3; cases hc; exact .two rfl (fun _ => by simp) h2 h3 (by simp [Op.operands]) (by simp [Op.operands])
    · cases hc
  | nilCheck x => obtain ⟨ax, hx, rfl⟩ := map_some (show (cX x).map AO.nc = some ao from hc); exact .one rfl (fun _ => by simp) hx (by simp [Op.operands])
  | binOp op t x y u =>
    have hg : Uses (.binOp op t x y u) (.gen (.binOp op t x y 0)) := .gen rfl (fun _ _ => by simp)
    have h2 : ∀ {ao : AO} {ax ay : AX}, ao.uses = [ax, ay] → (∀ o, ao ≠ .gen o) → cX x = some ax → cX y = some ay → Uses (.binOp op t x y u) ao := fun h1 h2 h3 h4 => .two h1 h2 h3 h4 (by simp [Op.operands]) (by simp [Op.operands])
    have hq : ∀ {neg : Bool}, cEqa P neg t x y = some ao → Uses (.binOp op t x y u) ao := by
      intro neg hc
      unfold cEqa at hc
      split at hc
      · cases hc
      · split at hc
        · rename_i h3 h4 h5
          split at hc
          · cases hc; exact h2 rfl (fun _ => by simp) h4 h5
          · cases hc
        · cases hc
    simp only [cOp] at hc
    split at hc
    · cases hc; exact hg
    · cases hc; exact hg
    · cases hc; exact hg
    · cases hc; exact hg
    · cases hc; exact hg
    · cases hc; exact hg
    · cases hc; exact hg
    · cases hc; exact hg
    · split at hc
      · rename_i h3 h4; cases hc; exact h2 rfl (fun _ => by simp) h3 h4
      · cases hc
    · split at hc
      · rename_i h3 h4; cases hc; exact h2 rfl (fun _ => by simp) h3 h4
      · cases hc
    · split at hc
      · rename_i h3 h4; cases hc; exact h2 rfl (fun _ => by simp) h3 h4
      · cases hc
    · exact hq hc
    · exact hq hc
    · split at hc
      · rename_i h3 h4; cases hc; exact h2 rfl (fun _ => by simp) h3 h4
      · cases hc
    · split at hc
      · rename_i h3 h4; cases hc; exact h2 rfl (fun _ => by simp) h3 h4
      · cases hc
    · cases hc; exact hg
    · cases hc
  | unOp op t x =>
    cases op with
    | not => obtain ⟨ax, hx, rfl⟩ := map_some (show (cX x).map AO.not = some ao from hc); exact .one rfl (fun _ => by simp) hx (by simp [Op.operands])
    | _ => cases hc; exact .gen rfl (fun _ _ => by simp)
  | convert s d x =>
    simp only [cOp] at hc
    split at hc
    · cases hc
    · obtain ⟨ax, hx, rfl⟩ := map_some hc; exact .one rfl (fun _ => by simp) hx (by simp [Op.operands])
    · cases hc; exact .gen rfl (fun _ _ => by simp)
    · cases hc
  | makeFunc fn first caps =>
    cases fn with
    | func f =>
      simp only [cOp] at hc
      split at hc
      · rename_i h1 h2 h3
        cases hc
        refine ⟨fun y hy => ?_, fun o e => (by cases e)⟩
        rcases List.mem_append.1 hy with hy | hy
        · obtain ⟨x, h4, h5⟩ := cXs_mem h2 y hy; exact .inr ⟨x, by simp [Op.operands]; exact .inl (by simpa using h4), h5⟩
        · obtain ⟨x, h4, h5⟩ := cXs_mem h3 y hy; exact .inr ⟨x, by simp [Op.operands]; exact .inr (by simpa using h4), h5⟩
      · cases hc
    | _ => cases hc
  | makeMap t o =>
    cases o with
    | none => cases hc; exact ⟨fun y hy => (by cases hy), fun o e => (by cases e)⟩
    | some x => cases hc
  | makeSlice t x y =>
    simp only [cOp] at hc
    split at hc
    · split at hc
      · rename_i h1 h2 h3 h4 h5
        split at hc
        · cases hc; exact .two rfl (fun _ => by simp) h4 h5 (by simp [Op.operands]) (by simp [Op.operands])
        · cases hc
      · cases hc
    · cases hc
  | slice t x lo hi mx =>
    simp only [cOp] at hc
    split at hc
    · cases hc
    · have go : ∀ {ao : AO} {ax : AX} {a b c : Option AX}, ao.uses = [ax] ++ optX a ++ optX b ++ optX c → (∀ o, ao ≠ .gen o) → cX x = some ax → cO lo = some a → cO hi = some b → cO mx = some c → Uses (.slice t x lo hi mx) ao := by
        intro ao ax a b c hu hg hx ha hb hcc
        refine ⟨fun y hy => ?_, fun o e => absurd e (hg o)⟩
        rw [hu] at hy
        simp only [List.mem_append, List.mem_singleton] at hy
        rcases hy with ((rfl | hy) | hy) | hy
        · exact .inr ⟨x, by simp [Op.operands], hx⟩
        · obtain ⟨z, rfl, h2⟩ := cO_mem ha y hy; exact .inr ⟨z, by simp [Op.operands], h2⟩
        · obtain ⟨z, rfl, h2⟩ := cO_mem hb y hy; exact .inr ⟨z, by simp [Op.operands], h2⟩
        · obtain ⟨z, rfl, h2⟩ := cO_mem hcc y hy; exact .inr ⟨z, by simp [Op.operands], h2⟩
      split at hc
      · rename_i h1 h2 h3 h4 h5; obtain ⟨s, _, rfl⟩ := map_some hc; exact go rfl (fun _ => by simp) h2 h3 h4 h5
      · rename_i h1 h2 h3 h4 h5; obtain ⟨s, _, rfl⟩ := map_some hc; exact go rfl (fun _ => by simp) h2 h3 h4 h5
      · cases hc; exact .gen rfl (fun _ _ => by simp)
      · cases hc
  | fieldAddr s x f =>
    simp only [cOp] at hc
    split at hc
    · rename_i h1 h2
      split at hc
      · split at hc
        · split at hc
          · cases hc; exact .one rfl (fun _ => by simp) h2 (by simp [Op.operands])
          · cases hc
        · cases hc
      · cases hc
    · cases hc
  | field t x f =>
    simp only [cOp] at hc
    split at hc
    · rename_i h1 h2
      split at hc
      · split at hc
        · cases hc; exact .one rfl (fun _ => by simp) h2 (by simp [Op.operands])
        · cases hc; exact .one rfl (fun _ => by simp) h2 (by simp [Op.operands])
        · cases hc; exact .one rfl (fun _ => by simp) h2 (by simp [Op.operands])
        · cases hc
      · cases hc
    · cases hc
  | indexAddr t x i =>
    simp only [cOp] at hc
    split at hc
    · rename_i h1 h2 h3; obtain ⟨s, _, rfl⟩ := map_some hc; exact .two rfl (fun _ => by simp) h2 h3 (by simp [Op.operands]) (by simp [Op.operands])
    · rename_i h1 h2 h3; obtain ⟨s, _, rfl⟩ := map_some hc; exact .two rfl (fun _ => by simp) h2 h3 (by simp [Op.operands]) (by simp [Op.operands])
    · cases hc
  | index t x i =>
    simp only [cOp] at hc
    split at hc
    · rename_i h1 h2 h3
      split at hc
      · cases hc; exact .two rfl (fun _ => by simp) h2 h3 (by simp [Op.operands]) (by simp [Op.operands])
      · cases hc; exact .two rfl (fun _ => by simp) h2 h3 (by simp [Op.operands]) (by simp [Op.operands])
      · cases hc; exact .two rfl (fun _ => by simp) h2 h3 (by simp [Op.operands]) (by simp [Op.operands])
      · cases hc
    · cases hc; exact .gen rfl (fun _ _ => by simp)
    · cases hc
  | lookup t x i ok =>
    simp only [cOp] at hc
    split at hc
    · rename_i h1 h2 h3
      split at hc
      · cases hc; exact .two rfl (fun _ => by simp) h2 h3 (by simp [Op.operands]) (by simp [Op.operands])
      · cases hc
    · cases hc
  | mapUpdate t m k x =>
    have hc' : cMu P t m k x = some ao := hc
    unfold cMu at hc'
    split at hc'
    · rename_i h1 h2 h3 h4
      split at hc'
      · cases hc'; exact .three rfl (fun _ => by simp) h2 h3 h4 (by simp [Op.operands]) (by simp [Op.operands]) (by simp [Op.operands])
      · cases hc'
    · cases hc'
  | insert t m k x =>
    have hc' : cMu P t m k x = some ao := hc
    unfold cMu at hc'
    split at hc'
    · rename_i h1 h2 h3 h4
      split at hc'
      · cases hc'; exact .three rfl (fun _ => by simp) h2 h3 h4 (by simp [Op.operands]) (by simp [Op.operands]) (by simp [Op.operands])
      · cases hc'
    · cases hc'
  | extract x i => obtain ⟨ax, hx, rfl⟩ := map_some (show (cX x).map (fun x => AO.ex x i) = some ao from hc); exact .one rfl (fun _ => by simp) hx (by simp [Op.operands])
  | call c =>
    have mem : ∀ x ∈ c.args.toList, x ∈ (Op.call c).operands.toList := fun x hx => by
      simp only [Op.operands, Call.operands]
      simp at hx ⊢
      exact .inr hx
    have ap : ∀ {el : TypeId} {x y : Operand} {ax ay : AX}, c.args.toList = [x, y] → cX x = some ax → cX y = some ay → cAp P el ax ay = some ao → Uses (.call c) ao := by
      intro el x y ax ay ha hx hy hc
      unfold cAp at hc
      split at hc
      · split at hc
        · cases hc; exact .two rfl (fun _ => by simp) hx hy (mem x (by simp [ha])) (mem y (by simp [ha]))
        · cases hc
      · cases hc
    simp only [cOp] at hc
    split at hc
    · split at hc
      · split at hc
        · split at hc
          · rename_i h1 h2
            cases hc
            refine ⟨fun y hy => ?_, fun o e => (by cases e)⟩
            obtain ⟨x, h3, h4⟩ := cXs_mem h2 y hy
            exact .inr ⟨x, mem x h3, h4⟩
          · cases hc
        · cases hc
      · cases hc
    · rename_i x hnf hcal
      split at hc
      · rename_i h1 h2
        cases hc
        refine ⟨fun y hy => ?_, fun o e => (by cases e)⟩
        rcases List.mem_cons.1 hy with rfl | hy
        · exact .inr ⟨x, by simp [Op.operands, Call.operands, hcal], h1⟩
        · obtain ⟨z, h3, h4⟩ := cXs_mem h2 y hy
          exact .inr ⟨z, mem z h3, h4⟩
      · cases hc
    · rename_i x y tx ty' hcal hargs hty
      split at hc
      · rename_i h1 h2 h3 h4
        split at hc
        · split at hc
          · cases hc; exact .two rfl (fun _ => by simp) h3 h4 (mem x (by simp [hargs])) (mem y (by simp [hargs]))
          · cases hc
        · cases hc
      · rename_i h1 h2 h3 h4; exact ap hargs h3 h4 hc
      · rename_i h1 h2 h3 h4; exact ap hargs h3 h4 hc
      · cases hc
    · rename_i x t hcal hargs hty
      split at hc
      · rename_i h1 h2; cases hc; exact .one rfl (fun _ => by simp) h2 (mem x (by simp [hargs]))
      · rename_i h1 h2; cases hc; exact .one rfl (fun _ => by simp) h2 (mem x (by simp [hargs]))
      · cases hc; exact ⟨fun y hy => .inl (by simp [AO.uses] at hy; exact ⟨_, hy⟩), fun o e => (by cases e)⟩
      · cases hc
    · rename_i x t hcal hargs hty
      split at hc
      · rename_i h1 h2; cases hc; exact .one rfl (fun _ => by simp) h2 (mem x (by simp [hargs]))
      · cases hc
    · rename_i x y tx ts hcal hargs hty
      split at hc
      · rename_i h1 h2 h3
        obtain ⟨s, hs, rfl⟩ := map_some hc
        exact .two rfl (fun _ => by simp) h2 h3 (mem x (by simp [hargs])) (mem y (by simp [hargs]))
      · cases hc
    · rename_i x t hcal hargs hty
      split at hc
      · rename_i h1 h2
        split at hc
        · split at hc
          · cases hc; exact .one rfl (fun _ => by simp) h2 (mem x (by simp [hargs]))
          · cases hc
        · cases hc
      · cases hc
    · cases hc; exact .gen rfl (fun _ _ => by simp)
    · cases hc; exact .gen rfl (fun _ _ => by simp)
    · cases hc
  | _ => cases hc
/-- two frames agree on what an operation looks at -/
def Agree (ops : Array Oper) (o : Oper) (fr fr' : Fr) : Prop := ∀ t ∈ looks ops o, ∀ p, tmpOf t = some p → getF p.1 p.2 fr = getF p.1 p.2 fr'
theorem aop_agree {ops : Array Oper} {o : Oper} {ao : AO} (hc : cOp P o.op = some ao) (hag : Agree ops o fr fr') (call : CallF) (h : Hp) : aop P E call ao fr h = aop P E call ao fr' h := by
  obtain ⟨h1, h2⟩ := uses_ok hc
  have mem : ∀ t, Operand.tmp t ∈ o.op.operands.toList → t ∈ looks ops o := fun t ht => List.mem_append_left _ (List.mem_filterMap.2 ⟨.tmp t, ht, rfl⟩)
  refine aop_congr (fun y hy => ?_) (fun q hq x hx => ?_) (fun q hq => (h2 q hq).2)
  · rcases h1 y hy with ⟨v, rfl⟩ | ⟨x, hx, hcx⟩
    · rfl
    · cases x with
      | tmp t =>
        simp only [cX] at hcx
        cases ht : tmpOf t with
        | none => rw [ht] at hcx; cases hcx
        | some p => rw [ht] at hcx; cases hcx; exact hag t (mem t hx) p ht
      | const u =>
        simp only [cX] at hcx
        cases hu : AV.of u with
        | none => rw [hu] at hcx; cases hcx
        | some b => rw [hu] at hcx; cases hcx; rfl
      | global g => cases hcx
      | func f =>
        simp only [cX] at hcx
        cases hb : Bid.of f with
        | none => rw [hb] at hcx; cases hcx
        | some b => rw [hb] at hcx; cases hcx; rfl
  · rw [(h2 q hq).1] at hx
    cases x with
    | tmp t =>
      simp only [opdVal, opdOk, opdAV]
      cases ht : tmpOf t with
      | none => exact ⟨⟨rfl, rfl⟩, rfl⟩
      | some p => simp only [hag t (mem t hx) p ht]; exact ⟨⟨trivial, trivial⟩, trivial⟩
    | const u => exact ⟨⟨rfl, rfl⟩, rfl⟩
    | global g => exact ⟨⟨rfl, rfl⟩, rfl⟩
    | func f => exact ⟨⟨rfl, rfl⟩, rfl⟩
theorem wanted_agree {N : Nat} {ops : Array Oper} {o : Oper} {ao : AOp} (hc : cOper P N ops o = some ao) (hag : Agree ops o fr fr') : wantedA fr ao.guard = wantedA fr' ao.guard := by
  rcases (cOper_ok hc).2.2 with ⟨h1, h2⟩ | ⟨j, want, g, t, p, h1, h2, h3, h4, h5⟩
  · rw [h2]; rfl
  · rw [h5]
    show ob (getF p.1 p.2 fr) _ = ob (getF p.1 p.2 fr') _
    rw [hag t (List.mem_append_right _ (by simp [h1, h2, h3])) p h4]
end
end Go.Proofs.YtmbbciidknchiaaGreat
