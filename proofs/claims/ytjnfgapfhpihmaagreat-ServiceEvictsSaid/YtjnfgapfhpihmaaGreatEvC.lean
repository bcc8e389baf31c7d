/-
  A verified evaluator of the model: EvC.
-/
import Derived.Test.YtjnfgapfhpihmaaGreatEvB
import Derived.Deep.AppendSrc
import Derived.Lib.AppendZerosOnto
import Derived.Deep.DeepAppendWide
set_option linter.unusedVariables false
set_option linter.unusedSimpArgs false
namespace Go.Proofs.YtjnfgapfhpihmaaGreat
section
variable {P : Program} {E : Env} {ρ : Vn} {φ : Emb} {fr : Fr} {a : Act} {h h' : Hp} {w : World} {v : AV} {ty : TypeId}
theorem over_fold (off : Nat) : ∀ (new : List Value) (k : Nat) (cs : Array Value), off + k + new.length ≤ cs.size → (new.zipIdx k).foldl (fun (cs : Array Value) (p : Value × Nat) => cs.setIfInBounds (off + p.2) p.1) cs = (cs.toList.take (off + k) ++ new ++ cs.toList.drop (off + k + new.length)).toArray
  | [], k, cs, _ => by simp
  | x :: new, k, cs, hl => by
    simp only [List.zipIdx_cons, List.foldl_cons]
    rw [over_fold off new (k + 1) _ (by simp at hl ⊢; omega)]
    have e := list_seg_step cs.toList (off + k) x new (by simp at hl ⊢; omega)
    congr 1
    simpa [Array.toList_setIfInBounds, Nat.add_assoc] using e
theorem fill_over (new : Array Value) (off : Nat) (cs : Array Value) (hl : off + new.size ≤ cs.size) : new.zipIdx.foldl (fun (cs : Array Value) (p : Value × Nat) => cs.setIfInBounds (off + p.2) p.1) cs = (cs.toList.take off ++ new.toList ++ cs.toList.drop (off + new.size)).toArray := by
  have := over_fold off new.toList 0 cs (by simpa using hl)
  rw [← Array.foldl_toList, Array.toList_zipIdx]
  simpa using this
theorem fills_ok (hf : FR ρ φ fr a.tmps) {place : Nat → Option (Nat × Nat)} : ∀ {parts : List (Nat × Operand)} {ps : List (Nat × Nat × AX)} {z l : List AC} {zs : List Value}, cParts place parts = some ps → fills fr ps z = some l → All2 (VC ρ φ) z zs →
    ∃ cs : List Value, Instr.fill place zs.toArray (parts.map fun p => (p.1, a.eval p.2)) = some cs.toArray ∧ All2 (VC ρ φ) l cs
  | [], ps, z, l, zs, hc, he, hz => by cases hc; cases he; exact ⟨zs, rfl, hz⟩
  | (i, x) :: parts, ps, z, l, zs, hc, he, hz => by
    simp only [cParts] at hc
    split at hc
    · rename_i off size ax rest hp hx hr
      cases hc
      obtain ⟨v, h1, e1⟩ := ob_some (show fill1 fr (off, size, ax) (fills fr rest) z = some l from he)
      obtain ⟨m, h2, e2⟩ := ob_some e1
      obtain ⟨hb, e3⟩ := bo_some e2
      obtain ⟨z2, h3, e4⟩ := ob_some e3
      have hm := (cX_ok hx hf h1).cells h2
      have hlen := hm.length
      have hsz : m.length = size := Nat.eq_of_beq_eq_true hb
      obtain ⟨h5, h6⟩ := lovers_some h3
      have hzl := hz.length
      have hsize : (a.eval x).cells.size = size := by rw [← hsz, hlen]; simp
      have hz2 : All2 (VC ρ φ) z2 (zs.take off ++ (a.eval x).cells.toList ++ zs.drop (off + m.length)) := by
        rw [h5]
        exact ((hz.take off).append hm).append (hz.drop _)
      obtain ⟨cs, h7, h8⟩ := fills_ok hf hr e4 hz2
      refine ⟨cs, ?_, h8⟩
      simp only [List.map_cons, Instr.fill, hp]
      rw [if_neg (by simp [hsize]; omega), fill_over _ _ _ (by simp [hsize]; omega)]
      rw [hsz] at h7
      simpa [hsize] using h7
    · cases hc
theorem run_zeroT {t : TypeId} {z : List AC} (e : zeroOf P t = some z) : ∃ u, (∀ w, (zeroValue t).run P w = .ok u w) ∧ All2 (VC ρ φ) z u.cells.toList ∧ ∃ i, P.info? t = some i ∧ i.zero = some u := by
  unfold zeroOf at e
  cases hi : P.info? t with
  | none => rw [hi] at e; cases e
  | some i =>
    rw [hi] at e
    dsimp only at e
    cases hz : i.zero with
    | none => rw [hz] at e; cases e
    | some u =>
      rw [hz] at e
      dsimp only at e
      cases ha : AV.of u with
      | none => rw [ha] at e; cases e
      | some b =>
        rw [ha] at e
        exact ⟨u, fun w => by simp [zeroValue, typeInfo, hi, hz], (AV.of_ok ha).cells e, i, rfl, hz⟩
theorem run_places : ∀ {fs : List Field} {pl : List (Nat × Nat)}, placesOf P fs = some pl → ∀ w, (fs.mapM (fun (f : Field) => do pure (f.offset, ← sizeOf f.type)) : Sem (List (Nat × Nat))).run P w = .ok pl w
  | [], pl, e, w => by cases e; rfl
  | f :: fs, pl, e, w => by
    simp only [placesOf] at e
    split at e
    · rename_i s l hs hl
      cases e
      rw [List.mapM_cons]
      simp only [Sem.run_bind, run_sizeT hs, Result.andThen_ok, Sem.run_pure, run_places hl w]
    · cases e
theorem snd_build (t : TypeId) (parts : Array (Nat × Operand)) : Snd P E (.build t parts) := by
  intro ao hc ρ φ fr a h w v h' ty g e
  simp only [cOp] at hc
  have hparts : (parts.map fun x => (x.1, a.eval x.2)).toList = parts.toList.map fun p => (p.1, a.eval p.2) := by simp
  split at hc
  · rename_i fs z hu hz
    split at hc
    · rename_i pl hpl
      obtain ⟨ps, hps, rfl⟩ := map_some hc
      obtain ⟨l, h1, e1⟩ := ro_ok (show opBd z ps fr h = .ok v h' from e)
      cases e1
      obtain ⟨u, hu0, hu1, _⟩ := run_zeroT (ρ := ρ) (φ := φ) hz
      obtain ⟨cs, h2, h3⟩ := fills_ok g.fr hps h1 hu1
      refine Res.val g.rel (v := .a l) (u := .agg cs.toArray) ⟨cs, rfl, h3⟩ ?_
      have hpl' := run_places hpl w
      have hfill : Instr.fill (fun i => (pl.toArray)[i]?) u.cells (parts.map fun x => (x.1, a.eval x.2)).toList = some cs.toArray := by
        rw [hparts]
        simpa using h2
      simp only [opR, execOp, Instr.build, Sem.run_bind, hu0, Result.andThen_ok, run_underlying hu]
      rw [Array.mapM_eq_mapM_toList]
      simp only [Sem.run_map, Sem.run_bind, hpl', Result.andThen_ok]
      simp only [hfill]
      rfl
    · cases hc
  · rename_i n el z hu hz
    split at hc
    · rename_i s hs
      obtain ⟨ps, hps, rfl⟩ := map_some hc
      obtain ⟨l, h1, e1⟩ := ro_ok (show opBd z ps fr h = .ok v h' from e)
      cases e1
      obtain ⟨u, hu0, hu1, _⟩ := run_zeroT (ρ := ρ) (φ := φ) hz
      obtain ⟨cs, h2, h3⟩ := fills_ok g.fr hps h1 hu1
      refine Res.val g.rel (v := .a l) (u := .agg cs.toArray) ⟨cs, rfl, h3⟩ ?_
      have hfill : Instr.fill (fun i => some (i * s, s)) u.cells (parts.map fun x => (x.1, a.eval x.2)).toList = some cs.toArray := by
        rw [hparts]
        simpa using h2
      simp only [opR, execOp, Instr.build, Sem.run_bind, hu0, Result.andThen_ok, run_underlying hu, run_sizeT hs, hfill]
      rfl
    · cases hc
  · cases hc
theorem bound_ok {d n : Nat} {o : Option Operand} {ao : Option AX} (hf : FR ρ φ fr a.tmps) (hc : cO o = some ao) (e : bound fr d ao = some n) : (o = none ∧ ao = none ∧ n = d) ∨ (∃ x k, o = some x ∧ ao.isSome ∧ a.eval x = .int k n) := by
  cases o with
  | none => cases hc; cases e; exact .inl ⟨rfl, rfl, rfl⟩
  | some x =>
    simp only [cO] at hc
    cases hx : cX x with
    | none => rw [hx] at hc; cases hc
    | some ax =>
      rw [hx] at hc
      cases hc
      obtain ⟨k, h1⟩ := evN_some e
      exact .inr ⟨x, k, rfl, rfl, eq_ofNat (cX_ok hx hf h1)⟩
theorem run_sliceBound {k : IntKind} {n y : Nat} (hn : n ≤ y) (code : BoundsCode) : (Instr.sliceBound (.int k n) y code).run P w = .ok n w := by
  simp [Instr.sliceBound, run_asIntOf, hn]
theorem run_bounds (hf : FR ρ φ fr a.tmps) {isS : Bool} {len cap l e m dm : Nat} {lo hi mx : Option Operand} {alo ahi amx : Option AX} (hlo : cO lo = some alo) (hhi : cO hi = some ahi) (hmx : cO mx = some amx)
    (h1 : bound fr 0 alo = some l) (h2 : bound fr len ahi = some e) (h3 : bound fr dm amx = some m) (hm0 : mx = none → m = cap) (hl : l ≤ e) (he : e ≤ m) (hm : m ≤ cap) (hx : mx.isSome → hi.isSome) :
    (Instr.sliceBounds isS len cap (lo.map a.eval) (hi.map a.eval) (mx.map a.eval)).run P w = .ok (l, e, m) w := by
  rcases bound_ok hf hmx h3 with ⟨em0, _, _⟩ | ⟨xm, km, em0, _, em⟩
  · have hmc : m = cap := hm0 em0
    rcases bound_ok hf hlo h1 with ⟨el0, _, el1⟩ | ⟨xl, kl, el0, _, el⟩ <;> rcases bound_ok hf hhi h2 with ⟨eh0, _, eh1⟩ | ⟨xh, kh, eh0, _, eh⟩
    · simp [Instr.sliceBounds, em0, el0, eh0, el1, eh1, hmc]
    · rw [hmc] at he
      simp [Instr.sliceBounds, em0, el0, eh0, el1, eh, hmc, run_sliceBound he]
    · simp only [eh1] at hl
      simp [Instr.sliceBounds, em0, el0, eh0, el, eh1, hmc, run_sliceBound hl]
    · rw [hmc] at he
      simp [Instr.sliceBounds, em0, el0, eh0, el, eh, hmc, run_sliceBound he, run_sliceBound hl]
  · have hhs := hx (by rw [em0]; rfl)
    rcases bound_ok hf hhi h2 with ⟨eh0, _, eh1⟩ | ⟨xh, kh, eh0, _, eh⟩
    · rw [eh0] at hhs; cases hhs
    · rcases bound_ok hf hlo h1 with ⟨el0, _, el1⟩ | ⟨xl, kl, el0, _, el⟩
      · simp [Instr.sliceBounds, em0, el0, eh0, em, eh, el1, run_sliceBound hm, run_sliceBound he]
      · simp [Instr.sliceBounds, em0, el0, eh0, em, eh, el, run_sliceBound hm, run_sliceBound he, run_sliceBound hl]
theorem run_slice_slice {t el : TypeId} (hu : P.underlying t = some (.slice el)) {s : Nat} (hs : sizeT P el = some s) {p : Option Addr} {len cap l e m : Nat} {lo hi mx : Option Value} (hb : (Instr.sliceBounds true len cap lo hi mx).run P w = .ok (l, e, m) w) :
    (Instr.sliceAt t (.slice p len cap) lo hi mx).run P w = .ok (.slice (if m = l then p else p.map (·.add (l * s))) (e - l) (m - l)) w := by
  simp [Instr.sliceAt, Instr.slice, run_underlying hu, hb, run_sizeT hs]
def BO (a : Act) (o : Option Operand) (d n : Nat) : Prop := (o = none ∧ n = d) ∨ ∃ x k, o = some x ∧ a.eval x = .int k n
theorem run_boundsG {isS : Bool} {len cap l e m : Nat} {lo hi mx : Option Operand} (h1 : BO a lo 0 l) (h2 : BO a hi len e) (h3 : BO a mx cap m) (hl : l ≤ e) (he : e ≤ m) (hm : m ≤ cap) (hx : mx.isSome → hi.isSome) :
    (Instr.sliceBounds isS len cap (lo.map a.eval) (hi.map a.eval) (mx.map a.eval)).run P w = .ok (l, e, m) w := by
  rcases h3 with ⟨em0, hmc⟩ | ⟨xm, km, em0, em⟩
  · rcases h1 with ⟨el0, el1⟩ | ⟨xl, kl, el0, el⟩ <;> rcases h2 with ⟨eh0, eh1⟩ | ⟨xh, kh, eh0, eh⟩
    · simp [Instr.sliceBounds, em0, el0, eh0, el1, eh1, hmc]
    · rw [hmc] at he
      simp [Instr.sliceBounds, em0, el0, eh0, el1, eh, hmc, run_sliceBound he]
    · simp only [eh1] at hl
      simp [Instr.sliceBounds, em0, el0, eh0, el, eh1, hmc, run_sliceBound hl]
    · rw [hmc] at he
      simp [Instr.sliceBounds, em0, el0, eh0, el, eh, hmc, run_sliceBound he, run_sliceBound hl]
  · have hhs := hx (by rw [em0]; rfl)
    rcases h2 with ⟨eh0, eh1⟩ | ⟨xh, kh, eh0, eh⟩
    · rw [eh0] at hhs; cases hhs
    · rcases h1 with ⟨el0, el1⟩ | ⟨xl, kl, el0, el⟩
      · simp [Instr.sliceBounds, em0, el0, eh0, em, eh, el1, run_sliceBound hm, run_sliceBound he]
      · simp [Instr.sliceBounds, em0, el0, eh0, em, eh, el, run_sliceBound hm, run_sliceBound he, run_sliceBound hl]
theorem boundC_ok {d n : Nat} {o : Option Operand} {ao : Option AX} {oc : Option AC} (hf : FR ρ φ fr a.tmps) (hc : cO o = some ao) (e : boundC fr ao = some oc) (hb : BndOk ρ φ oc d n) : BO a o d n := by
  cases o with
  | none => cases hc; cases e; exact .inl ⟨rfl, hb⟩
  | some x =>
    simp only [cO] at hc
    cases hx : cX x with
    | none => rw [hx] at hc; cases hc
    | some ax =>
      rw [hx] at hc
      cases hc
      obtain ⟨c, h1, h2⟩ := ob_some (show ob (ob (ev ax fr) asC) (fun c => some (some c)) = some oc from e)
      cases h2
      obtain ⟨u, h3, h4⟩ := ob_some h1
      rw [asC_some h4] at h3
      obtain ⟨k, hk⟩ := hb _ (show VC ρ φ c (a.eval x) from cX_ok hx hf h3)
      exact .inr ⟨x, k, rfl, hk⟩
theorem boundC_none {fr : Fr} {ao : Option AX} (e : boundC fr ao = some none) : ao = none := by
  cases ao with
  | none => rfl
  | some x =>
    obtain ⟨c, h1, h2⟩ := ob_some (show ob (ob (ev x fr) asC) (fun c => some (some c)) = some none from e)
    cases h2
theorem eqBound_ok {c d : AC} (h : eqBound (some c) (some d) = true) : c = d := by
  unfold eqBound at h
  split at h
  · rename_i k n k' n' h1 h2
    cases h1; cases h2
    rw [Bool.and_eq_true, decide_eq_true_eq, decide_eq_true_eq] at h
    rw [h.1, h.2]
  · rename_i k n k' n' h1 h2
    cases h1; cases h2
    rw [Bool.and_eq_true, decide_eq_true_eq, decide_eq_true_eq] at h
    rw [h.1, h.2]
  · cases h
theorem SlD.part {z : Nat → Option Obj} {e : Sh} {rows : List (List DV)} {p : Option Addr} {cap l u m : Nat} (h : SlD z e rows (.slice p rows.length cap)) (hl : l ≤ u) (hu : u ≤ rows.length) (hm : u ≤ m) : SlD z e ((rows.drop l).take (u - l)) (.slice (if m = l then p else p.map (·.add (l * e.len))) (u - l) (m - l)) := by
  obtain ⟨p', cap', h1, h2, h3⟩ := h
  cases h1
  have hlen : ((rows.drop l).take (u - l)).length = u - l := by simp; omega
  refine ⟨_, _, by rw [hlen], by rw [hlen]; omega, ?_⟩
  by_cases hlu : l = u
  · left; subst hlu; simp
  · rcases h3 with h3 | ⟨b, off, arr, T, fz, rfl, h5, h6⟩
    · rw [h3] at hu; simp at hu; omega
    · refine .inr ⟨b, off + l * e.len, arr, T, fz, ?_, h5, fun i row hr => ?_⟩
      · rw [if_neg (by omega)]; simp [Addr.add_lit]
      · have hi : i < u - l := by
          have := (List.getElem?_eq_some_iff.1 hr).1
          omega
        rw [List.getElem?_take_of_lt hi, List.getElem?_drop] at hr
        have := h6 (l + i) row hr
        rw [Nat.add_mul, ← Nat.add_assoc] at this
        exact this
theorem bif_if (m l x y : Nat) : (bif Nat.beq m l then x else y) = if m = l then x else y := by
  by_cases h : m = l
  · subst h; simp
  · have : Nat.beq m l = false := by
      cases hb : Nat.beq m l with
      | false => rfl
      | true => exact absurd (Nat.eq_of_beq_eq_true hb) h
    rw [this, if_neg h]; rfl
theorem and3 {a b c : Bool} (e : (a && b && c) = true) : a = true ∧ b = true ∧ c = true := by
  rw [Bool.and_eq_true, Bool.and_eq_true] at e
  exact ⟨e.1.1, e.1.2, e.2⟩
theorem snd_sll {t el : TypeId} (hu : P.underlying t = some (.slice el)) {s : Nat} (hs : sizeT P el = some s) {x : Operand} {lo hi mx : Option Operand} {ax : AX} {alo ahi amx : Option AX} (hx : cX x = some ax) (hlo : cO lo = some alo) (hhi : cO hi = some ahi) (hmx : cO mx = some amx) (hxx : mx.isSome → hi.isSome)
    (g : Gv E ρ φ fr a h w) (e : opSll E s ax alo ahi amx fr h = .ok v h') : Res ρ φ h w v h' ((opR a.eval (.slice t x lo hi mx) ty).run P w) := by
  obtain ⟨c, h1, e0⟩ := evC_ok e
  have hv : VC ρ φ c (a.eval x) := cX_ok hx g.fr h1
  have fin : ∀ {p : Option Addr} {len cap l q m : Nat} {c' : AC}, a.eval x = .slice p len cap → (Instr.sliceBounds true len cap (lo.map a.eval) (hi.map a.eval) (mx.map a.eval)).run P w = .ok (l, q, m) w → VC ρ φ c' (.slice (if m = l then p else p.map (·.add (l * s))) (q - l) (m - l)) → Res ρ φ h w (.c c') h ((opR a.eval (.slice t x lo hi mx) ty).run P w) := by
    intro p len cap l q m c' hp hb hc'
    refine Res.val g.rel (v := .c c') hc' ?_
    simp only [opR, execOp, hp]
    rw [Sem.run_bind, run_slice_slice hu hs hb]
    rfl
  rcases onD_ok e0 with ⟨sh, y, hcd, e1⟩ | ⟨-, e1⟩
  · have hsd := VC.sld hcd hv
    obtain ⟨hb1, e2⟩ := br_ok e1
    have hsz := Nat.eq_of_beq_eq_true hb1
    obtain ⟨bl, h2, e3⟩ := ro_ok e2
    obtain ⟨bu, h3, e4⟩ := ro_ok e3
    obtain ⟨bm, h4, e5⟩ := ro_ok e4
    obtain ⟨t', h5, e6⟩ := ro_ok e5
    obtain ⟨l, u, k1, k2, k3, k4, k5⟩ := g.env.dsl _ _ _ _ h5 φ
    obtain ⟨p, cap, hp, hcap, hrows⟩ := hsd
    have hbl := boundC_ok g.fr hlo h2 k1
    have hbu := boundC_ok g.fr hhi h3 k2
    have hsd' : SlD φ.z sh (ρ.d y) (.slice p (ρ.d y).length cap) := ⟨p, cap, rfl, hcap, hrows⟩
    cases bm with
    | none =>
      have e7 : RO.ok (.c (.ds sh t')) h = .ok v h' := e6
      cases e7
      have hmn : mx = none := by
        have := boundC_none h4
        subst this
        cases mx with
        | none => rfl
        | some x =>
          simp only [cO] at hmx
          split at hmx <;> cases hmx
      refine fin hp (run_boundsG (m := cap) hbl hbu (.inl ⟨hmn, rfl⟩) k3 (by omega) (Nat.le_refl _) hxx) ?_
      show SlD φ.z sh (ρ.d t') _
      rw [k5, ← hsz]
      exact hsd'.part k3 k4 (by omega)
    | some cm =>
      obtain ⟨hb2, e7⟩ := br_ok (show br (eqBound bu (some cm)) (.ok (.c (.dc sh t')) h) = .ok v h' from e6)
      cases e7
      cases bu with
      | none => unfold eqBound at hb2; split at hb2 <;> contradiction
      | some cu =>
        have := eqBound_ok hb2
        subst this
        have hbm : BO a mx cap u := by
          have hx' : mx.isSome := by
            cases mx with
            | none => cases hmx; cases h4
            | some x => rfl
          rcases boundC_ok (d := cap) g.fr hmx h4 (show BndOk ρ φ (some cu) cap u from k2) with ⟨h0, _⟩ | h0
          · rw [h0] at hx'; cases hx'
          · exact .inr h0
        refine fin hp (run_boundsG (m := u) hbl hbu hbm k3 (Nat.le_refl _) (by omega) hxx) ?_
        refine ⟨?_, _, _, rfl⟩
        rw [k5, ← hsz]
        exact hsd'.part k3 k4 (Nat.le_refl _)
  unfold opSl0 at e1
  split at e1
  · obtain ⟨l, h2, e2⟩ := ro_ok e1
    obtain ⟨q, h3, e3⟩ := ro_ok e2
    obtain ⟨m, h4, e4⟩ := ro_ok e3
    obtain ⟨hb, e5⟩ := br_ok e4
    obtain ⟨hb1, hb2, hb3⟩ := and3 hb
    have l0 : l = 0 := Nat.eq_of_beq_eq_true hb1
    have q0 : q = 0 := Nat.eq_of_beq_eq_true hb2
    have m0 : m = 0 := Nat.eq_of_beq_eq_true hb3
    cases e5
    refine fin (show a.eval x = .slice none 0 0 from hv) (run_bounds g.fr hlo hhi hmx h2 h3 h4 (fun _ => m0) (by omega) (by omega) (by omega) hxx) ?_
    rw [l0, q0, m0]; rfl
  · rename_i id off len cap
    obtain ⟨l, h2, e2⟩ := ro_ok e1
    obtain ⟨q, h3, e3⟩ := ro_ok e2
    obtain ⟨m, h4, e4⟩ := ro_ok e3
    obtain ⟨hb, e5⟩ := br_ok e4
    obtain ⟨hb1, hb2, hb3⟩ := and3 hb
    have l1 : l ≤ q := Nat.le_of_ble_eq_true hb1
    have l2 : q ≤ m := Nat.le_of_ble_eq_true hb2
    have l3 : m ≤ cap := Nat.le_of_ble_eq_true hb3
    cases e5
    obtain ⟨b, base, tot, h5, h6⟩ := hv
    refine fin h6 (run_bounds g.fr hlo hhi hmx h2 h3 h4 (fun hn => ?_) l1 l2 l3 hxx) ?_
    · rcases bound_ok g.fr hmx h4 with ⟨_, _, hm⟩ | ⟨_, _, hm, _⟩
      · exact hm
      · rw [hn] at hm; cases hm
    · refine ⟨b, base, tot, h5, ?_⟩
      rw [bif_if]
      by_cases hml : m = l
      · rw [if_pos hml, if_pos hml]
      · rw [if_neg hml, if_neg hml]; simp [Addr.add_lit, Nat.add_assoc]
  · rename_i id off len lb es
    obtain ⟨he, e2⟩ := br_ok e1
    have hes : es = s := Nat.eq_of_beq_eq_true he
    obtain ⟨b, base, tot, cap, h5, h6, h7, h8, h9⟩ := hv
    split at e2
    · rename_i mm
      obtain ⟨l, h2, e3⟩ := ro_ok e2
      obtain ⟨q, h3, e4⟩ := ro_ok e3
      obtain ⟨m, h4, e5⟩ := ro_ok e4
      obtain ⟨hb, e6⟩ := br_ok e5
      obtain ⟨hb1, hb2, hb3⟩ := and3 hb
      have l1 : l ≤ q := Nat.le_of_ble_eq_true hb1
      have l2 : q ≤ m := Nat.le_of_ble_eq_true hb2
      have l3 : m ≤ lb := Nat.le_of_ble_eq_true hb3
      cases e6
      refine fin h6 (run_bounds g.fr hlo hhi hmx h2 h3 (show bound fr 0 (some mm) = some m from h4) (fun hn => ?_) l1 l2 (by omega) hxx) ?_
      · subst hn; cases hmx
      · refine ⟨b, base, tot, h5, ?_⟩
        rw [bif_if]
        by_cases hml : m = l
        · rw [if_pos hml, if_pos hml]
        · rw [if_neg hml, if_neg hml]; simp [Addr.add_lit, Nat.add_assoc]
    · obtain ⟨l, h2, e3⟩ := ro_ok e2
      obtain ⟨q, h3, e4⟩ := ro_ok e3
      obtain ⟨hb, e5⟩ := br_ok e4
      rw [Bool.and_eq_true] at hb
      have l1 : l ≤ q := Nat.le_of_ble_eq_true hb.1
      have l2 : q ≤ lb := Nat.le_of_ble_eq_true hb.2
      cases e5
      have hmn : mx = none := by
        cases mx with
        | none => rfl
        | some y =>
          simp only [cO] at hmx
          cases hy : cX y <;> rw [hy] at hmx <;> cases hmx
      refine fin h6 (run_bounds (dm := cap) g.fr hlo hhi hmx h2 h3 rfl (fun _ => rfl) l1 (by omega) (Nat.le_refl _) hxx) ?_
      unfold sliceU
      cases hl0 : Nat.beq l 0 with
      | true =>
        have hl : l = 0 := Nat.eq_of_beq_eq_true hl0
        subst hl
        simp only [cond_true]
        refine ⟨b, base, tot, cap, h5, ?_, by omega, h8, h9⟩
        simp [Addr.add_lit]
      | false =>
        simp only [cond_false]
        cases hlb : Nat.blt l lb with
        | true =>
          have hl : l < lb := Nat.le_of_ble_eq_true hlb
          simp only [cond_true]
          refine ⟨b, base, tot, cap - l, h5, ?_, by omega, by omega, ?_⟩
          · rw [if_neg (by omega)]; simp [Addr.add_lit, Nat.add_assoc, hes]
          · have : l * es + (cap - l) * es = cap * es := by rw [← Nat.add_mul]; congr 1; omega
            omega
        | false =>
          have hl : ¬ l < lb := fun hh => by have := Nat.ble_eq_true_of_le (show l + 1 ≤ lb from hh); rw [show Nat.blt l lb = Nat.ble (l + 1) lb from rfl] at hlb; rw [this] at hlb; cases hlb
          simp only [cond_false]
          have hql : q - l = 0 := by omega
          rw [hql]
          by_cases hcl : cap = l
          · refine ⟨b, base, tot, base + off, cap - l, h5, by rw [if_pos hcl], ?_⟩
            have : (cap - l) * es ≤ cap * es := Nat.mul_le_mul_right _ (by omega)
            omega
          · refine ⟨b, base, tot, base + off + l * s, cap - l, h5, by rw [if_neg hcl]; simp [Addr.add_lit], ?_⟩
            have : l * es + (cap - l) * es = cap * es := by rw [← Nat.add_mul]; congr 1; omega
            rw [← hes]
            omega
  · rename_i id es
    obtain ⟨he, e2⟩ := br_ok e1
    rw [Bool.and_eq_true] at he
    obtain ⟨l, h2, e3⟩ := ro_ok e2
    obtain ⟨q, h3, e4⟩ := ro_ok e3
    obtain ⟨hb, e5⟩ := br_ok e4
    rw [Bool.and_eq_true] at hb
    have l0 : l = 0 := Nat.eq_of_beq_eq_true hb.1
    have q0 : q = 0 := Nat.eq_of_beq_eq_true hb.2
    cases e5
    obtain ⟨b, base, tot, o, cap, h5, h6, h7⟩ := hv
    have hmn : amx = none := by
      cases amx with
      | none => rfl
      | some y => simp at he
    subst hmn
    refine fin h6 (run_bounds (dm := cap) g.fr hlo hhi hmx h2 h3 rfl (fun _ => rfl) (by omega) (by omega) (Nat.le_refl _) hxx) ?_
    rw [l0, q0]
    exact ⟨b, base, tot, o, cap, h5, by simp [Addr.add_lit], h7⟩
  · cases e1
theorem snd_sla {t el : TypeId} {n : Nat} (hu : P.underlying t = some (.array n el)) {s : Nat} (hs : sizeT P el = some s) {x : Operand} {lo hi mx : Option Operand} {ax : AX} {alo ahi amx : Option AX} (hx : cX x = some ax) (hlo : cO lo = some alo) (hhi : cO hi = some ahi) (hmx : cO mx = some amx) (hxx : mx.isSome → hi.isSome)
    (g : Gv E ρ φ fr a h w) (e : opSla n s ax alo ahi amx fr h = .ok v h') : Res ρ φ h w v h' ((opR a.eval (.slice t x lo hi mx) ty).run P w) := by
  obtain ⟨id, off, h1, e1⟩ := evP_ok e
  obtain ⟨l, h2, e2⟩ := ro_ok e1
  obtain ⟨q, h3, e3⟩ := ro_ok e2
  obtain ⟨m, h4, e4⟩ := ro_ok e3
  obtain ⟨hb, e5⟩ := br_ok e4
  obtain ⟨hb1, hb2, hb3⟩ := and3 hb
  have l1 : l ≤ q := Nat.le_of_ble_eq_true hb1
  have l2 : q ≤ m := Nat.le_of_ble_eq_true hb2
  have l3 : m ≤ n := Nat.le_of_ble_eq_true hb3
  cases e5
  obtain ⟨b, base, tot, h5, h6⟩ := cX_ok hx g.fr h1
  have hbn := run_bounds (P := P) (w := w) (isS := false) g.fr hlo hhi hmx h2 h3 h4 (fun hn => by
    rcases bound_ok g.fr hmx h4 with ⟨_, _, hm⟩ | ⟨_, _, hm, _⟩
    · exact hm
    · rw [hn] at hm; cases hm) l1 l2 l3 hxx
  refine Res.val g.rel (v := .c (sliceE id off s l q m)) (u := .slice (some (if m = l then ⟨b, base + off, none⟩ else (⟨b, base + off, none⟩ : Addr).add (l * s))) (q - l) (m - l)) ?_ ?_
  · refine ⟨b, base, tot, h5, ?_⟩
    rw [bif_if]
    by_cases hml : m = l
    · rw [if_pos hml, if_pos hml]
    · rw [if_neg hml, if_neg hml]; simp [Addr.add_lit, Nat.add_assoc]
  · simp [opR, execOp, Instr.sliceAt, run_underlying hu, h6, Instr.sureAddr, hbn, run_sizeT hs]
theorem snd_slice (t : TypeId) (x : Operand) (lo hi mx : Option Operand) : Snd P E (.slice t x lo hi mx) := by
  intro ao hc ρ φ fr a h w v h' ty g e
  simp only [cOp] at hc
  split at hc
  · cases hc
  · rename_i hxx0
    have hxx : mx.isSome → hi.isSome := fun h1 => by
      cases h2 : hi.isSome with
      | true => rfl
      | false => exact absurd ⟨h1, h2⟩ hxx0
    split at hc
    · rename_i n el ax alo ahi amx hu hx hlo hhi hmx
      obtain ⟨s, hs, rfl⟩ := map_some hc
      exact snd_sla hu hs hx hlo hhi hmx hxx g e
    · rename_i el ax alo ahi amx hu hx hlo hhi hmx
      obtain ⟨s, hs, rfl⟩ := map_some hc
      exact snd_sll hu hs hx hlo hhi hmx hxx g e
    · cases hc
      refine gen_ok (fun f hf => ?_) g e
      have hl : lo.map a.eval = lo.map f := by
        cases lo with
        | none => rfl
        | some y => exact congrArg some (hf y (by simp [Op.operands]))
      have hh : hi.map a.eval = hi.map f := by
        cases hi with
        | none => rfl
        | some y => exact congrArg some (hf y (by simp [Op.operands]))
      have hm : mx.map a.eval = mx.map f := by
        cases mx with
        | none => rfl
        | some y => exact congrArg some (hf y (by simp [Op.operands]))
      simp only [opR, execOp]
      rw [hf x (by simp [Op.operands]), hl, hh, hm]
    · cases hc
end
end Go.Proofs.YtjnfgapfhpihmaaGreat
namespace Go.Proofs.YtjnfgapfhpihmaaGreat
section
variable {P : Program} {E : Env} {ρ : Vn} {φ : Emb} {fr : Fr} {a : Act} {h h' : Hp} {w w' : World} {v : AV} {ty : TypeId}
theorem Rel.alloc (r : Rel ρ φ h w) {n : Bid} (hn : h.next.inc = some n) {c : List AC} {vs : List Value} (hv : All2 (VC ρ φ) c vs) (rest : List Value) (T : TypeId) (hh : w'.heap = w.heap.push (.cells (vs ++ rest).toArray T)) (hos : w'.os = w.os) (htape : w'.tape = w.tape) (hout : w'.output = w.output) :
    Stp ρ φ h w (φ.add h.next (w.heap.size, 0, vs.length + rest.length)) (h.more n (.cells c)) w' := by
  have hf : φ h.next = none := r.free _ (Nat.le_refl _)
  refine r.more hn (by rw [hh]; simp) (Nat.le_refl _) (fun g hg => by rw [hh, Array.getElem?_push_lt hg, Array.getElem?_eq_getElem hg]) hos htape hout ?_ (fun l hl => by cases hl)
  intro c' hc'
  cases hc'
  refine ⟨(vs ++ rest).toArray, T, by simp, by rw [hh]; simp, ?_⟩
  refine ⟨by simp [hv.length], fun o x hx => ?_⟩
  obtain ⟨y, h1, h2⟩ := hv.get hx
  refine ⟨y, ?_, h2.le (Emb.le_add hf _)⟩
  have : o < vs.length := (List.getElem?_eq_some_iff.1 h1).1
  simp [List.getElem?_append_left this, h1]
theorem ptr_new (φ : Emb) (id : Bid) (b tot : Nat) : VC ρ (φ.add id (b, 0, tot)) (.p id 0) (.pointer (some ⟨b, 0, none⟩)) := ⟨b, 0, tot, Emb.add_same _ _ _, rfl⟩
theorem snd_al (t : TypeId) : Snd P E (.alloc t) := by
  intro ao hc ρ φ fr a h w v h' ty g e
  obtain ⟨z, hz, rfl⟩ := map_some (show (zeroOf P t).map AO.al = some ao from hc)
  obtain ⟨n, h1, rfl, rfl⟩ := new_ok (k := fun id => .c (.p id 0)) (show opAl z fr h = .ok v h' from e)
  obtain ⟨u, hu0, hu1, _⟩ := run_zeroT (ρ := ρ) (φ := φ) hz
  refine ⟨.value (.pointer (some ⟨w.heap.size, 0, none⟩)), _, { w with heap := w.heap.push (.cells u.cells t) }, _, ?_, rfl, ?_, g.rel.alloc h1 hu1 [] t (by simp) rfl rfl rfl⟩
  · simp [opR, execOp, Instr.alloc, hu0, newVar, newRow]
  · exact ptr_new (ρ := ρ) _ _ _ _
theorem snd_bx (t : TypeId) (x : Operand) : Snd P E (.box t x) := by
  intro ao hc ρ φ fr a h w v h' ty g e
  obtain ⟨ax, hx, rfl⟩ := map_some (show (cX x).map AO.bx = some ao from hc)
  obtain ⟨u, h1, e1⟩ := ro_ok (show opBx ax fr h = .ok v h' from e)
  obtain ⟨l, h2, e2⟩ := ro_ok e1
  obtain ⟨n, h3, rfl, rfl⟩ := new_ok e2
  have hv := (cX_ok hx g.fr h1).cells h2
  refine ⟨.value (.pointer (some ⟨w.heap.size, 0, none⟩)), _, { w with heap := w.heap.push (.cells (a.eval x).cells t) }, _, ?_, rfl, ?_, g.rel.alloc h3 hv [] t (by simp) rfl rfl rfl⟩
  · simp [opR, execOp, Instr.box, newVar, newRow]
  · exact ptr_new (ρ := ρ) _ _ _ _
theorem zrep_length (z : List AC) : ∀ n, (zrep z n).length = n * z.length
  | 0 => by simp [zrep]
  | n + 1 => by simp [zrep, zrep_length z n, Nat.add_mul, Nat.add_comm]
theorem zrep_get {z : List AC} (hz : 0 < z.length) : ∀ (n i : Nat), i < n * z.length → (zrep z n)[i]? = z[i % z.length]?
  | 0, i, hi => by omega
  | n + 1, i, hi => by
    simp only [zrep]
    by_cases h : i < z.length
    · rw [List.getElem?_append_left h, Nat.mod_eq_of_lt h]
    · have h2 : (n + 1) * z.length = n * z.length + z.length := Nat.succ_mul _ _
      have h3 : i % z.length = (i - z.length) % z.length := Nat.mod_eq_sub_mod (by omega)
      rw [List.getElem?_append_right (by omega), zrep_get hz n _ (by omega), h3]
def zrow (us : Array Value) (k : Nat) : List Value := (List.range k).map fun i => us[i % us.size]!
theorem zrow_eq (us : Array Value) (k : Nat) : (Array.range k).map (us[· % us.size]!) = (zrow us k).toArray := by
  apply Array.ext'
  simp [zrow]
theorem zeros_ok {z : List AC} {us : Array Value} (hz : 0 < z.length) (hu : All2 (VC ρ φ) z us.toList) (n : Nat) : All2 (VC ρ φ) (zrep z n) (zrow us (n * z.length)) := by
  have hl := hu.length
  have hsz : us.size = z.length := by simpa using hl.symm
  refine All2.of_get (by simp [zrep_length, zrow]) fun i x y hx hy => ?_
  have hi : i < n * z.length := by
    have := (List.getElem?_eq_some_iff.1 hx).1
    rwa [zrep_length] at this
  rw [zrep_get hz n i hi] at hx
  obtain ⟨y', h1, h2⟩ := hu.get hx
  have hm : i % z.length < us.size := by rw [hsz]; exact Nat.mod_lt _ hz
  have hy' : us[i % us.size]! = y := by
    unfold zrow at hy
    rw [List.getElem?_map, List.getElem?_range hi] at hy
    simpa using hy
  rw [hsz, getElem!_pos us _ hm] at hy'
  rw [Array.getElem?_toList, Array.getElem?_eq_getElem hm] at h1
  cases h1
  rw [← hy']
  exact h2
theorem snd_bs (t : TypeId) (len : Nat) (parts : Array (Nat × Operand)) : Snd P E (.buildSlice t len parts) := by
  intro ao hc ρ φ fr a h w v h' ty g e
  simp only [cOp] at hc
  have hparts : (parts.map fun x => (x.1, a.eval x.2)).toList = parts.toList.map fun p => (p.1, a.eval p.2) := by simp
  split at hc
  · rename_i el hu
    split at hc
    · rename_i s z hs hz
      split at hc
      · rename_i hcond
        obtain ⟨ps, hps, rfl⟩ := map_some hc
        obtain ⟨l, h1, e1⟩ := ro_ok (show opBs (zrep z len) len ps fr h = .ok v h' from e)
        obtain ⟨n, h2, rfl, rfl⟩ := new_ok e1
        obtain ⟨u, hu0, hu1, _⟩ := run_zeroT (ρ := ρ) (φ := φ) hz
        have hzs := zeros_ok (by omega) hu1 len
        rw [hcond.2.1] at hzs
        obtain ⟨cs, h3, h4⟩ := fills_ok g.fr hps h1 hzs
        have hfill : Instr.fill (fun i => some (i * s, s)) (zrow u.cells (len * s)).toArray (parts.map fun x => (x.1, a.eval x.2)).toList = some cs.toArray := by
          rw [hparts]
          exact h3
        refine ⟨.value (.slice (some ⟨w.heap.size, 0, none⟩) len len), _, { w with heap := w.heap.push (.cells cs.toArray el) }, _, ?_, rfl, ?_, g.rel.alloc h2 h4 [] el (by simp) rfl rfl rfl⟩
        · have hbig : ¬ (len * s > 16777216) := by omega
          by_cases h0 : len * s = 0
          · have hfill' : Instr.fill (fun i => some (i * s, s)) ((Array.range (len * s)).map fun i => (#[] : Array Value)[i % (#[] : Array Value).size]!) (parts.map fun x => (x.1, a.eval x.2)).toList = some cs.toArray := by
              have e0 : ((Array.range (len * s)).map fun i => (#[] : Array Value)[i % (#[] : Array Value).size]!) = (zrow u.cells (len * s)).toArray := by
                rw [h0]; apply Array.ext'; simp [zrow]
              rw [e0]
              exact hfill
            simp only [opR, execOp, Instr.buildSlice, Sem.run_bind, run_underlying hu, run_sizeT hs, Result.andThen_ok, hbig, if_false, if_pos h0, Sem.run_pure, hfill', newRow, run_newObj, Sem.run_ite, Nat.reducePow]
          · simp only [opR, execOp, Instr.buildSlice, Sem.run_bind, run_underlying hu, run_sizeT hs, Result.andThen_ok, hbig, if_false, h0, hu0, Sem.run_pure, zrow_eq, hfill, newRow, run_newObj, Sem.run_ite, Nat.reducePow]
        · exact ⟨w.heap.size, 0, _, Emb.add_same _ _ _, rfl⟩
      · cases hc
    · cases hc
  · cases hc
theorem run_isAgg {t : TypeId} {d : TypeDesc} (hu : P.underlying t = some d) (w : World) : (isAgg t).run P w = .ok (aggD d) w := by
  simp only [isAgg, Sem.run_bind, run_underlying hu, Result.andThen_ok]
  cases d <;> rfl
theorem run_loads {b o : Nat} {vs : List Value} (hc : ∀ (j : Nat) v, vs[j]? = some v → w.cell? ⟨b, o + j, none⟩ = some v) {k : Nat} (hk : vs.length = k) : (loadCells ⟨b, o, none⟩ k).run P w = .ok vs.toArray w := by
  rw [← hk]
  exact run_loadCells_list w ⟨b, o, none⟩ vs fun j v hj => by rw [Addr.add_lit]; exact hc j v hj
theorem dlds_ok {sh : Sh} {y t : Nm} {row : List DV} {xs : List Value} (he : EnvOk E ρ) (hr : (ρ.d y)[(ρ.i t).toNat]? = some row) (hx : RowD φ.z sh row xs) : ∀ {n o : Nat} {l : List AC}, dlds E sh y t n o = some l → ∃ vs : List Value, vs.length = n ∧ All2 (VC ρ φ) l vs ∧ ∀ (j : Nat) v, vs[j]? = some v → xs[o + j]? = some v
  | 0, o, l, e => by cases e; exact ⟨[], rfl, .nil, fun j v h => by simp at h⟩
  | n + 1, o, l, e => by
    obtain ⟨c, h1, e1⟩ := ob_some (show ob (E.dld sh y t o) _ = some l from e)
    obtain ⟨m, h2, e2⟩ := ob_some e1
    cases e2
    obtain ⟨v, h3, h4⟩ := he.dld _ _ _ _ _ h1 φ _ _ hr hx
    obtain ⟨vs, h5, h6, h7⟩ := dlds_ok (n := n) (o := o + 1) he hr hx h2
    refine ⟨v :: vs, by simp [h5], .cons h4 h6, fun j u hj => ?_⟩
    cases j with
    | zero => simp at hj; subst hj; exact h3
    | succ j => rw [← h7 j u (by simpa using hj)]; congr 1; omega
theorem snd_ld (t : TypeId) (x : Operand) : Snd P E (.load t x) := by
  intro ao hc ρ φ fr a h w v h' ty g e
  simp only [cOp] at hc
  have many : ∀ {dd : TypeDesc} {s : Nat} {ax : AX}, P.underlying t = some dd → aggD dd = true → sizeT P t = some s → cX x = some ax → opLdn E s ax fr h = .ok v h' → Res ρ φ h w v h' ((opR a.eval (.load t x) ty).run P w) := by
    intro dd s ax hdd hd hs hx e
    rcases evPd_ok e with ⟨s', y, t', o, h1, e1⟩ | ⟨id, off, h1, e1⟩
    · obtain ⟨l, h2, e2⟩ := ro_ok e1
      cases e2
      obtain ⟨b, base, arr, T, fz, row, h3, h4, h5, h6⟩ := cX_ok hx g.fr h1
      obtain ⟨vs, h7, h8, h9⟩ := dlds_ok (φ := φ) g.env h5 h6 h2
      have hcell := (g.rel.frz.at_ b _ h4).1
      refine Res.val g.rel (v := .a l) (u := .agg vs.toArray) ⟨vs, rfl, h8⟩ ?_
      have hia := run_isAgg hdd w
      rw [hd] at hia
      have hrd : ∀ (j : Nat) v, vs[j]? = some v → w.cell? ⟨b, base + o + j, none⟩ = some v := fun j v hv => by
        have h10 := h9 j v hv
        rw [cell_of_row w b _ arr T _ hcell, ← Array.getElem?_toList]
        have hlt := (List.getElem?_eq_some_iff.1 h10).1
        have hlt2 : o + j < s'.len := by
          have : ((arr.toList.drop base).take s'.len).length ≤ s'.len := by simp; omega
          omega
        rw [List.getElem?_take_of_lt hlt2, List.getElem?_drop] at h10
        rw [← h10]; congr 1; omega
      simp [opR, execOp, Instr.loadAt, h3, Instr.sureAddr, loadVar, hia, run_sizeT hs, run_loads hrd h7]
    obtain ⟨l, h2, e2⟩ := ro_ok e1
    cases e2
    obtain ⟨b, base, tot, h3, h4⟩ := cX_ok hx g.fr h1
    obtain ⟨b', base', tot', vs, h5, h6, h7, h8⟩ := g.rel.lds h2
    rw [h3] at h5
    cases h5
    refine Res.val g.rel (v := .a l) (u := .agg vs.toArray) ⟨vs, rfl, h7⟩ ?_
    have hia := run_isAgg hdd w
    rw [hd] at hia
    simp [opR, execOp, Instr.loadAt, h4, Instr.sureAddr, loadVar, hia, run_sizeT hs, run_loads h8 h6]
  split at hc
  · rename_i fs s ax hu hs hx; cases hc; exact many hu rfl hs hx e
  · rename_i n el s ax hu hs hx; cases hc; exact many hu rfl hs hx e
  · rename_i dd s ax hne1 hne2 hu hs hx
    cases hc
    rcases evPd_ok (show opLd E ax fr h = .ok v h' from e) with ⟨s', y, t', o, h1, e1⟩ | ⟨id, off, h1, e1⟩
    · obtain ⟨c, h2, e2⟩ := ro_ok e1
      cases e2
      obtain ⟨b, base, arr, T, fz, row, h3, h4, h5, h6⟩ := cX_ok hx g.fr h1
      obtain ⟨v, h7, h8⟩ := g.env.dld _ _ _ _ _ h2 φ _ _ h5 h6
      have hcell := (g.rel.frz.at_ b _ h4).1
      refine Res.val g.rel (v := .c c) h8 ?_
      have hia := run_isAgg hu w
      rw [show aggD dd = false by cases dd <;> first | rfl | exact (hne1 _ rfl).elim | exact (hne2 _ _ rfl).elim] at hia
      have hrd : w.cell? ⟨b, base + o, none⟩ = some v := by
        rw [cell_of_row w b _ arr T _ hcell, ← Array.getElem?_toList]
        have hlt := (List.getElem?_eq_some_iff.1 h7).1
        have hlt2 : o < s'.len := by
          have : ((arr.toList.drop base).take s'.len).length ≤ s'.len := by simp; omega
          omega
        rw [List.getElem?_take_of_lt hlt2, List.getElem?_drop] at h7
        exact h7
      simp [opR, execOp, Instr.loadAt, h3, Instr.sureAddr, loadVar, hia, hrd]
    obtain ⟨c, h2, e2⟩ := ro_ok e1
    cases e2
    obtain ⟨b, base, tot, h3, h4⟩ := cX_ok hx g.fr h1
    obtain ⟨b', base', tot', y, h5, h6, h7⟩ := g.rel.ld h2
    rw [h3] at h5
    cases h5
    refine Res.val g.rel (v := .c c) h7 ?_
    have hia := run_isAgg hu w
    rw [show aggD dd = false by cases dd <;> first | rfl | exact (hne1 _ rfl).elim | exact (hne2 _ _ rfl).elim] at hia
    simp [opR, execOp, Instr.loadAt, h4, Instr.sureAddr, loadVar, hia, h6]
  · cases hc
theorem run_stores (r : Rel ρ φ h w) {id : Bid} {off : Nat} {l : List AC} {vs : List Value} (hl : All2 (VC ρ φ) l vs) (e : h.sts id off l = some h') {b base tot : Nat} (hb : φ id = some (b, base, tot)) : ∃ w', (storeCells ⟨b, base + off, none⟩ vs).run P w = .ok () w' ∧ Stp ρ φ h w φ h' w' := by
  obtain ⟨b', base', arr, T, h1, h2, h3, h4⟩ := r.sts hl e
  rw [hb] at h1
  cases h1
  exact ⟨_, run_storeCells_at P b (base + off) T vs 0 arr w h2 (by omega) hl.ones, by simpa using h4⟩
theorem undef_ok : VV ρ φ (.t []) undef := ⟨[], rfl, .nil⟩
theorem snd_st (t : TypeId) (x y : Operand) : Snd P E (.store t x y) := by
  intro ao hc ρ φ fr a h w v h' ty g e
  simp only [cOp] at hc
  split at hc
  · rename_i s ax ay hs hx hy
    cases hc
    obtain ⟨id, off, h1, e1⟩ := evP_ok (show opSt s ax ay fr h = .ok v h' from e)
    obtain ⟨u, h2, e2⟩ := ro_ok e1
    obtain ⟨l, h3, e3⟩ := ro_ok e2
    obtain ⟨hb, e4⟩ := br_ok e3
    obtain ⟨h2', h4, e5⟩ := ro_ok e4
    cases e5
    obtain ⟨b, base, tot, h5, h6⟩ := cX_ok hx g.fr h1
    have hl := (cX_ok hy g.fr h2).cells h3
    obtain ⟨w', h7, h8⟩ := run_stores (P := P) g.rel hl h4 h5
    have hsz : (a.eval y).cells.size = s := by
      have := Nat.eq_of_beq_eq_true hb
      rw [← this, hl.length]; simp
    refine ⟨.skip, undef, w', φ, ?_, rfl, undef_ok, h8⟩
    simp [opR, execOp, Instr.storeAt, h6, Instr.sureAddr, storeVar, run_sizeT hs, hsz, h7]
  · cases hc
theorem snd_mm (t : TypeId) (o : Option Operand) : Snd P E (.makeMap t o) := by
  intro ao hc ρ φ fr a h w v h' ty g e
  cases o with
  | some x => cases hc
  | none =>
    cases hc
    obtain ⟨n, h1, rfl, rfl⟩ := new_ok (k := fun id => .c (.mp id)) (show opMm fr h = .ok v h' from e)
    refine ⟨.value (.map (some w.heap.size)), _, { w with heap := w.heap.push (.map #[] 0) }, φ.add h.next (w.heap.size, 0, 0), ?_, rfl, ⟨w.heap.size, 0, 0, Emb.add_same _ _ _, rfl⟩, ?_⟩
    · simp [opR, execOp, Instr.makeMap]
    · refine g.rel.more h1 (by simp) (Nat.le_refl _) (fun g hg => by show (w.heap.push _)[g]? = _; rw [Array.getElem?_push_lt hg, Array.getElem?_eq_getElem hg]) rfl rfl rfl (fun c hc => by cases hc) fun l hl => ?_
      cases hl
      exact ⟨rfl, rfl, #[], 0, by simp, .nil⟩
theorem and2 {x y : Bool} (e : (x && y) = true) : x = true ∧ y = true := by rwa [Bool.and_eq_true] at e
theorem run_bytesT {t : TypeId} {b : Nat} (e : bytesT P t = some b) : ∃ i, P.info? t = some i ∧ i.bytes = b := by
  unfold bytesT at e
  cases hi : P.info? t with
  | none => rw [hi] at e; cases e
  | some i => rw [hi] at e; cases e; exact ⟨i, rfl, rfl⟩
theorem snd_ms (t : TypeId) (x y : Operand) : Snd P E (.makeSlice t x y) := by
  intro ao hc ρ φ fr a h w v h' ty g e
  simp only [cOp] at hc
  split at hc
  · rename_i el hu
    split at hc
    · rename_i s z b ax ay hs hz hbt hx hy
      split at hc
      · rename_i hcond
        cases hc
        obtain ⟨l, h1, e1⟩ := ro_ok (show opMs z b ax ay fr h = .ok v h' from e)
        obtain ⟨c, h2, e2⟩ := ro_ok e1
        obtain ⟨hb, e3⟩ := br_ok e2
        obtain ⟨n, h3, rfl, rfl⟩ := new_ok e3
        obtain ⟨hb1, hb0, hb2⟩ := and3 hb
        have l1 : l ≤ c := Nat.le_of_ble_eq_true hb1
        have l0 : c ≤ 1048576 := Nat.le_of_ble_eq_true hb0
        have l2 : c * b ≤ 1048576 := Nat.le_of_ble_eq_true hb2
        obtain ⟨k1, h4⟩ := evN_some h1
        obtain ⟨k2, h5⟩ := evN_some h2
        have hl := eq_ofNat (cX_ok hx g.fr h4)
        have hcap := eq_ofNat (cX_ok hy g.fr h5)
        obtain ⟨u, hu0, hu1, _⟩ := run_zeroT (ρ := ρ) (φ := φ) hz
        have hzs := zeros_ok (by omega) hu1 c
        rw [hcond.2] at hzs
        obtain ⟨i, hi, hib⟩ := run_bytesT hbt
        have hlw : IntKind.i64.wrap (l : Int) = l := IntWalk.i64_in _ (by omega)
        have hcw : IntKind.i64.wrap (c : Int) = c := IntWalk.i64_in _ (by omega)
        have hbig : ¬ ((b : Int) * (c : Int) > 281474976710656) := by
          have : ((c * b : Nat) : Int) ≤ 1048576 := by omega
          have e1 : ((c * b : Nat) : Int) = (b : Int) * (c : Int) := by rw [Int.natCast_mul, Int.mul_comm]
          omega
        refine ⟨.value (.slice (some ⟨w.heap.size, 0, none⟩) l c), _, { w with heap := w.heap.push (.cells (zrow u.cells (c * s)).toArray el) }, _, ?_, rfl, ?_, g.rel.alloc h3 hzs [] el (by simp) rfl rfl rfl⟩
        · simp only [opR, execOp, Instr.makeSlice, Sem.run_bind, run_underlying hu, hl, hcap, asInt, run_asIntOf, Sem.run_pure, Result.andThen_ok, typeInfo, run_program, hi, hib, hlw, hcw]
          rw [if_neg (by simp; omega)]
          simp only [Sem.run_bind, run_askRoom, Result.andThen_ok, run_sizeT hs, Int.toNat_natCast]
          by_cases h0 : c * s = 0
          · have e0 : (Array.range (c * s)).map (fun x => (#[] : Array Value)[x % (#[] : Array Value).size]!) = (zrow u.cells (c * s)).toArray := by
              rw [h0]; apply Array.ext'; simp [zrow]
            rw [if_pos h0]
            simp only [Sem.run_bind, Sem.run_pure, Result.andThen_ok, newRow, e0, run_newObj]
          · rw [if_neg h0]
            simp only [Sem.run_bind, Sem.run_pure, Result.andThen_ok, newRow, hu0, zrow_eq, run_newObj]
        · exact ⟨w.heap.size, 0, _, Emb.add_same _ _ _, rfl⟩
      · cases hc
    · cases hc
  · cases hc
end
end Go.Proofs.YtjnfgapfhpihmaaGreat
namespace Go.Proofs.YtjnfgapfhpihmaaGreat
section
variable {P : Program} {E : Env} {ρ : Vn} {φ : Emb} {fr : Fr} {a : Act} {h h' : Hp} {w w' : World} {v : AV} {ty : TypeId}
theorem bytes_cells (y : ByteArray) : All2 (VC ρ φ) ((y.data.toList.map UInt8.toNat).map fun (n : Nat) => AC.i .u8 (Int.ofNat n)) (byteCells y) := by
  unfold byteCells
  generalize y.data.toList = l
  induction l with
  | nil => exact .nil
  | cons b l ih => exact .cons rfl ih
theorem row_ok (r : Rel ρ φ h w) {size n : Nat} {c : AC} {x : Value} {l : List AC} (hc : VC ρ φ c x) (e : h.row size c = some (n, l)) {tx : TypeId} (hk : (∃ e', P.underlying tx = some (.slice e')) ∨ P.underlying tx = some .string) : ∃ news, Src P size tx x n news w ∧ All2 (VC ρ φ) l news := by
  have slices : ∀ {b base tot off len cap : Nat} {id : Bid}, φ id = some (b, base, tot) → x = .slice (some ⟨b, base + off, none⟩) len cap → ob (h.lds id off (len * size)) (fun l => some (len, l)) = some (n, l) → ∃ news, Src P size tx x n news w ∧ All2 (VC ρ φ) l news := by
    intro b base tot off len cap id hid hx e
    obtain ⟨l', h1, e1⟩ := ob_some e
    cases e1
    obtain ⟨b', base', tot', vs, h2, h3, h4, h5⟩ := r.lds h1
    rw [hid] at h2
    cases h2
    subst hx
    exact ⟨vs, ⟨hk, fun _ => rfl, run_firstCells_some w size _ _ _ _ vs h3 (fun j u hu => by rw [Addr.add_lit]; exact h5 j u hu), run_firstCells_some w.drew size _ _ _ _ vs h3 (fun j u hu => by rw [Addr.add_lit]; simpa using h5 j u hu), h3, h4.ones⟩, h4⟩
  unfold Hp.row at e
  split at e
  · cases e
    rw [show x = .slice none 0 0 from hc]
    exact ⟨[], ⟨hk, fun _ => rfl, run_firstCells_none w size 0 0 0, run_firstCells_none w.drew size 0 0 0, by simp, fun _ h => by cases h⟩, .nil⟩
  · obtain ⟨b, base, tot, h1, h2⟩ := hc
    exact slices h1 h2 e
  · obtain ⟨_, e⟩ := bo_some e
    obtain ⟨b, base, tot, cap, h1, h2, _⟩ := hc
    exact slices h1 h2 e
  · cases e
    obtain ⟨b, base, tot, o, cap, h1, h2, _⟩ := hc
    subst h2
    exact ⟨[], ⟨hk, fun _ => rfl, run_firstCells_some w size 0 _ 0 cap [] (by simp) (fun j u hu => by simp at hu), run_firstCells_some w.drew size 0 _ 0 cap [] (by simp) (fun j u hu => by simp at hu), by simp, fun _ h => by cases h⟩, .nil⟩
  · obtain ⟨hb, e⟩ := bo_some e
    have hs : size = 1 := Nat.eq_of_beq_eq_true hb
    subst hs
    cases e
    obtain ⟨y, hy, hl⟩ := hc
    subst hy
    subst hl
    refine ⟨byteCells y, ⟨hk, fun _ => ?_, ?_, ?_, ?_, ?_⟩, bytes_cells y⟩
    · simp [Builtin.lenOf]
    · have := firstCells_string (P := P) y w
      simpa using this
    · have := firstCells_string (P := P) y w.drew
      simpa using this
    · simp [byteCells]
    · intro u hu
      obtain ⟨_, _, rfl⟩ := List.mem_map.1 hu
      rfl
  · cases e
structure SrcG (P : Program) (t tx e : TypeId) (i : TypeInfo) (z : Value) (x : Value) (n : Nat) (news : List Value) (w : World) : Prop where
  room : ∀ (ty : TypeId) (base : Option Addr) (sLen sCap : Nat) (w' : World), sLen + n ≤ sCap → (match base with | some a => (storeCells (a.add (sLen * i.size)) news).run P w = .ok () w' | none => w' = w) → (Builtin.append_ #[t, tx] ty #[.slice base sLen sCap, x]).run P w = .ok (.slice base (sLen + n) sCap) w'
  grow : ∀ (ty : TypeId) (base : Option Addr) (sLen sCap : Nat) (olds : List Value), (Builtin.firstCells i.size sLen (.slice base sLen sCap)).run P w.drew = .ok olds.toArray w.drew → sCap < sLen + n → sLen + n ≤ 1048576 → (sLen + n) * i.bytes ≤ 1048576 →
    ∃ rest : List Value, (Builtin.append_ #[t, tx] ty #[.slice base sLen sCap, x]).run P w = .ok (.slice (some ⟨w.heap.size, 0, none⟩) (sLen + n) (grownCap w (sLen + n) sCap e)) (w.drew.alloc (.cells (olds ++ news ++ rest).toArray e)) ∧ rest.length = (grownCap w (sLen + n) sCap e - (sLen + n)) * z.cells.size
theorem grown_ge (w : World) (need old : Nat) (e : TypeId) : need ≤ grownCap w need old e := by simp [grownCap, Question.cut]
theorem fits {need old b : Nat} (ho : old < need) (h1 : need ≤ 1048576) (h2 : need * b ≤ 1048576) (hb : b ≤ 1048576) : Builtin.nextslicecap need old * b ≤ 281474976710656 := by
  refine growslice_fits_wide ho ?_
  have h3 : (need + need / 4 + 192) * b = need * b + (need / 4) * b + 192 * b := by rw [Nat.add_mul, Nat.add_mul]
  have h4 : (need / 4) * b ≤ need * b := Nat.mul_le_mul_right _ (Nat.div_le_self _ _)
  omega
theorem SrcG.of {t tx e : TypeId} {i : TypeInfo} {z x : Value} {n : Nat} {news : List Value} (ht : P.underlying t = some (.slice e)) (hi : P.info? e = some i) (hz : i.zero = some z) (hb : i.bytes ≤ 1048576) (hs : Src P i.size tx x n news w) : SrcG P t tx e i z x n news w where
  room := by
    intro ty base sLen sCap w' hroom hst
    cases base with
    | none =>
      simp only at hst
      subst hst
      rcases hs.kind with ⟨e', hk⟩ | hk <;> simp [Builtin.append_, run_underlying ht, run_underlying hk, sizeOf, typeInfo, hi, hs.len, hroom, hs.cells]
    | some a =>
      simp only at hst
      rcases hs.kind with ⟨e', hk⟩ | hk <;> simp [Builtin.append_, run_underlying ht, run_underlying hk, sizeOf, typeInfo, hi, hs.len, hroom, hs.cells, hst]
  grow := by
    intro ty base sLen sCap olds hold hg h1 h2
    refine ⟨(Builtin.zeroCells z.cells (grownCap w (sLen + n) sCap e - (sLen + n))).toList, ?_, by simp [Builtin.zeroCells]⟩
    rw [run_append_grow_src (w := w) t tx ty e i z ht hi hz base sLen sCap olds hold x n news hs hg (by omega) (fits hg h1 h2 hb)]
    congr 2
    congr 1
    apply Array.ext'
    simp
theorem SrcG.zeros {t tx e : TypeId} {i : TypeInfo} {z : Value} {n : Nat} {kq kn : IntKind} (ht : P.underlying t = some (.slice e)) (htx : P.underlying tx = some (.int kn)) (hi : P.info? e = some i) (hz : i.zero = some z) (hb : i.bytes ≤ 1048576) (hs : 0 < i.size) (hzs : z.cells.size = i.size) (hn : n ≤ 1048576) (hnb : n * i.bytes ≤ 1048576) : SrcG P t tx e i z (.int kq n) n (zrow z.cells (n * i.size)) w where
  room := by
    intro ty base sLen sCap w' hroom hst
    have hw : IntKind.i64.wrap (n : Int) = n := IntWalk.i64_in _ (by omega)
    have hneg : ¬ ((n : Int) < 0) := by omega
    have h48i : ¬ (281474976710656 < (n : Int) * (i.bytes : Int)) := by
      rw [← Int.natCast_mul]; omega
    have hzc : Builtin.zeroCells z.cells n = (zrow z.cells (n * i.size)).toArray := by
      rw [← hzs]; exact zrow_eq z.cells _
    by_cases h0 : n * i.size = 0
    · have hzr : zrow z.cells (n * i.size) = [] := by rw [h0]; rfl
      rw [hzr] at hst
      cases base with
      | none =>
        simp only at hst
        subst hst
        simp [Builtin.append_, run_underlying ht, run_underlying htx, sizeOf, typeInfo, hi, asInt, asIntOf, hw, hneg, h48i, hroom, h0]
      | some a =>
        simp only at hst
        simp [Builtin.append_, run_underlying ht, run_underlying htx, sizeOf, typeInfo, hi, asInt, asIntOf, hw, hneg, h48i, hroom, h0, hst]
    · cases base with
      | none =>
        simp only at hst
        subst hst
        simp [Builtin.append_, run_underlying ht, run_underlying htx, sizeOf, typeInfo, zeroValue, hi, hz, asInt, asIntOf, hw, hneg, h48i, hroom, h0]
      | some a =>
        simp only at hst
        simp [Builtin.append_, run_underlying ht, run_underlying htx, sizeOf, typeInfo, zeroValue, hi, hz, asInt, asIntOf, hw, hneg, h48i, hroom, h0, hzc, hst]
  grow := by
    intro ty base sLen sCap olds hold hg h1 h2
    refine ⟨(Builtin.zeroCells z.cells (grownCap w (sLen + n) sCap e - (sLen + n))).toList, ?_, by simp [Builtin.zeroCells]⟩
    by_cases hn0 : n = 0
    · subst hn0
      have hn' : ¬ (sLen + 0 ≤ sCap) := by omega
      have h63' : ¬ (9223372036854775807 < ((sLen : Int))) := by omega
      have h48' : ¬ (281474976710656 < Builtin.nextslicecap sLen sCap * i.bytes) := by
        have := fits hg h1 h2 hb
        rw [Nat.add_zero] at this
        omega
      have hw : IntKind.i64.wrap (0 : Int) = 0 := IntWalk.i64_in _ (by omega)
      simp at hn'
      have hn2 : ¬ sLen ≤ sCap := by omega
      simp [Builtin.append_, run_underlying ht, run_underlying htx, sizeOf, typeInfo, zeroValue, hi, hz, asInt, asIntOf, hw, hn2, h63', h48', Question.forced, hold, newRow, grownCap, zrow]
      congr 2
      apply Array.ext'
      simp
    · rw [Lib.run_append_grow_zeros w t tx ty e i z kq kn ht htx hi hz base sLen sCap olds hold n (by omega) hs hg (by omega) (by omega) (fits hg h1 h2 hb)]
      have hzc : Builtin.zeroCells z.cells n = (zrow z.cells (n * i.size)).toArray := by
        rw [← hzs]; exact zrow_eq z.cells _
      rw [hzc]
      congr 2
      congr 1
      apply Array.ext'
      simp
theorem Rel.reuse (r : Rel ρ φ h w) {n id : Bid} (hn : h.next.inc = some n) {b base base' : Nat} {arr arr' : Array Value} {T : TypeId} {c c' : List AC} (hid : h.get id = some (.cells c')) (hφ : φ id = some (b, base, arr.size)) (hb : w.heap[b]? = some (.cells arr T (0, 0))) (hsz : arr'.size = arr.size)
    (hc : CellsAt ρ φ c base' arr') : Stp ρ φ h w (φ.add h.next (b, base', arr.size)) ((h.drop id).more n (.cells c)) (w.setRow b arr') := by
  have hf : φ h.next = none := r.free _ (Nat.le_refl _)
  have hle := Emb.le_add hf (b, base', arr.size)
  have hnn := Bid.inc_num hn
  have hlive : (h.get id).isSome := by rw [hid]; rfl
  have hidn : id ≠ h.next := by
    rintro rfl
    have := r.low _ hlive
    omega
  have hdn : (h.drop id).next = h.next := Hp.next_putB _ _ _
  have hnew := setRow_heap w b arr arr' T (0, 0) hb
  have hg1 : ((h.drop id).more n (.cells c)).get h.next = some (.cells c) := by rw [← hdn]; exact Hp.get_more_same _ _ _
  have hg2 : ∀ j, j ≠ h.next → ((h.drop id).more n (.cells c)).get j = if j = id then none else h.get j := by
    intro j hj
    rw [Hp.get_more_ne (by rw [hdn]; exact hj)]
    by_cases hji : j = id
    · subst hji; rw [if_pos rfl]; exact Hp.get_putB _ _ _
    · rw [if_neg hji]; exact Hp.get_putB_ne hji _ _
  have hg3 : ∀ j, j ≠ h.next → (((h.drop id).more n (.cells c)).get j).isSome → j ≠ id ∧ (h.get j).isSome := by
    intro j hj hs
    rw [hg2 j hj] at hs
    by_cases hji : j = id
    · rw [if_pos hji] at hs; cases hs
    · rw [if_neg hji] at hs; exact ⟨hji, hs⟩
  have hne : ∀ j x, j ≠ id → (h.get j).isSome → φ j = some x → x.1 ≠ b := fun j x hj hs hx he => hj (r.inj j id x _ hs hlive hx hφ he)
  refine Stp.mk' r.frz hle ⟨?_, ?_, ?_, ?_, ?_, ?_⟩ (by simp) ?_ ?_ ?_ ?_ rfl rfl rfl
  · intro j d hd
    by_cases hj : j = h.next
    · subst hj
      rw [hg1] at hd
      cases hd
      exact ⟨b, base', arr', T, by rw [Emb.add_same, hsz], hnew, hc.le hle⟩
    · obtain ⟨hji, hs⟩ := hg3 j hj (by rw [hd]; rfl)
      rw [hg2 j hj, if_neg hji] at hd
      obtain ⟨b2, base2, arr2, T2, k1, k2, k3⟩ := r.cells j d hd
      refine ⟨b2, base2, arr2, T2, by rw [Emb.add_ne hj]; exact k1, ?_, k3.le hle⟩
      rw [setRow_other _ _ _ _ (hne j _ hji hs k1)]
      exact k2
  · intro j l hd
    by_cases hj : j = h.next
    · subst hj; rw [hg1] at hd; cases hd
    · obtain ⟨hji, hs⟩ := hg3 j hj (by rw [hd]; rfl)
      rw [hg2 j hj, if_neg hji] at hd
      obtain ⟨b2, es, cl, k1, k2, k3⟩ := r.maps j l hd
      refine ⟨b2, es, cl, by rw [Emb.add_ne hj]; exact k1, ?_, k3.mono fun _ _ h => ⟨h.1.le hle, h.2.le hle⟩⟩
      rw [setRow_other _ _ _ _ (hne j _ hji hs k1)]
      exact k2
  · intro j d y hd
    by_cases hj : j = h.next
    · subst hj; rw [hg1] at hd; cases hd
    · obtain ⟨hji, hs⟩ := hg3 j hj (by rw [hd]; rfl)
      rw [hg2 j hj, if_neg hji] at hd
      obtain ⟨b2, arr2, T2, k1, k2, k3⟩ := r.rows j d y hd
      refine ⟨b2, arr2, T2, by rw [Emb.add_ne hj]; exact k1, ?_, k3⟩
      rw [setRow_other _ _ _ _ (hne j _ hji hs k1)]
      exact k2
  · intro i j x y hi hj hx hy he
    by_cases h1 : i = h.next
    · by_cases h2 : j = h.next
      · rw [h1, h2]
      · subst h1
        rw [Emb.add_same] at hx
        cases hx
        obtain ⟨hji, hs⟩ := hg3 j h2 hj
        rw [Emb.add_ne h2] at hy
        exact absurd he.symm (hne j y hji hs hy)
    · by_cases h2 : j = h.next
      · subst h2
        rw [Emb.add_same] at hy
        cases hy
        obtain ⟨hji, hs⟩ := hg3 i h1 hi
        rw [Emb.add_ne h1] at hx
        exact absurd he (hne i x hji hs hx)
      · rw [Emb.add_ne h1] at hx
        rw [Emb.add_ne h2] at hy
        exact r.inj i j x y (hg3 i h1 hi).2 (hg3 j h2 hj).2 hx hy he
  · intro i hi
    show i.num < n.num
    by_cases h1 : i = h.next
    · subst h1; omega
    · have := r.low i (hg3 i h1 hi).2
      omega
  · intro i hi
    have hi' : n.num ≤ i.num := hi
    have h1 : i ≠ h.next := by rintro rfl; omega
    rw [Emb.add_ne h1]
    exact r.free i (by omega)
  · intro k hk hn
    exact setRow_other _ _ _ _ fun e => hn id _ hlive hφ e.symm
  · intro i x hi hx _
    by_cases h1 : i = h.next
    · subst h1
      rw [Emb.add_same] at hx
      cases hx
      exact ⟨id, _, hlive, hφ, rfl⟩
    · rw [Emb.add_ne h1] at hx
      exact ⟨i, x, (hg3 i h1 hi).2, hx, rfl⟩
  · show h.next.num ≤ n.num
    omega
  · intro i hi
    by_cases h1 : i = h.next
    · subst h1; exact .inr (Nat.le_refl _)
    · rw [Emb.add_ne h1] at hi; exact .inl hi
theorem Rel.grown (r : Rel ρ φ h w) {n : Bid} (hn : h.next.inc = some n) {c : List AC} {vs : List Value} (hv : All2 (VC ρ φ) c vs) (rest : List Value) (T : TypeId) : Stp ρ φ h w (φ.add h.next (w.heap.size, 0, vs.length + rest.length)) (h.more n (.cells c)) (w.drew.alloc (.cells (vs ++ rest).toArray T)) :=
  r.alloc hn hv rest T rfl rfl rfl rfl
theorem Stp.drop {φ' : Emb} {id : Bid} (s : Stp ρ φ h w φ' h' w') (hid : id.num < h.next.num) : Stp ρ φ h w φ' (h'.drop id) w' := by
  have hl : ∀ j, ((h'.drop id).get j).isSome → j ≠ id ∧ (h'.get j).isSome := by
    intro j hj
    by_cases hji : j = id
    · subst hji
      have : (h'.drop j).get j = none := Hp.get_putB _ _ _
      rw [this] at hj; cases hj
    · have : (h'.drop id).get j = h'.get j := Hp.get_putB_ne hji _ _
      rw [this] at hj; exact ⟨hji, hj⟩
  have hg : ∀ j, ((h'.drop id).get j).isSome → (h'.drop id).get j = h'.get j := fun j hj => Hp.get_putB_ne (hl j hj).1 _ _
  have hnx : (h'.drop id).next = h'.next := Hp.next_putB _ _ _
  exact ⟨s.le, ⟨⟨fun j c hc => s.rel.cells j c (by rw [← hg j (by rw [hc]; rfl)]; exact hc), fun j l hc => s.rel.maps j l (by rw [← hg j (by rw [hc]; rfl)]; exact hc), fun j d y hc => s.rel.rows j d y (by rw [← hg j (by rw [hc]; rfl)]; exact hc), fun i j x y hi hj => s.rel.inj i j x y (hl i hi).2 (hl j hj).2, fun i hi => by rw [hnx]; exact s.rel.low i (hl i hi).2, fun i hi => s.rel.free i (by rw [← hnx]; exact hi)⟩, ⟨s.rel.frz.zin, fun b x hb => ⟨(s.rel.frz.at_ b x hb).1, fun i y hi => (s.rel.frz.at_ b x hb).2 i y (hl i hi).2⟩⟩⟩,
    s.size, s.frame, fun i x hi => s.sub i x (hl i hi).2, by rw [hnx]; exact s.next, s.dom, s.os, s.tape, s.output, s.zdom⟩
theorem drop_more {id n : Bid} {B : AB} (hne : id ≠ h.next) : ∀ j, ((h.drop id).more n B).get j = ((h.more n B).drop id).get j := by
  intro j
  have hdn : (h.drop id).next = h.next := Hp.next_putB _ _ _
  by_cases hji : j = id
  · subst hji
    rw [show ((h.more n B).drop j).get j = none from Hp.get_putB _ _ _, Hp.get_more_ne (by rw [hdn]; exact hne)]
    exact Hp.get_putB _ _ _
  · rw [show ((h.more n B).drop id).get j = (h.more n B).get j from Hp.get_putB_ne hji _ _]
    by_cases hjn : j = h.next
    · subst hjn
      have h1 : ((h.drop id).more n B).get h.next = some B := by rw [← hdn]; exact Hp.get_more_same _ _ _
      rw [h1, Hp.get_more_same]
    · rw [Hp.get_more_ne (by rw [hdn]; exact hjn), Hp.get_more_ne hjn]
      exact Hp.get_putB_ne hji _ _
theorem Stp.alike {φ' : Emb} {k : Hp} (s : Stp ρ φ h w φ' h' w') (hg : ∀ j, k.get j = h'.get j) (hn : k.next = h'.next) : Stp ρ φ h w φ' k w' :=
  ⟨s.le, ⟨⟨fun j c hc => s.rel.cells j c (by rw [← hg]; exact hc), fun j l hc => s.rel.maps j l (by rw [← hg]; exact hc), fun j d y hc => s.rel.rows j d y (by rw [← hg]; exact hc), fun i j x y hi hj => s.rel.inj i j x y (by rw [← hg]; exact hi) (by rw [← hg]; exact hj), fun i hi => by rw [hn]; exact s.rel.low i (by rw [← hg]; exact hi), fun i hi => s.rel.free i (by rw [← hn]; exact hi)⟩, ⟨s.rel.frz.zin, fun b x hb => ⟨(s.rel.frz.at_ b x hb).1, fun i y hi => (s.rel.frz.at_ b x hb).2 i y (by rw [← hg]; exact hi)⟩⟩⟩,
    s.size, s.frame, fun i x hi => s.sub i x (by rw [← hg]; exact hi), by rw [hn]; exact s.next, s.dom, s.os, s.tape, s.output, s.zdom⟩
end
end Go.Proofs.YtjnfgapfhpihmaaGreat
namespace Go.Proofs.YtjnfgapfhpihmaaGreat
section
variable {P : Program} {E : Env} {ρ : Vn} {φ : Emb} {fr : Fr} {a : Act} {h h' : Hp} {w w' : World} {v : AV} {ty : TypeId}
theorem grow_room {len n cap size rest : Nat} (hc : len + n ≤ cap) (hr : rest = (cap - (len + n)) * size) : 0 + 0 + cap * size ≤ (len + n) * size + rest := by
  have : (len + n) * size + (cap - (len + n)) * size = cap * size := by rw [← Nat.add_mul]; congr 1; omega
  omega
theorem append_ok (r : Rel ρ φ h w) {t tx el : TypeId} {i : TypeInfo} {z x y : Value} {c : AC} {n size bytes : Nat} {new' : List AC} {news : List Value} (hx : VC ρ φ c x) (S : SrcG P t tx el i z y n news w) (hnew : All2 (VC ρ φ) new' news) (hnl : news.length = n * size)
    (hsz : i.size = size) (hby : i.bytes = bytes) (hz : z.cells.size = size) (hs : 0 < size) (e : appendTo size bytes c n new' h = .ok v h') : ∃ u w' φ', (Builtin.append_ #[t, tx] ty #[x, y]).run P w = .ok u w' ∧ VV ρ φ' v u ∧ Stp ρ φ h w φ' h' w' := by
  have nlen := hnew.length
  have growing : ∀ {k : Hp} {m : Bid} {base : Option Addr} {sLen sCap : Nat} {old : List AC} {olds : List Value}, x = .slice base sLen sCap → h.next.inc = some m → All2 (VC ρ φ) old olds → olds.length = sLen * size → (Builtin.firstCells size sLen (.slice base sLen sCap)).run P w.drew = .ok olds.toArray w.drew → sCap < sLen + n → sLen + n ≤ 1048576 → (sLen + n) * bytes ≤ 1048576 →
      (∀ j, k.get j = (h.more m (.cells (old ++ new'))).get j) → k.next = m →
      ∃ u w' φ', (Builtin.append_ #[t, tx] ty #[x, y]).run P w = .ok u w' ∧ VV ρ φ' (.c (.su h.next 0 (sLen + n) (sLen + n) size)) u ∧ Stp ρ φ h w φ' k w' := by
    intro k m base sLen sCap old olds hxs hm hold hol hf hg h1 h2 hk hkn
    obtain ⟨rest, h3, h4⟩ := S.grow ty base sLen sCap olds (by rw [hsz]; exact hf) hg h1 (by rw [hby]; exact h2)
    refine ⟨_, _, _, by rw [hxs]; exact h3, ?_, (r.grown hm (hold.append hnew) rest el).alike hk (by rw [hkn]; rfl)⟩
    refine ⟨w.heap.size, 0, _, grownCap w (sLen + n) sCap el, Emb.add_same _ _ _, rfl, Nat.le_refl _, grown_ge _ _ _ _, ?_⟩
    rw [List.length_append, hol, hnl, ← Nat.add_mul]
    exact grow_room (grown_ge _ _ _ _) (by rw [h4, hz])
  unfold appendTo at e
  split at e
  · -- nil
    have hx0 : x = .slice none 0 0 := hx
    cases hb : Nat.beq n 0 with
    | true =>
      rw [hb] at e
      cases e
      have n0 : n = 0 := Nat.eq_of_beq_eq_true hb
      refine ⟨.slice none 0 0, w, φ, ?_, rfl, Stp.refl r⟩
      have := S.room ty none 0 0 w (by omega) rfl
      rw [hx0, this, n0]
    | false =>
      rw [hb] at e
      obtain ⟨hb2, e2⟩ := br_ok e
      obtain ⟨hb3, hb4⟩ := and2 hb2
      obtain ⟨m, hm, rfl, rfl⟩ := new_ok e2
      have l1 : n ≤ 1048576 := Nat.le_of_ble_eq_true hb3
      have l2 : n * bytes ≤ 1048576 := Nat.le_of_ble_eq_true hb4
      have hn0 : n ≠ 0 := by intro h0; rw [h0] at hb; cases hb
      have := growing (k := h.more m (.cells new')) (old := []) (olds := []) hx0 hm .nil (by simp) (run_firstCells_none w.drew size 0 0 0) (by omega) (by omega) (by simpa using l2) (fun j => rfl) rfl
      simpa using this
  · -- a slice with a known capacity
    rename_i id off len cap
    obtain ⟨b, base, tot, h1, h2⟩ := hx
    cases hb : Nat.ble (len + n) cap with
    | true =>
      rw [hb] at e
      simp only [cond_true] at e
      obtain ⟨h2', h3, e2⟩ := ro_ok e
      cases e2
      have hroom : len + n ≤ cap := Nat.le_of_ble_eq_true hb
      obtain ⟨w', h4, h5⟩ := run_stores (P := P) r hnew h3 h1
      refine ⟨.slice (some ⟨b, base + off, none⟩) (len + n) cap, w', φ, ?_, ⟨b, base, tot, h1, rfl⟩, h5⟩
      rw [h2]
      refine S.room ty _ len cap w' hroom ?_
      simp only
      rw [hsz, Addr.add_lit, Nat.add_assoc]
      exact h4
    | false =>
      rw [hb] at e
      simp only [cond_false] at e
      obtain ⟨hb2, e2⟩ := br_ok e
      obtain ⟨hb3, hb4⟩ := and2 hb2
      obtain ⟨old, h3, e3⟩ := ro_ok e2
      obtain ⟨m, hm, rfl, rfl⟩ := new_ok e3
      have hg : cap < len + n := by
        rcases Nat.lt_or_ge cap (len + n) with h | h
        · exact h
        · rw [Nat.ble_eq_true_of_le h] at hb; cases hb
      obtain ⟨b', base', tot', vs, h4, h5, h6, h7⟩ := r.lds h3
      rw [h1] at h4
      cases h4
      exact growing h2 hm h6 h5 (run_firstCells_some w.drew size len _ len cap vs h5 (fun j u hu => by rw [Addr.add_lit]; simpa using h7 j u hu)) hg (Nat.le_of_ble_eq_true hb3) (Nat.le_of_ble_eq_true hb4) (fun j => rfl) rfl
  · -- a slice with an unknown capacity
    rename_i id off len lb es
    obtain ⟨he, e1⟩ := br_ok e
    have hes : es = size := Nat.eq_of_beq_eq_true he
    subst hes
    obtain ⟨b, base, tot, cap, h1, h2, h3, h4, h5⟩ := hx
    cases hb : Nat.ble (len + n) lb with
    | true =>
      rw [hb] at e1
      simp only [cond_true] at e1
      obtain ⟨h2', h6, e2⟩ := ro_ok e1
      cases e2
      have hroom : len + n ≤ lb := Nat.le_of_ble_eq_true hb
      obtain ⟨w', h7, h8⟩ := run_stores (P := P) r hnew h6 h1
      refine ⟨.slice (some ⟨b, base + off, none⟩) (len + n) cap, w', φ, ?_, ⟨b, base, tot, cap, h1, rfl, hroom, h4, h5⟩, h8⟩
      rw [h2]
      refine S.room ty _ len cap w' (by omega) ?_
      simp only
      rw [hsz, Addr.add_lit, Nat.add_assoc]
      exact h7
    | false =>
      rw [hb] at e1
      simp only [cond_false] at e1
      obtain ⟨hb2, e2⟩ := br_ok e1
      obtain ⟨hb3, hb4⟩ := and2 hb2
      obtain ⟨old, h6, e3⟩ := ro_ok e2
      obtain ⟨m, hm0, rfl, rfl⟩ := new_ok e3
      have hdn : (h.drop id).next = h.next := Hp.next_putB _ _ _
      have hm : h.next.inc = some m := by rw [← hdn]; exact hm0
      obtain ⟨b', base', tot', vs, h7, h8, h9, h10⟩ := r.lds h6
      rw [h1] at h7
      cases h7
      obtain ⟨c0, hc0, _⟩ := ob_some h6
      obtain ⟨bk, hbk, hk0⟩ := ob_some hc0
      cases bk with
      | map l => cases hk0
      | row e y => cases hk0
      | cells c1 =>
        cases hk0
        obtain ⟨b2, base2, arr, T, k1, k2, k3⟩ := r.cells id c0 hbk
        rw [h1] at k1
        cases k1
        have hidn : id ≠ h.next := by
          rintro rfl
          have := r.low _ (by rw [hbk]; rfl)
          omega
        rw [hdn]
        by_cases hroom : len + n ≤ cap
        · -- in its place
          have hfit : base + off + len * es + news.length ≤ arr.size := by
            rw [hnl, Nat.add_assoc (base + off), ← Nat.add_mul]
            have : (len + n) * es ≤ cap * es := Nat.mul_le_mul_right _ hroom
            omega
          have hst := run_storeCells_at P b (base + off + len * es) T news 0 arr w k2 (by simpa using hfit) hnew.ones
          have hsz' : (arr.toList.take (base + off + len * es + 0) ++ news ++ arr.toList.drop (base + off + len * es + 0 + news.length)).toArray.size = arr.size := by simp; omega
          refine ⟨.slice (some ⟨b, base + off, none⟩) (len + n) cap, _, φ.add h.next (b, base + off, arr.size), ?_, ?_, r.reuse (c := old ++ new') hm hbk h1 k2 hsz' ?_⟩
          · rw [h2]
            refine S.room ty _ len cap _ hroom ?_
            simp only
            rw [hsz, Addr.add_lit]
            exact hst
          · exact ⟨b, base + off, arr.size, cap, Emb.add_same _ _ _, rfl, Nat.le_refl _, hroom, h5⟩
          · have hol := h9.length
            have hlen2 : (arr.toList.take (base + off + len * es + 0)).length = base + off + len * es := by simp; omega
            refine ⟨by simp; omega, fun o q hq => ?_⟩
            rw [List.getElem?_toArray, List.append_assoc]
            by_cases ho : o < old.length
            · rw [List.getElem?_append_left ho] at hq
              obtain ⟨u, hu1, hu2⟩ := h9.get hq
              refine ⟨u, ?_, hu2⟩
              rw [List.getElem?_append_left (by rw [hlen2]; omega), List.getElem?_take_of_lt (by omega), Array.getElem?_toList]
              have := h10 o u hu1
              rwa [cell_of_row w b _ arr T _ k2] at this
            · rw [List.getElem?_append_right (by omega)] at hq
              obtain ⟨u, hu1, hu2⟩ := hnew.get hq
              refine ⟨u, ?_, hu2⟩
              have hlt : o - old.length < news.length := (List.getElem?_eq_some_iff.1 hu1).1
              rw [List.getElem?_append_right (by rw [hlen2]; omega), hlen2, List.getElem?_append_left (by omega), ← hu1]
              congr 1
              omega
        · -- a new row
          refine growing h2 hm h9 h8 (run_firstCells_some w.drew es len _ len cap vs h8 (fun j u hu => by rw [Addr.add_lit]; exact h10 j u hu)) (by omega) (Nat.le_of_ble_eq_true hb3) (Nat.le_of_ble_eq_true hb4) ?_ ?_ |> fun ⟨u, w', φ', q1, q2, q3⟩ => ⟨u, w', φ', q1, q2, (q3.drop (id := id) (r.low id (by rw [hbk]; rfl))).alike (drop_more hidn) ?_⟩
          · exact fun j => rfl
          · rfl
          · rw [show ((h.more m (AB.cells (old ++ new'))).drop id).next = m from Hp.next_putB _ _ _]; rfl
  · -- an empty slice in a block
    rename_i id es
    obtain ⟨he, e1⟩ := br_ok e
    have hes : es = size := Nat.eq_of_beq_eq_true he
    subst hes
    obtain ⟨b, base, tot, o, cap, h1, h2, h3⟩ := hx
    cases hb : Nat.beq n 0 with
    | true =>
      rw [hb] at e1
      simp only [cond_true] at e1
      cases e1
      have n0 : n = 0 := Nat.eq_of_beq_eq_true hb
      have hn0 : news = [] := List.eq_nil_of_length_eq_zero (by rw [hnl, n0]; simp)
      refine ⟨.slice (some ⟨b, o, none⟩) 0 cap, w, φ, ?_, ⟨b, base, tot, o, cap, h1, rfl, h3⟩, Stp.refl r⟩
      have := S.room ty (some ⟨b, o, none⟩) 0 cap w (by omega) (by simp only; rw [hn0]; rfl)
      rw [h2, this, n0]
    | false =>
      rw [hb] at e1
      simp only [cond_false] at e1
      obtain ⟨hb2, e2⟩ := br_ok e1
      obtain ⟨hb3, hb4⟩ := and2 hb2
      obtain ⟨c0, hc0, e3⟩ := ro_ok e2
      obtain ⟨m, hm0, rfl, rfl⟩ := new_ok e3
      have hdn : (h.drop id).next = h.next := Hp.next_putB _ _ _
      have hm : h.next.inc = some m := by rw [← hdn]; exact hm0
      obtain ⟨bk, hbk, hk0⟩ := ob_some hc0
      cases bk with
      | map l => cases hk0
      | row e y => cases hk0
      | cells c1 =>
        cases hk0
        obtain ⟨b2, base2, arr, T, k1, k2, k3⟩ := r.cells id c0 hbk
        rw [h1] at k1
        cases k1
        have hidn : id ≠ h.next := by
          rintro rfl
          have := r.low _ (by rw [hbk]; rfl)
          omega
        rw [hdn]
        by_cases hroom : 0 + n ≤ cap
        · have hfit : o + news.length ≤ arr.size := by
            rw [hnl]
            have : n * es ≤ cap * es := Nat.mul_le_mul_right _ (by omega)
            omega
          have hst := run_storeCells_at P b o T news 0 arr w k2 (by simpa using hfit) hnew.ones
          have hsz' : (arr.toList.take (o + 0) ++ news ++ arr.toList.drop (o + 0 + news.length)).toArray.size = arr.size := by simp; omega
          refine ⟨.slice (some ⟨b, o, none⟩) (0 + n) cap, _, φ.add h.next (b, o, arr.size), ?_, ?_, r.reuse (c := new') hm hbk h1 k2 hsz' ?_⟩
          · rw [h2]
            refine S.room ty _ 0 cap _ hroom ?_
            simp only
            rw [Nat.zero_mul, Addr.add_lit]
            exact hst
          · exact ⟨b, o, arr.size, cap, Emb.add_same _ _ _, by simp, Nat.le_refl _, by omega, by omega⟩
          · have hlen2 : (arr.toList.take (o + 0)).length = o := by simp; omega
            refine ⟨by simp; omega, fun p q hq => ?_⟩
            rw [List.getElem?_toArray, List.append_assoc]
            obtain ⟨u, hu1, hu2⟩ := hnew.get hq
            refine ⟨u, ?_, hu2⟩
            have hlt : p < news.length := (List.getElem?_eq_some_iff.1 hu1).1
            rw [List.getElem?_append_right (by rw [hlen2]; omega), hlen2, List.getElem?_append_left (by omega), ← hu1]
            congr 1
            omega
        · have l1 : n ≤ 1048576 := Nat.le_of_ble_eq_true hb3
          have l2 : n * bytes ≤ 1048576 := Nat.le_of_ble_eq_true hb4
          obtain ⟨u, w', φ', q1, q2, q3⟩ := growing (k := h.more m (.cells ([] ++ new'))) (old := []) (olds := []) h2 hm .nil (by simp) (run_firstCells_some w.drew es 0 _ 0 cap [] (by simp) (fun j u hu => by simp at hu)) (by omega) (by omega) (by simpa using l2) (fun j => rfl) rfl
          refine ⟨u, w', φ', q1, by simpa using q2, (q3.drop (id := id) (r.low id (by rw [hbk]; rfl))).alike (drop_more hidn) ?_⟩
          rw [show ((h.more m (AB.cells ([] ++ new'))).drop id).next = m from Hp.next_putB _ _ _]; rfl
  · cases e
end
end Go.Proofs.YtjnfgapfhpihmaaGreat
namespace Go.Proofs.YtjnfgapfhpihmaaGreat
def Emb.frz (φ : Emb) (b : Nat) (x : Obj) : Emb := ⟨φ.m, fun c => if c = b then some x else φ.z c⟩
theorem Emb.frz_same (φ : Emb) (b : Nat) (x : Obj) : (φ.frz b x).z b = some x := by simp [Emb.frz]
theorem RowD.len {z : Nat → Option Obj} : ∀ {e : Sh} {l : List DV} {vs : List Value}, RowD z e l vs → vs.length = e.len
  | .nil, _, _, ⟨_, h⟩ => by rw [h]; rfl
  | .b e, _, _, ⟨x, l', vs', h1, h2, h3⟩ => by rw [h2]; simp [Sh.len, RowD.len h3]
  | .i _ e, _, _, ⟨x, l', vs', h1, h2, h3⟩ => by rw [h2]; simp [Sh.len, RowD.len h3]
  | .s e, _, _, ⟨x, l', vs', h1, h2, h3⟩ => by rw [h2]; simp [Sh.len, RowD.len h3]
  | .sl d e, _, _, ⟨rows, v, l', vs', h1, h2, h3, h4⟩ => by rw [h2]; simp [Sh.len, RowD.len h4]
section
variable {P : Program} {E : Env} {ρ : Vn} {φ φ' : Emb} {fr : Fr} {a : Act} {h h' : Hp} {w w' : World} {v : AV} {ty : TypeId}
theorem Rel.grow (r : Rel ρ φ h w) (hs : w.heap.size ≤ w'.heap.size) (hk : ∀ b, b < w.heap.size → w'.heap[b]? = w.heap[b]?) : Rel ρ φ h w' :=
  ⟨⟨fun id c hc => (by
    obtain ⟨bl, base, arr, T, h1, h2, h3⟩ := r.cells id c hc
    exact ⟨bl, base, arr, T, h1, by rw [hk _ (r.block (by rw [hc]; rfl) h1)]; exact h2, h3⟩),
   fun id l hc => (by
    obtain ⟨bl, es, cl, h1, h2, h3⟩ := r.maps id l hc
    exact ⟨bl, es, cl, h1, by rw [hk _ (r.block (by rw [hc]; rfl) h1)]; exact h2, h3⟩),
   fun id d y hc => (by
    obtain ⟨bl, arr, T, h1, h2, h3⟩ := r.rows id d y hc
    exact ⟨bl, arr, T, h1, by rw [hk _ (r.block (by rw [hc]; rfl) h1)]; exact h2, h3⟩),
   r.inj, r.low, r.free⟩, ⟨r.frz.zin, fun g x hg => ⟨(hk g (Array.getElem?_eq_some_iff.1 (r.frz.at_ g x hg).1).1).trans (r.frz.at_ g x hg).1, (r.frz.at_ g x hg).2⟩⟩⟩
theorem Stp.grow (r : Rel ρ φ h w) (hs : w.heap.size ≤ w'.heap.size) (hk : ∀ b, b < w.heap.size → w'.heap[b]? = w.heap[b]?) (ho : w'.os = w.os) (ht : w'.tape = w.tape) (hp : w'.output = w.output) : Stp ρ φ h w φ h w' :=
  ⟨.refl _, r.grow hs hk, hs, fun b hb _ => hk b hb, fun id x hl hx _ => ⟨id, x, hl, hx, rfl⟩, Nat.le_refl _, fun _ h => .inl h, ho, ht, hp, fun _ _ h => .inl h⟩
theorem Stp.freeze (s : Stp ρ φ h w φ' h' w') {b : Nat} {x : Obj} (hb : w'.heap[b]? = some x) (hn : ∀ id y, (h'.get id).isSome → φ' id = some y → y.1 ≠ b) (hd : w.heap.size ≤ b) : Stp ρ φ h w (φ'.frz b x) h' w' := by
  have hle : φ'.le (φ'.frz b x) := ⟨fun _ _ h => h, fun c y hc => by
    show (if c = b then some x else φ'.z c) = some y
    split
    · rename_i hcb
      subst hcb
      rw [← (s.rel.frz.at_ c y hc).1, hb]
    · exact hc⟩
  refine ⟨s.le.trans hle, ⟨⟨fun id c hc => ?_, fun id l hc => ?_, fun id d y hc => ?_, s.rel.inj, s.rel.low, s.rel.free⟩, ⟨fun c y hc => hle.z c y (s.rel.frz.zin c y hc), fun c y hc => ?_⟩⟩, s.size, s.frame, s.sub, s.next, s.dom, s.os, s.tape, s.output, fun c y hc => ?_⟩
  · obtain ⟨bl, base, arr, T, h1, h2, h3⟩ := s.rel.cells id c hc
    exact ⟨bl, base, arr, T, h1, h2, h3.le hle⟩
  · obtain ⟨bl, es, cl, h1, h2, h3⟩ := s.rel.maps id l hc
    exact ⟨bl, es, cl, h1, h2, h3.mono fun _ _ h => ⟨h.1.le hle, h.2.le hle⟩⟩
  · obtain ⟨bl, arr, T, h1, h2, h3⟩ := s.rel.rows id d y hc
    exact ⟨bl, arr, T, h1, h2, h3.le hle.z⟩
  · have hc' : (if c = b then some x else φ'.z c) = some y := hc
    split at hc'
    · rename_i hcb
      subst hcb
      cases hc'
      exact ⟨hb, fun id z hi hz => hn id z hi hz⟩
    · exact s.rel.frz.at_ c y hc'
  · have hc' : (if c = b then some x else φ'.z c) = some y := hc
    split at hc'
    · rename_i hcb
      subst hcb
      exact .inr (.inl hd)
    · exact s.zdom c y hc'
theorem SlD.cells {e : Sh} {rows : List (List DV)} {p : Option Addr} {cap : Nat} (hpos : 0 < e.len) (r : Rel ρ φ h w) (hs : SlD φ.z e rows (.slice p rows.length cap)) : ∃ olds : List Value, olds.length = rows.length * e.len ∧ (Builtin.firstCells e.len rows.length (.slice p rows.length cap)).run P w = .ok olds.toArray w ∧ (Builtin.firstCells e.len rows.length (.slice p rows.length cap)).run P w.drew = .ok olds.toArray w.drew ∧
    ∀ (i : Nat) row, rows[i]? = some row → RowD φ.z e row ((olds.drop (i * e.len)).take e.len) := by
  obtain ⟨p', cap', h1, h2, h3⟩ := hs
  cases h1
  rcases h3 with h3 | ⟨b, off, arr, T, fz, rfl, h5, h6⟩
  · subst h3
    refine ⟨[], by simp, ?_, ?_, fun i row hr => by simp at hr⟩
    · cases p with
      | none => exact run_firstCells_none w _ _ _ _
      | some q => exact run_firstCells_some w _ _ _ _ _ [] (by simp) (fun j u hu => by simp at hu)
    · cases p with
      | none => exact run_firstCells_none w.drew _ _ _ _
      | some q => exact run_firstCells_some w.drew _ _ _ _ _ [] (by simp) (fun j u hu => by simp at hu)
  · have hblk := (r.frz.at_ b _ h5).1
    by_cases h0 : rows.length = 0
    · have hr0 : rows = [] := List.eq_nil_of_length_eq_zero h0
      subst hr0
      exact ⟨[], by simp, run_firstCells_some w _ _ _ _ _ [] (by simp) (fun j u hu => by simp at hu), run_firstCells_some w.drew _ _ _ _ _ [] (by simp) (fun j u hu => by simp at hu), fun i row hr => by simp at hr⟩
    have hlt : rows.length - 1 < rows.length := by omega
    have hl1 := RowD.len (h6 (rows.length - 1) rows[rows.length - 1] (List.getElem?_eq_getElem hlt))
    rw [List.length_take, List.length_drop, Array.length_toList] at hl1
    have h7 : (rows.length - 1) * e.len + e.len = rows.length * e.len := by rw [← Nat.succ_mul]; congr 1; omega
    have hsz : off + rows.length * e.len ≤ arr.size := by omega
    have hol : ((arr.toList.drop off).take (rows.length * e.len)).length = rows.length * e.len := by simp; omega
    have hcell : ∀ j u, ((arr.toList.drop off).take (rows.length * e.len))[j]? = some u → w.cell? ((⟨b, off, none⟩ : Addr).add j) = some u := by
      intro j u hu
      have hj : j < rows.length * e.len := by
        have := (List.getElem?_eq_some_iff.1 hu).1
        omega
      rw [List.getElem?_take_of_lt hj, List.getElem?_drop, Array.getElem?_toList] at hu
      rw [Addr.add_lit, cell_of_row w b _ arr T _ hblk]
      exact hu
    refine ⟨(arr.toList.drop off).take (rows.length * e.len), hol, run_firstCells_some w _ _ _ _ _ _ hol hcell, run_firstCells_some w.drew _ _ _ _ _ _ hol (fun j u hu => by simpa using hcell j u hu), fun i row hr => ?_⟩
    have hi := (List.getElem?_eq_some_iff.1 hr).1
    have h8 := h6 i row hr
    have h9 : i * e.len + e.len ≤ rows.length * e.len := by
      rw [← Nat.succ_mul]; exact Nat.mul_le_mul_right _ hi
    rw [List.drop_take, List.take_take, List.drop_drop, Nat.min_eq_left (by omega)]
    exact h8
theorem RowD.one {z : Nat → Option Obj} : ∀ {e : Sh} {l : List DV} {vs : List Value}, RowD z e l vs → ∀ u ∈ vs, u.oneCell' = true
  | .nil, _, _, ⟨_, h⟩ => by rw [h]; simp
  | .b e, _, _, ⟨x, l', vs', h1, h2, h3⟩ => by rw [h2]; intro u hu; exact (List.mem_cons.1 hu).elim (fun h => by rw [h]; rfl) (RowD.one h3 u)
  | .i _ e, _, _, ⟨x, l', vs', h1, h2, h3⟩ => by rw [h2]; intro u hu; exact (List.mem_cons.1 hu).elim (fun h => by rw [h]; rfl) (RowD.one h3 u)
  | .s e, _, _, ⟨x, l', vs', h1, h2, h3⟩ => by rw [h2]; intro u hu; exact (List.mem_cons.1 hu).elim (fun h => by rw [h]; rfl) (RowD.one h3 u)
  | .sl d e, _, _, ⟨rows, v, l', vs', h1, h2, h3, h4⟩ => by
    obtain ⟨p, cap, rfl, _⟩ := h3
    rw [h2]; intro u hu; exact (List.mem_cons.1 hu).elim (fun h => by rw [h]; rfl) (RowD.one h4 u)
theorem SlD.src {e : Sh} {rows : List (List DV)} {x : Value} {tx : TypeId} (hpos : 0 < e.len) (r : Rel ρ φ h w) (hs : SlD φ.z e rows x) (hk : (∃ e', P.underlying tx = some (.slice e')) ∨ P.underlying tx = some .string) :
    ∃ news, Src P e.len tx x rows.length news w ∧ ∀ (i : Nat) row, rows[i]? = some row → RowD φ.z e row ((news.drop (i * e.len)).take e.len) := by
  obtain ⟨p, cap, rfl, hc, h0⟩ := hs
  obtain ⟨olds, h1, h2, h3, h4⟩ := SlD.cells (P := P) hpos r ⟨p, cap, rfl, hc, h0⟩
  refine ⟨olds, ⟨hk, fun _ => rfl, h2, h3, h1, fun u hu => ?_⟩, h4⟩
  obtain ⟨j, hj⟩ := List.getElem?_of_mem hu
  have hjl := (List.getElem?_eq_some_iff.1 hj).1
  have hi : j / e.len < rows.length := by
    rw [h1] at hjl
    exact Nat.div_lt_of_lt_mul (by rw [Nat.mul_comm]; exact hjl)
  refine RowD.one (h4 (j / e.len) rows[j / e.len] (List.getElem?_eq_getElem hi)) u (List.mem_of_getElem? (i := j % e.len) ?_)
  rw [List.getElem?_take_of_lt (Nat.mod_lt _ hpos), List.getElem?_drop, Nat.mul_comm, Nat.div_add_mod, hj]
theorem frozen_append (r : Rel ρ φ h w) {t tx el : TypeId} {i : TypeInfo} {z y : Value} {n size bytes : Nat} {news : List Value} {e : Sh} {rows news' : List (List DV)} {p : Option Addr} {cap : Nat} (hx : SlD φ.z e rows (.slice p rows.length cap)) (hcap : cap = rows.length) (S : SrcG P t tx el i z y n news w)
    (hnl : news.length = n * size) (hn : news'.length = n) (hrows : ∀ (j : Nat) row, news'[j]? = some row → RowD φ.z e row ((news.drop (j * e.len)).take e.len)) (hsz : i.size = size) (hby : i.bytes = bytes) (hes : e.len = size) (hpos : 0 < e.len) (hb1 : (rows ++ news').length ≤ 1048576) (hb2 : (rows ++ news').length * bytes ≤ 1048576) :
    ∃ u w' φ', (Builtin.append_ #[t, tx] ty #[.slice p rows.length cap, y]).run P w = .ok u w' ∧ SlD φ'.z e (rows ++ news') u ∧ Stp ρ φ h w φ' h w' := by
  subst hcap
  by_cases hn0 : n = 0
  · subst hn0
    have hnn : news = [] := List.eq_nil_of_length_eq_zero (by rw [hnl]; simp)
    have hn' : news' = [] := List.eq_nil_of_length_eq_zero hn
    subst hnn
    subst hn'
    refine ⟨.slice p rows.length rows.length, w, φ, ?_, by simpa using hx, Stp.refl r⟩
    refine S.room ty p _ _ w (by omega) ?_
    cases p with
    | none => rfl
    | some q => simp [storeCells]
  · obtain ⟨olds, h1, h2, h3, h4⟩ := SlD.cells hpos r hx
    rw [hes] at h1 h3
    rw [List.length_append, hn] at hb1 hb2
    obtain ⟨rest, h5, h6⟩ := S.grow ty p rows.length rows.length olds (by rw [hsz]; exact h3) (by omega) hb1 (by rw [hby]; exact hb2)
    have hnew : (w.drew.alloc (.cells (olds ++ news ++ rest).toArray el)).heap[w.heap.size]? = some (.cells (olds ++ news ++ rest).toArray el (0, 0)) := by
      show (w.heap.push _)[w.heap.size]? = _
      simp
    have hold : ∀ b, b < w.heap.size → (w.drew.alloc (.cells (olds ++ news ++ rest).toArray el)).heap[b]? = w.heap[b]? := fun b hb => by
      show (w.heap.push _)[b]? = _
      rw [Array.getElem?_push_lt hb, Array.getElem?_eq_getElem hb]
    have st : Stp ρ φ h w φ h (w.drew.alloc (.cells (olds ++ news ++ rest).toArray el)) := Stp.grow r (by simp [World.alloc]) hold rfl rfl rfl
    refine ⟨_, _, _, h5, ?_, st.freeze hnew (fun id q hi hq => ?_) (Nat.le_refl _)⟩
    · have hlen : (rows ++ news').length = rows.length + n := by simp [hn]
      refine ⟨_, _, by rw [hlen], by rw [hlen]; exact grown_ge _ _ _ _, .inr ⟨w.heap.size, 0, _, el, (0, 0), rfl, Emb.frz_same _ _ _, fun j row hj => ?_⟩⟩
      refine RowD.le (z := φ.z) (fun c x hc => ?_) e row _ ?_
      · show (if c = w.heap.size then some _ else φ.z c) = some x
        rw [if_neg ?_]
        · exact hc
        · have := (Array.getElem?_eq_some_iff.1 (r.frz.at_ c x hc).1).1
          omega
      · rw [Nat.zero_add, List.append_assoc]
        show RowD φ.z e row (((olds ++ (news ++ rest)).drop (j * e.len)).take e.len)
        by_cases hjr : j < rows.length
        · rw [List.getElem?_append_left hjr] at hj
          have h7 := h4 j row hj
          have h9 : j * e.len + e.len ≤ rows.length * e.len := by rw [← Nat.succ_mul]; exact Nat.mul_le_mul_right _ hjr
          rw [List.drop_append_of_le_length (by rw [h1, ← hes]; omega), List.take_append_of_le_length (by rw [List.length_drop, h1, ← hes]; omega)]
          exact h7
        · rw [List.getElem?_append_right (by omega)] at hj
          have h7 := hrows _ row hj
          have hjn : j - rows.length < n := by rw [← hn]; exact (List.getElem?_eq_some_iff.1 hj).1
          have h8 : j * e.len = olds.length + (j - rows.length) * e.len := by rw [h1, ← hes, ← Nat.add_mul]; congr 1; omega
          have h9 : (j - rows.length) * e.len + e.len ≤ n * e.len := by rw [← Nat.succ_mul]; exact Nat.mul_le_mul_right _ hjn
          rw [h8, ← List.drop_drop, List.drop_left, List.drop_append_of_le_length (by rw [hnl, ← hes]; omega), List.take_append_of_le_length (by rw [List.length_drop, hnl, ← hes]; omega)]
          exact h7
    · have := r.block hi hq
      omega
end
end Go.Proofs.YtjnfgapfhpihmaaGreat
namespace Go.Proofs.YtjnfgapfhpihmaaGreat
section
variable {P : Program} {E : Env} {ρ : Vn} {φ : Emb} {fr : Fr} {a : Act} {h h' : Hp} {w w' : World} {v : AV} {ty : TypeId}
theorem opR_builtin {f : Operand → Value} {c : Call} {b : Builtin} (hc : c.callee = .builtin b) : (opR f (.call c) ty).run P w = (builtin b c.argTypes ty (c.args.map fun | .const _ => true | _ => false) (c.args.map f)).run P w := by
  simp [opR, execOp, resolve, hc, invoke]
  rfl
theorem arr1 {α : Type} {x : Array α} {u : α} (e : x.toList = [u]) : x = #[u] := by cases x; simpa using e
theorem arr2 {α : Type} {x : Array α} {u v : α} (e : x.toList = [u, v]) : x = #[u, v] := by cases x; simpa using e
theorem run_ap {c : Call} {x y : Operand} {t tx : TypeId} (hc : c.callee = .builtin .append) (ha : c.args = #[x, y]) (ht : c.argTypes = #[t, tx]) {u : Value} (hr : (Builtin.append_ #[t, tx] ty #[a.eval x, a.eval y]).run P w = .ok u w') : (opR a.eval (.call c) ty).run P w = .ok (.value u) w' := by
  rw [opR_builtin hc, ha, ht]
  simp only [builtin, Sem.run_bind]
  have : (#[x, y] : Array Operand).map a.eval = #[a.eval x, a.eval y] := by simp
  rw [this, hr]
  rfl
theorem snd_ap {c : Call} {x y : Operand} {t tx el : TypeId} (hc : c.callee = .builtin .append) (ha : c.args = #[x, y]) (ht : c.argTypes = #[t, tx]) (hu : P.underlying t = some (.slice el)) (hk : (∃ e', P.underlying tx = some (.slice e')) ∨ P.underlying tx = some .string) {ax ay : AX} (hx : cX x = some ax) (hy : cX y = some ay) {ao : AO} (hao : cAp P el ax ay = some ao)
    (g : Gv E ρ φ fr a h w) (e : aop P E noCall ao fr h = .ok v h') : Res ρ φ h w v h' ((opR a.eval (.call c) ty).run P w) := by
  unfold cAp at hao
  split at hao
  · rename_i s z b hs hz hb
    split at hao
    · rename_i hcond
      cases hao
      obtain ⟨p, h1, e1⟩ := evC_ok (show opAp E s b ax ay fr h = .ok v h' from e)
      obtain ⟨q, h2, e2⟩ := evC_ok e1
      have hp : VC ρ φ p (a.eval x) := cX_ok hx g.fr h1
      have hq : VC ρ φ q (a.eval y) := cX_ok hy g.fr h2
      obtain ⟨zv, _, hz1, i, hi, hiz⟩ := run_zeroT (ρ := ρ) (φ := φ) hz
      obtain ⟨i', hi', hib⟩ := run_bytesT hb
      rw [hi] at hi'
      cases hi'
      have his : i.size = s := by unfold sizeT at hs; rw [hi] at hs; exact Option.some.inj hs
      have hzc : zv.cells.size = s := by have := hz1.length; simp at this; omega
      rcases onD_ok e2 with ⟨sh, y', hcd, e3⟩ | ⟨-, e3⟩
      · -- frozen rows behind nothing, or behind a clipped row
        have hsq := VC.sld hcd hq
        have fin : ∀ {y1 : Nm} {rows : List (List DV)} {pp : Option Addr}, a.eval x = .slice pp rows.length rows.length → SlD φ.z sh rows (.slice pp rows.length rows.length) → rows = ρ.d y1 → frozeTo E s b sh (E.dcat y1 y') h = .ok v h' → Res ρ φ h w v h' ((opR a.eval (.call c) ty).run P w) := by
          intro y1 rows pp hxv hsx hrows e4
          obtain ⟨t', h5, e5⟩ := ro_ok e4
          obtain ⟨hb1, e6⟩ := br_ok e5
          cases e6
          rw [Bool.and_eq_true] at hb1
          have hes : sh.len = s := Nat.eq_of_beq_eq_true hb1.1
          have hpos : 0 < sh.len := by omega
          obtain ⟨k1, k2⟩ := g.env.dcat _ _ _ h5
          obtain ⟨k3, k4⟩ := g.env.dbig _ _ hb1.2
          obtain ⟨news, hS, hR⟩ := SlD.src (P := P) (tx := tx) hpos g.rel hsq hk
          rw [k2, ← hrows] at k3 k4
          obtain ⟨u, w', φ', q1, q2, q3⟩ := frozen_append (P := P) (ty := ty) g.rel hsx rfl (SrcG.of hu hi hiz (by omega) (by rw [his, ← hes]; exact hS)) (by rw [hS.newsLen, hes]) rfl hR his hib hes hpos k3 k4
          refine ⟨.value u, u, w', φ', run_ap hc ha ht (by rw [hxv]; exact q1), rfl, ?_, q3⟩
          show SlD φ'.z sh (ρ.d t') u
          rw [k2, ← hrows]
          exact q2
        unfold opApD at e3
        split at e3
        · have hxn : a.eval x = .slice none 0 0 := hp
          have hnil : ρ.d nmNil = [] := by
            obtain ⟨t', h5, _⟩ := ro_ok e3
            exact (g.env.dcat _ _ _ h5).1
          exact fin (rows := []) (y1 := nmNil) hxn ⟨none, 0, rfl, Nat.le_refl _, .inl rfl⟩ hnil.symm e3
        · rename_i e' y1
          obtain ⟨hb1, e4⟩ := br_ok e3
          have := of_decide_eq_true hb1
          subst this
          obtain ⟨hs1, pp, nn, hpn⟩ := hp
          obtain ⟨pp', cap', hv1, hv2, hv3⟩ := hs1
          have hcc : nn = (ρ.d y1).length ∧ pp = pp' ∧ cap' = (ρ.d y1).length := by
            rw [hpn] at hv1
            cases hv1
            exact ⟨rfl, rfl, rfl⟩
          obtain ⟨rfl, rfl, rfl⟩ := hcc
          exact fin (rows := ρ.d y1) (y1 := y1) hpn ⟨pp, _, rfl, hv2, hv3⟩ rfl e4
        · cases e3
      · unfold opAp0 at e3
        split at e3
        · rename_i sh y1
          obtain ⟨r, h3, e4⟩ := ro_ok e3
          obtain ⟨hb0, e4⟩ := br_ok e4
          obtain ⟨t', h5, e5⟩ := ro_ok e4
          obtain ⟨hb1, e6⟩ := br_ok e5
          cases e6
          rw [Bool.and_eq_true] at hb1
          have hes : sh.len = s := Nat.eq_of_beq_eq_true hb1.1
          have hpos : 0 < sh.len := by omega
          obtain ⟨news, hS, hn⟩ := row_ok g.rel hq h3 hk
          obtain ⟨rows', k1, k2, k3⟩ := g.env.dap _ _ _ _ h5 φ news hn
          obtain ⟨k4, k5⟩ := g.env.dbig _ _ hb1.2
          rw [k1] at k4 k5
          have hnl := hS.newsLen
          have hrl : rows'.length = r.1 := by
            rw [hnl, hes] at k2
            exact Nat.eq_of_mul_eq_mul_right (by omega) k2
          obtain ⟨hs1, pp, nn, hpn⟩ := hp
          obtain ⟨pp', cap', hv1, hv2, hv3⟩ := hs1
          have hcc : nn = (ρ.d y1).length ∧ pp = pp' ∧ cap' = (ρ.d y1).length := by
            rw [hpn] at hv1
            cases hv1
            exact ⟨rfl, rfl, rfl⟩
          obtain ⟨rfl, rfl, rfl⟩ := hcc
          rw [← his] at hS
          obtain ⟨u, w', φ', q1, q2, q3⟩ := frozen_append (P := P) (ty := ty) g.rel (p := pp) (rows := ρ.d y1) ⟨pp, _, rfl, hv2, hv3⟩ rfl (SrcG.of hu hi hiz (by omega) hS) hnl hrl k3 his hib hes hpos k4 k5
          refine ⟨.value u, u, w', φ', run_ap hc ha ht (by rw [hpn]; exact q1), rfl, ?_, q3⟩
          show SlD φ'.z sh (ρ.d t') u
          rw [k1]
          exact q2
        · obtain ⟨r, h3, e3⟩ := ro_ok e3
          obtain ⟨news, hS, hn⟩ := row_ok g.rel hq h3 hk
          rw [← his] at hS
          obtain ⟨u, w', φ', q1, q2, q3⟩ := append_ok (P := P) (ty := ty) g.rel hp (SrcG.of hu hi hiz (by omega) hS) hn (by rw [hS.newsLen, his]) his hib hzc hcond.1 e3
          exact ⟨.value u, u, w', φ', run_ap hc ha ht q1, rfl, q2, q3⟩
    · cases hao
  · cases hao
theorem snd_apz {c : Call} {x y : Operand} {t tx el : TypeId} {kn : IntKind} (hc : c.callee = .builtin .append) (ha : c.args = #[x, y]) (ht : c.argTypes = #[t, tx]) (hu : P.underlying t = some (.slice el)) (hk : P.underlying tx = some (.int kn)) {ax ay : AX} (hx : cX x = some ax) (hy : cX y = some ay) {s b : Nat} {z : List AC} (hs : sizeT P el = some s) (hz : zeroOf P el = some z) (hb : bytesT P el = some b) (hcond : 0 < s ∧ z.length = s ∧ b ≤ 1048576)
    (g : Gv E ρ φ fr a h w) (e : opApz s b z ax ay fr h = .ok v h') : Res ρ φ h w v h' ((opR a.eval (.call c) ty).run P w) := by
  obtain ⟨p, h1, e1⟩ := evC_ok e
  obtain ⟨n, h2, e2⟩ := ro_ok e1
  obtain ⟨hb1, e3⟩ := br_ok e2
  obtain ⟨hb2, hb3⟩ := and2 hb1
  have hp : VC ρ φ p (a.eval x) := cX_ok hx g.fr h1
  obtain ⟨kq, h3⟩ := evN_some h2
  have hq := eq_ofNat (cX_ok hy g.fr h3)
  obtain ⟨zv, _, hz1, i, hi, hiz⟩ := run_zeroT (ρ := ρ) (φ := φ) hz
  obtain ⟨i', hi', hib⟩ := run_bytesT hb
  rw [hi] at hi'
  cases hi'
  have his : i.size = s := by unfold sizeT at hs; rw [hi] at hs; exact Option.some.inj hs
  have hzc : zv.cells.size = s := by have := hz1.length; simp at this; omega
  have hzs := zeros_ok (by omega) hz1 n
  rw [hcond.2.1] at hzs
  obtain ⟨u, w', φ', q1, q2, q3⟩ := append_ok (P := P) (ty := ty) (w := w) g.rel hp (SrcG.zeros (kq := kq) (n := n) hu hk hi hiz (by omega) (by omega) (by omega) (Nat.le_of_ble_eq_true hb2) (by rw [hib]; exact Nat.le_of_ble_eq_true hb3)) (by rw [his]; exact hzs) (by simp [zrow, his]) his hib hzc hcond.1 e3
  rw [← hq] at q1
  exact ⟨.value u, u, w', φ', run_ap hc ha ht q1, rfl, q2, q3⟩
theorem row_prefix (r : Rel ρ φ h w) {size n k : Nat} {c : AC} {x : Value} {l m : List AC} (hc : VC ρ φ c x) (e : h.row size c = some (n, l)) (hk : k ≤ n) (hm : ltake (k * size) l = some m) : (∀ w', (Builtin.lenOf x).run P w' = .ok n w') ∧ ∃ news, (Builtin.firstCells size k x).run P w = .ok news.toArray w ∧ All2 (VC ρ φ) m news := by
  obtain ⟨hm1, hm2⟩ := ltake_some hm
  have slices : ∀ {b base tot off len cap : Nat} {id : Bid}, φ id = some (b, base, tot) → x = .slice (some ⟨b, base + off, none⟩) len cap → ob (h.lds id off (len * size)) (fun l => some (len, l)) = some (n, l) → (∀ w', (Builtin.lenOf x).run P w' = .ok n w') ∧ ∃ news, (Builtin.firstCells size k x).run P w = .ok news.toArray w ∧ All2 (VC ρ φ) m news := by
    intro b base tot off len cap id hid hx e
    obtain ⟨l', h1, e1⟩ := ob_some e
    cases e1
    obtain ⟨b', base', tot', vs, h2, h3, h4, h5⟩ := r.lds h1
    rw [hid] at h2
    cases h2
    subst hx
    refine ⟨fun _ => rfl, vs.take (k * size), run_firstCells_some w size k _ _ _ (vs.take (k * size)) ?_ (fun j u hu => ?_), by rw [hm1]; exact h4.take _⟩
    · have : k * size ≤ n * size := Nat.mul_le_mul_right _ hk
      rw [List.length_take, h3]; exact Nat.min_eq_left this
    · rw [Addr.add_lit]
      refine h5 j u ?_
      have hj : j < k * size := by
        have := (List.getElem?_eq_some_iff.1 hu).1
        simp at this; omega
      rwa [List.getElem?_take_of_lt hj] at hu
  unfold Hp.row at e
  split at e
  · cases e
    have k0 : k = 0 := by omega
    subst k0
    rw [show x = .slice none 0 0 from hc]
    refine ⟨fun _ => rfl, [], run_firstCells_none w size 0 0 0, ?_⟩
    rw [hm1]; simp; exact .nil
  · obtain ⟨b, base, tot, h1, h2⟩ := hc
    exact slices h1 h2 e
  · obtain ⟨_, e⟩ := bo_some e
    obtain ⟨b, base, tot, cap, h1, h2, _⟩ := hc
    exact slices h1 h2 e
  · cases e
    have k0 : k = 0 := by omega
    subst k0
    obtain ⟨b, base, tot, o, cap, h1, h2, _⟩ := hc
    subst h2
    refine ⟨fun _ => rfl, [], run_firstCells_some w size 0 _ 0 cap [] (by simp) (fun j u hu => by simp at hu), ?_⟩
    rw [hm1]; simp; exact .nil
  · obtain ⟨hb, e⟩ := bo_some e
    have hs : size = 1 := Nat.eq_of_beq_eq_true hb
    subst hs
    cases e
    obtain ⟨y, hy, hl⟩ := hc
    subst hy
    subst hl
    refine ⟨fun _ => by simp [Builtin.lenOf], (byteCells y).take k, ?_, by rw [hm1, Nat.mul_one]; exact (bytes_cells y).take k⟩
    simp only [Builtin.firstCells, Sem.run_pure]
    congr 1
    apply Array.ext'
    simp [byteCells]
  · cases e
theorem orR_ok {a b : RO} (e : orR a b = .ok v h) : a = .ok v h ∨ b = .ok v h := by
  cases a with
  | no => exact .inr e
  | ok x y => exact .inl e
theorem run_storesX (r : Rel ρ φ h w) {id : Bid} {off : Nat} {l c' : List AC} {vs : List Value} (hl : All2 (VC ρ φ) l vs) (hb : h.get id = some (.cells c')) {b base tot : Nat} (hφ : φ id = some (b, base, tot)) (ho : off ≤ c'.length) (hlong : c'.length ≤ off + l.length) (hfit : base + off + vs.length ≤ tot) :
    ∃ w', (storeCells ⟨b, base + off, none⟩ vs).run P w = .ok () w' ∧ Stp ρ φ h w φ (h.putB id (some (.cells (c'.take off ++ l)))) w' := by
  obtain ⟨b0, base0, arr, T, h1, h2, h3, h4⟩ := r.cells id c' hb
  rw [hφ] at h1
  cases h1
  have hlen := hl.length
  have hsz : (arr.toList.take (base + off) ++ vs ++ arr.toList.drop (base + off + vs.length)).toArray.size = arr.size := by simp; omega
  have hnew := setRow_heap w b arr (arr.toList.take (base + off) ++ vs ++ arr.toList.drop (base + off + vs.length)).toArray T (0, 0) h2
  have hlive : ∀ j, ((h.putB id (some (AB.cells (c'.take off ++ l)))).get j).isSome = (h.get j).isSome := by
    intro j
    by_cases hj : j = id
    · subst hj; rw [Hp.get_putB, hb]; rfl
    · rw [Hp.get_putB_ne hj]
  have hct : (c'.take off).length = off := by simp; omega
  refine ⟨_, run_storeCells_at P b (base + off) T vs 0 arr w h2 (by omega) hl.ones, ?_⟩
  simp only [Nat.add_zero]
  refine Stp.mk' r.frz (.refl _) ⟨?_, ?_, ?_, ?_, ?_, ?_⟩ (by simp) ?_ ?_ (by rw [Hp.next_putB]; exact Nat.le_refl _) (fun _ h => .inl h) rfl rfl rfl
  · intro j d hd
    by_cases hj : j = id
    · subst hj
      rw [Hp.get_putB] at hd
      cases hd
      refine ⟨b, base, _, T, by rw [hsz]; exact hφ, hnew, by rw [hsz, List.length_append, hct]; omega, fun o x hx => ?_⟩
      rw [List.getElem?_toArray]
      have ht : (arr.toList.take (base + off)).length = base + off := by simp; omega
      by_cases hr : o < off
      · rw [List.getElem?_append_left (by omega), List.getElem?_take_of_lt hr] at hx
        obtain ⟨v, h5, h6⟩ := h4 o x hx
        refine ⟨v, ?_, h6⟩
        rw [← Array.getElem?_toList] at h5
        rw [List.append_assoc, List.getElem?_append_left (by omega), List.getElem?_take_of_lt (by omega)]; exact h5
      · rw [List.getElem?_append_right (by omega), hct] at hx
        obtain ⟨v, h5, h6⟩ := hl.get hx
        have hlt := (List.getElem?_eq_some_iff.1 h5).1
        refine ⟨v, ?_, h6⟩
        rw [List.append_assoc, List.getElem?_append_right (by omega), ht, List.getElem?_append_left (by omega), ← h5]
        congr 1; omega
    · rw [Hp.get_putB_ne hj] at hd
      obtain ⟨b', base', arr', T', k1, k2, k3⟩ := r.cells j d hd
      refine ⟨b', base', arr', T', k1, ?_, k3⟩
      rw [setRow_other _ _ _ _ fun e => hj (r.inj j id _ _ (by rw [hd]; rfl) (by rw [hb]; rfl) k1 hφ e)]
      exact k2
  · intro j d hd
    have hj : j ≠ id := by rintro rfl; rw [Hp.get_putB] at hd; cases hd
    rw [Hp.get_putB_ne hj] at hd
    obtain ⟨b', es, cl, k1, k2, k3⟩ := r.maps j d hd
    refine ⟨b', es, cl, k1, ?_, k3⟩
    rw [setRow_other _ _ _ _ fun e => hj (r.inj j id _ _ (by rw [hd]; rfl) (by rw [hb]; rfl) k1 hφ e)]
    exact k2
  · intro j d y hd
    have hj : j ≠ id := by rintro rfl; rw [Hp.get_putB] at hd; cases hd
    rw [Hp.get_putB_ne hj] at hd
    obtain ⟨b', arr', T', k1, k2, k3⟩ := r.rows j d y hd
    refine ⟨b', arr', T', k1, ?_, k3⟩
    rw [setRow_other _ _ _ _ fun e => hj (r.inj j id _ _ (by rw [hd]; rfl) (by rw [hb]; rfl) k1 hφ e)]
    exact k2
  · intro i j x y hi hj; rw [hlive] at hi hj; exact r.inj i j x y hi hj
  · intro i hi; rw [hlive] at hi; rw [Hp.next_putB]; exact r.low i hi
  · intro i hi; rw [Hp.next_putB] at hi; exact r.free i hi
  · intro g hg hn
    exact setRow_other _ _ _ _ fun e => hn id _ (by rw [hb]; rfl) hφ e.symm
  · intro i x hi hx _
    rw [hlive] at hi
    exact ⟨i, x, hi, hx, rfl⟩
theorem snd_cp {c : Call} {x y : Operand} {t el : TypeId} {ts : List TypeId} (hc : c.callee = .builtin .copy) (ha : c.args = #[x, y]) (ht : c.argTypes.toList = t :: ts) (hu : P.underlying t = some (.slice el)) {ax ay : AX} (hx : cX x = some ax) (hy : cX y = some ay) {s : Nat} (hs : sizeT P el = some s)
    (g : Gv E ρ φ fr a h w) (e : opCp s ax ay fr h = .ok v h') : Res ρ φ h w v h' ((opR a.eval (.call c) ty).run P w) := by
  obtain ⟨p, h1, e1⟩ := evC_ok e
  obtain ⟨q, h2, eo⟩ := evC_ok e1
  have hp : VC ρ φ p (a.eval x) := cX_ok hx g.fr h1
  have hq : VC ρ φ q (a.eval y) := cX_ok hy g.fr h2
  have ht0 : c.argTypes[0]? = some t := by rw [← Array.getElem?_toList, ht]; rfl
  have fin : ∀ {n : Nat} {base : Option Addr} {dLen dCap : Nat} {news : List Value} {w' : World}, a.eval x = .slice base dLen dCap → (∀ w', (Builtin.lenOf (a.eval y)).run P w' = .ok n w') → (Builtin.firstCells s (Nat.min n dLen) (a.eval y)).run P w = .ok news.toArray w → (match base with | some b => (storeCells b news).run P w = .ok () w' | none => w' = w) → (opR a.eval (.call c) ty).run P w = .ok (.value (goInt (Nat.min n dLen))) w' := by
    intro n base dLen dCap news w' hx' hlen hnew hst
    rw [opR_builtin hc, ha]
    have hmap : (#[x, y] : Array Operand).map a.eval = #[a.eval x, a.eval y] := by simp
    rw [hmap, hx']
    cases base with
    | none =>
      simp only at hst
      subst hst
      simp [builtin, Builtin.copy_, ht0, run_underlying hu, hlen, run_sizeT hs, hnew]
    | some b =>
      simp only at hst
      simp [builtin, Builtin.copy_, ht0, run_underlying hu, hlen, run_sizeT hs, hnew, hst]
  rcases orR_ok eo with e2 | e2
  · obtain ⟨⟨n, l⟩, h3, e3⟩ := ro_ok e2
    have into : ∀ {id : Bid} {b base tot off len cap : Nat}, φ id = some (b, base, tot) → a.eval x = .slice (some ⟨b, base + off, none⟩) len cap → copyTo id off len n s l h = .ok v h' → Res ρ φ h w v h' ((opR a.eval (.call c) ty).run P w) := by
      intro id b base tot off len cap hid hx' e4
      obtain ⟨m, h5, e5⟩ := ro_ok e4
      obtain ⟨h2', h6, e6⟩ := ro_ok e5
      cases e6
      obtain ⟨hlen, news, h7, h8⟩ := row_prefix (P := P) g.rel hq h3 (Nat.min_le_left n len) h5
      obtain ⟨w', h9, h10⟩ := run_stores (P := P) g.rel h8 h6 hid
      exact ⟨_, _, w', φ, fin hx' hlen h7 h9, rfl, rfl, h10⟩
    have nothing : ∀ {base : Option Addr} {cap : Nat}, a.eval x = .slice base 0 cap → v = .c (.i .i64 (Int.ofNat 0)) → h' = h → Res ρ φ h w v h' ((opR a.eval (.call c) ty).run P w) := by
      intro base cap hx' hv hh
      obtain ⟨hlen, news, h7, h8⟩ := row_prefix (P := P) (k := 0) (m := []) g.rel hq h3 (Nat.zero_le _) (by rw [Nat.zero_mul]; rfl)
      have hn : news = [] := by cases h8; rfl
      subst hn
      have h0 : Nat.min n 0 = 0 := by simp
      refine ⟨.value (goInt (Nat.min n 0)), goInt (Nat.min n 0), w, φ, fin hx' hlen (by rw [h0]; exact h7) (by cases base <;> rfl), rfl, ?_, by rw [hh]; exact Stp.refl g.rel⟩
      rw [hv, h0]; rfl
    simp only at e3
    split at e3
    · cases e3; exact nothing (show a.eval x = .slice none 0 0 from hp) rfl rfl
    · obtain ⟨b, base, tot, h5, h6⟩ := hp; exact into h5 h6 e3
    · obtain ⟨b, base, tot, cap, h5, h6, _⟩ := hp; exact into h5 h6 e3
    · cases e3; obtain ⟨b, base, tot, o, cap, h5, h6, _⟩ := hp; exact nothing h6 rfl rfl
    · cases e3
  · unfold opCpX at e2
    split at e2
    · rename_i id off len lb es id2 off2 len2 lb2 es2
      obtain ⟨q1, e3⟩ := br_ok e2
      obtain ⟨q2, q3⟩ := Bool.and_eq_true_iff.1 q1
      have q2 := Nat.eq_of_beq_eq_true q2
      have q3 := Nat.eq_of_beq_eq_true q3
      subst q2
      obtain ⟨c', k1, e4⟩ := ro_ok e3
      obtain ⟨l, k2, e5⟩ := ro_ok e4
      obtain ⟨q4, e6⟩ := br_ok e5
      cases e6
      obtain ⟨q5, q6⟩ := Bool.and_eq_true_iff.1 q4
      have q5 := Nat.le_of_ble_eq_true q5
      have q6 := Nat.le_of_ble_eq_true q6
      have hid : h.get id = some (.cells c') := by
        obtain ⟨bk, rfl', k3⟩ := ob_some k1
        cases bk with
        | cells c'' => cases k3; exact rfl'
        | map m => cases k3
        | row e y => cases k3
      obtain ⟨b, base, tot, cap, m1, m2, m3, m4, m5⟩ := hp
      obtain ⟨b2, base2, tot2, cap2, m6, m7, _⟩ := hq
      obtain ⟨b', base', tot', vs, n1, n2, n3, n4⟩ := g.rel.lds k2
      rw [m6] at n1
      cases n1
      have hmin : Nat.min len2 len ≤ cap := Nat.le_trans (Nat.min_le_right _ _) (Nat.le_trans m3 m4)
      have hmul : Nat.min len2 len * es ≤ cap * es := Nat.mul_le_mul_right _ hmin
      have hll : l.length = Nat.min len2 len * es := by rw [n3.length, n2]
      obtain ⟨w', r1, r2⟩ := run_storesX (P := P) g.rel n3 hid m1 q5 q6 (by rw [n2]; omega)
      refine ⟨_, _, w', φ, fin (n := len2) m2 (fun w' => by rw [m7]; rfl) (news := vs) ?_ r1, rfl, rfl, r2⟩
      rw [m7]
      exact run_firstCells_some w es _ _ _ _ vs n2 (fun j u hu => by rw [Addr.add_lit]; exact n4 j u hu)
    · cases e2
theorem snd_clr {c : Call} {x : Operand} {t el : TypeId} (hc : c.callee = .builtin .clear) (ha : c.args = #[x]) (ht : c.argTypes = #[t]) (hu : P.underlying t = some (.slice el)) {ax : AX} (hx : cX x = some ax) {z : List AC} (hz : zeroOf P el = some z) (hzp : 0 < z.length)
    (g : Gv E ρ φ fr a h w) (e : opClr z ax fr h = .ok v h') : Res ρ φ h w v h' ((opR a.eval (.call c) ty).run P w) := by
  obtain ⟨p, h1, e1⟩ := evC_ok e
  have hp : VC ρ φ p (a.eval x) := cX_ok hx g.fr h1
  obtain ⟨zv, hz0, hz1, _⟩ := run_zeroT (ρ := ρ) (φ := φ) hz
  have hmap : (#[x] : Array Operand).map a.eval = #[a.eval x] := by simp
  have nothing : ∀ {base : Option Addr} {cap : Nat}, a.eval x = .slice base 0 cap → (opR a.eval (.call c) ty).run P w = .ok (.value (.tuple #[])) w := by
    intro base cap hx'
    rw [opR_builtin hc, ha, hmap, hx', ht]
    cases base <;> simp [builtin, Builtin.clear_, run_underlying hu]
  have into : ∀ {id : Bid} {b base tot off len cap : Nat} {h2 : Hp}, φ id = some (b, base, tot) → a.eval x = .slice (some ⟨b, base + off, none⟩) len cap → h.sts id off (zrep z len) = some h2 → Res ρ φ h w (.t []) h2 ((opR a.eval (.call c) ty).run P w) := by
    intro id b base tot off len cap h2 hid hx' hst
    have hzs := zeros_ok hzp hz1 len
    obtain ⟨w', h9, h10⟩ := run_stores (P := P) g.rel hzs hst hid
    have hzc : zv.cells.size = z.length := by have := hz1.length; simp at this; omega
    have hzr : Builtin.zeroCells zv.cells len = (zrow zv.cells (len * z.length)).toArray := by
      rw [← hzc]; exact zrow_eq zv.cells _
    refine ⟨.value (.tuple #[]), _, w', φ, ?_, rfl, ⟨[], rfl, .nil⟩, h10⟩
    cases len with
    | zero =>
      have hn : zrow zv.cells (0 * z.length) = [] := by simp [zrow]
      rw [hn] at h9
      cases h9
      exact nothing hx'
    | succ len =>
      rw [opR_builtin hc, ha, hmap, hx', ht]
      simp [builtin, Builtin.clear_, run_underlying hu, hz0, hzr, h9]
  split at e1
  · cases e1
    exact Res.val g.rel (v := .t []) ⟨[], rfl, .nil⟩ (nothing (show a.eval x = .slice none 0 0 from hp))
  · obtain ⟨h2, h3, e2⟩ := ro_ok e1; cases e2; obtain ⟨b, base, tot, h5, h6⟩ := hp; exact into h5 h6 h3
  · obtain ⟨h2, h3, e2⟩ := ro_ok e1; cases e2; obtain ⟨b, base, tot, cap, h5, h6, _⟩ := hp; exact into h5 h6 h3
  · cases e1
    obtain ⟨b, base, tot, o, cap, h5, h6, _⟩ := hp
    exact Res.val g.rel (v := .t []) ⟨[], rfl, .nil⟩ (nothing h6)
  · cases e1
end
end Go.Proofs.YtjnfgapfhpihmaaGreat
