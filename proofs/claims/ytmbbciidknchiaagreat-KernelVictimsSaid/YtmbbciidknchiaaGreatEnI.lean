/-
  A verified evaluator: building structs, slices of slices and arrays, len, cap. No function of the program is named here.
-/
import Derived.Test.YtmbbciidknchiaaGreatEnH
namespace Go.Proofs.YtmbbciidknchiaaGreat
section
variable {P : Program} {E : Env} {ρ : Vn} {φ : Emb} {fr : Fr} {a : Act} {h h' : Hp} {w : World} {v : AV} {ty : TypeId}
theorem over_fold (off : Nat) : ∀ (new : List Value) (k : Nat) (cs : Array Value), off + k + new.length ≤ cs.size → (new.zipIdx k).foldl (fun (cs : Array Value) (p : Value × Nat) => cs.setIfInBounds (off + p.2) p.1) cs = (cs.toList.take (off + k) ++ new ++ cs.toList.drop (off + k + new.length)).toArray
  | [], k, cs, _ => by simp
  | x :: new, k, cs, hl => by
    simp only [List.zipIdx_cons, List.foldl_cons]
    rw [over_fold off new (k + 1) _ (by simp at hl ⊢; omega)]
    have e := list_seg_step cs.toList (off + k) x new (by simp at hl ⊢; omega)
    congr 1
    simpa [Array.toList_setIfInBounds, Nat.add_assoc] using e
theorem fill_over (new : Array Value) (off : Nat) (cs : Array Value) (hl : off + new.size ≤ cs.size) : new.zipIdx.foldl (fun (cs : Array Value) (p : Value × Nat) => cs.setIfInBounds (off + p.2) p.1) cs = (cs.toList.take off ++ new.toList ++ cs.toList.drop (off + new.size)).toArray := by
  have := over_fold off new.toList 0 cs (by simpa using hl)
  rw [← Array.foldl_toList, Array.toList_zipIdx]
  simpa using this
theorem fills_ok (hf : FR ρ φ fr a.tmps) {place : Nat → Option (Nat × Nat)} : ∀ {parts : List (Nat × Operand)} {ps : List (Nat × Nat × AX)} {z l : List AC} {zs : List Value}, cParts place parts = some ps → fills fr ps z = some l → All2 (VC ρ φ) z zs →
    ∃ cs : List Value, Instr.fill place zs.toArray (parts.map fun p => (p.1, a.eval p.2)) = some cs.toArray ∧ All2 (VC ρ φ) l cs
  | [], ps, z, l, zs, hc, he, hz => by cases hc; cases he; exact ⟨zs, rfl, hz⟩
  | (i, x) :: parts, ps, z, l, zs, hc, he, hz => by
    simp only [cParts] at hc
    split at hc
    · rename_i off size ax rest hp hx hr
      cases hc
      obtain ⟨v, h1, e1⟩ := ob_some (show fill1 fr (off, size, ax) (fills fr rest) z = some l from he)
      obtain ⟨m, h2, e2⟩ := ob_some e1
      obtain ⟨hb, e3⟩ := bo_some e2
      obtain ⟨z2, h3, e4⟩ := ob_some e3
      have hm := (cX_ok hx hf h1).cells h2
      have hlen := hm.length
      have hsz : m.length = size := Nat.eq_of_beq_eq_true hb
      obtain ⟨h5, h6⟩ := lovers_some h3
      have hzl := hz.length
      have hsize : (a.eval x).cells.size = size := by rw [← hsz, hlen]; simp
      have hz2 : All2 (VC ρ φ) z2 (zs.take off ++ (a.eval x).cells.toList ++ zs.drop (off + m.length)) := by
        rw [h5]
        exact ((hz.take off).append hm).append (hz.drop _)
      obtain ⟨cs, h7, h8⟩ := fills_ok hf hr e4 hz2
      refine ⟨cs, ?_, h8⟩
      simp only [List.map_cons, Instr.fill, hp]
      rw [if_neg (by simp [hsize]; omega), fill_over _ _ _ (by simp [hsize]; omega)]
      rw [hsz] at h7
      simpa [hsize] using h7
    · cases hc
theorem run_zeroT {t : TypeId} {z : List AC} (e : zeroOf P t = some z) : ∃ u, (∀ w, (zeroValue t).run P w = .ok u w) ∧ All2 (VC ρ φ) z u.cells.toList ∧ ∃ i, P.info? t = some i ∧ i.zero = some u := by
  unfold zeroOf at e
  cases hi : P.info? t with
  | none => rw [hi] at e; cases e
  | some i =>
    rw [hi] at e
    dsimp only at e
    cases hz : i.zero with
    | none => rw [hz] at e; cases e
    | some u =>
      rw [hz] at e
      dsimp only at e
      cases ha : AV.of u with
      | none => rw [ha] at e; cases e
      | some b =>
        rw [ha] at e
        exact ⟨u, fun w => by simp [zeroValue, typeInfo, hi, hz], (AV.of_ok ha).cells e, i, rfl, hz⟩
theorem run_places : ∀ {fs : List Field} {pl : List (Nat × Nat)}, placesOf P fs = some pl → ∀ w, (fs.mapM (fun (f : Field) => do pure (f.offset, ← sizeOf f.type)) : Sem (List (Nat × Nat))).run P w = .ok pl w
  | [], pl, e, w => by cases e; rfl
  | f :: fs, pl, e, w => by
    simp only [placesOf] at e
    split at e
    · rename_i s l hs hl
      cases e
      rw [List.mapM_cons]
      simp only [Sem.run_bind, run_sizeT hs, Result.andThen_ok, Sem.run_pure, run_places hl w]
    · cases e
theorem snd_build (t : TypeId) (parts : Array (Nat × Operand)) : Snd P E (.build t parts) := by
  intro ao hc ρ φ fr a h w v h' ty g e
  simp only [cOp] at hc
  have hparts : (parts.map fun x => (x.1, a.eval x.2)).toList = parts.toList.map fun p => (p.1, a.eval p.2) := by simp
  split at hc
  · rename_i fs z hu hz
    split at hc
    · rename_i pl hpl
      obtain ⟨ps, hps, rfl⟩ := map_some hc
      obtain ⟨l, h1, e1⟩ := ro_ok (show opBd z ps fr h = .ok v h' from e)
      cases e1
      obtain ⟨u, hu0, hu1, _⟩ := run_zeroT (ρ := ρ) (φ := φ) hz
      obtain ⟨cs, h2, h3⟩ := fills_ok g.fr hps h1 hu1
      refine Res.val g.rel (v := .a l) (u := .agg cs.toArray) ⟨cs, rfl, h3⟩ ?_
      have hpl' := run_places hpl w
      have hfill : Instr.fill (fun i => (pl.toArray)[i]?) u.cells (parts.map fun x => (x.1, a.eval x.2)).toList = some cs.toArray := by
        rw [hparts]
        simpa using h2
      simp only [opR, execOp, Instr.build, Sem.run_bind, hu0, Result.andThen_ok, run_underlying hu]
      rw [Array.mapM_eq_mapM_toList]
      simp only [Sem.run_map, Sem.run_bind, hpl', Result.andThen_ok]
      simp only [hfill]
      rfl
    · cases hc
  · rename_i n el z hu hz
    split at hc
    · rename_i s hs
      obtain ⟨ps, hps, rfl⟩ := map_some hc
      obtain ⟨l, h1, e1⟩ := ro_ok (show opBd z ps fr h = .ok v h' from e)
      cases e1
      obtain ⟨u, hu0, hu1, _⟩ := run_zeroT (ρ := ρ) (φ := φ) hz
      obtain ⟨cs, h2, h3⟩ := fills_ok g.fr hps h1 hu1
      refine Res.val g.rel (v := .a l) (u := .agg cs.toArray) ⟨cs, rfl, h3⟩ ?_
      have hfill : Instr.fill (fun i => some (i * s, s)) u.cells (parts.map fun x => (x.1, a.eval x.2)).toList = some cs.toArray := by
        rw [hparts]
        simpa using h2
      simp only [opR, execOp, Instr.build, Sem.run_bind, hu0, Result.andThen_ok, run_underlying hu, run_sizeT hs, hfill]
      rfl
    · cases hc
  · cases hc
theorem bound_ok {d n : Nat} {o : Option Operand} {ao : Option AX} (hf : FR ρ φ fr a.tmps) (hc : cO o = some ao) (e : bound fr d ao = some n) : (o = none ∧ ao = none ∧ n = d) ∨ (∃ x k, o = some x ∧ ao.isSome ∧ a.eval x = .int k n) := by
  cases o with
  | none => cases hc; cases e; exact .inl ⟨rfl, rfl, rfl⟩
  | some x =>
    simp only [cO] at hc
    cases hx : cX x with
    | none => rw [hx] at hc; cases hc
    | some ax =>
      rw [hx] at hc
      cases hc
      obtain ⟨k, h1⟩ := evN_some e
      exact .inr ⟨x, k, rfl, rfl, eq_ofNat (cX_ok hx hf h1)⟩
theorem run_sliceBound {k : IntKind} {n y : Nat} (hn : n ≤ y) (code : BoundsCode) : (Instr.sliceBound (.int k n) y code).run P w = .ok n w := by
  simp [Instr.sliceBound, run_asIntOf, hn]
/-- the bounds of a slice expression, as they come out -/
theorem run_bounds (hf : FR ρ φ fr a.tmps) {isS : Bool} {len cap l e m dm : Nat} {lo hi mx : Option Operand} {alo ahi amx : Option AX} (hlo : cO lo = some alo) (hhi : cO hi = some ahi) (hmx : cO mx = some amx)
    (h1 : bound fr 0 alo = some l) (h2 : bound fr len ahi = some e) (h3 : bound fr dm amx = some m) (hm0 : mx = none → m = cap) (hl : l ≤ e) (he : e ≤ m) (hm : m ≤ cap) (hx : mx.isSome → hi.isSome) :
    (Instr.sliceBounds isS len cap (lo.map a.eval) (hi.map a.eval) (mx.map a.eval)).run P w = .ok (l, e, m) w := by
  rcases bound_ok hf hmx h3 with ⟨em0, _, _⟩ | ⟨xm, km, em0, _, em⟩
  · have hmc : m = cap := hm0 em0
    rcases bound_ok hf hlo h1 with ⟨el0, _, el1⟩ | ⟨xl, kl, el0, _, el⟩ <;> rcases bound_ok hf hhi h2 with ⟨eh0, _, eh1⟩ | ⟨xh, kh, eh0, _, eh⟩
    · simp [Instr.sliceBounds, em0, el0, eh0, el1, eh1, hmc]
    · rw [hmc] at he
      simp [Instr.sliceBounds, em0, el0, eh0, el1, eh, hmc, run_sliceBound he]
    · simp only [eh1] at hl
      simp [Instr.sliceBounds, em0, el0, eh0, el, eh1, hmc, run_sliceBound hl]
    · rw [hmc] at he
      simp [Instr.sliceBounds, em0, el0, eh0, el, eh, hmc, run_sliceBound he, run_sliceBound hl]
  · have hhs := hx (by rw [em0]; rfl)
    rcases bound_ok hf hhi h2 with ⟨eh0, _, eh1⟩ | ⟨xh, kh, eh0, _, eh⟩
    · rw [eh0] at hhs; cases hhs
    · rcases bound_ok hf hlo h1 with ⟨el0, _, el1⟩ | ⟨xl, kl, el0, _, el⟩
      · simp [Instr.sliceBounds, em0, el0, eh0, em, eh, el1, run_sliceBound hm, run_sliceBound he]
      · simp [Instr.sliceBounds, em0, el0, eh0, em, eh, el, run_sliceBound hm, run_sliceBound he, run_sliceBound hl]
theorem run_slice_slice {t el : TypeId} (hu : P.underlying t = some (.slice el)) {s : Nat} (hs : sizeT P el = some s) {p : Option Addr} {len cap l e m : Nat} {lo hi mx : Option Value} (hb : (Instr.sliceBounds true len cap lo hi mx).run P w = .ok (l, e, m) w) :
    (Instr.sliceAt t (.slice p len cap) lo hi mx).run P w = .ok (.slice (if m = l then p else p.map (·.add (l * s))) (e - l) (m - l)) w := by
  simp [Instr.sliceAt, Instr.slice, run_underlying hu, hb, run_sizeT hs]
theorem bif_if (m l x y : Nat) : (bif Nat.beq m l then x else y) = if m = l then x else y := by
  by_cases h : m = l
  · subst h; simp
  · have : Nat.beq m l = false := by
      cases hb : Nat.beq m l with
      | false => rfl
      | true => exact absurd (Nat.eq_of_beq_eq_true hb) h
    rw [this, if_neg h]; rfl
theorem and3 {a b c : Bool} (e : (a && b && c) = true) : a = true ∧ b = true ∧ c = true := by
  rw [Bool.and_eq_true, Bool.and_eq_true] at e
  exact ⟨e.1.1, e.1.2, e.2⟩
theorem snd_sll {t el : TypeId} (hu : P.underlying t = some (.slice el)) {s : Nat} (hs : sizeT P el = some s) {x : Operand} {lo hi mx : Option Operand} {ax : AX} {alo ahi amx : Option AX} (hx : cX x = some ax) (hlo : cO lo = some alo) (hhi : cO hi = some ahi) (hmx : cO mx = some amx) (hxx : mx.isSome → hi.isSome)
    (g : Gv E ρ φ fr a h w) (e : opSll s ax alo ahi amx fr h = .ok v h') : Res ρ φ h w v h' ((opR a.eval (.slice t x lo hi mx) ty).run P w) := by
  obtain ⟨c, h1, e1⟩ := evC_ok e
  have hv : VC ρ φ c (a.eval x) := cX_ok hx g.fr h1
  have fin : ∀ {p : Option Addr} {len cap l q m : Nat} {c' : AC}, a.eval x = .slice p len cap → (Instr.sliceBounds true len cap (lo.map a.eval) (hi.map a.eval) (mx.map a.eval)).run P w = .ok (l, q, m) w → VC ρ φ c' (.slice (if m = l then p else p.map (·.add (l * s))) (q - l) (m - l)) → Res ρ φ h w (.c c') h ((opR a.eval (.slice t x lo hi mx) ty).run P w) := by
    intro p len cap l q m c' hp hb hc'
    refine Res.val g.rel (v := .c c') hc' ?_
    simp only [opR, execOp, hp]
    rw [Sem.run_bind, run_slice_slice hu hs hb]
    rfl
  split at e1
  · obtain ⟨l, h2, e2⟩ := ro_ok e1
    obtain ⟨q, h3, e3⟩ := ro_ok e2
    obtain ⟨m, h4, e4⟩ := ro_ok e3
    obtain ⟨hb, e5⟩ := br_ok e4
    obtain ⟨hb1, hb2, hb3⟩ := and3 hb
    have l0 : l = 0 := Nat.eq_of_beq_eq_true hb1
    have q0 : q = 0 := Nat.eq_of_beq_eq_true hb2
    have m0 : m = 0 := Nat.eq_of_beq_eq_true hb3
    cases e5
    refine fin (show a.eval x = .slice none 0 0 from hv) (run_bounds g.fr hlo hhi hmx h2 h3 h4 (fun _ => m0) (by omega) (by omega) (by omega) hxx) ?_
    rw [l0, q0, m0]; rfl
  · rename_i id off len cap
    obtain ⟨l, h2, e2⟩ := ro_ok e1
    obtain ⟨q, h3, e3⟩ := ro_ok e2
    obtain ⟨m, h4, e4⟩ := ro_ok e3
    obtain ⟨hb, e5⟩ := br_ok e4
    obtain ⟨hb1, hb2, hb3⟩ := and3 hb
    have l1 : l ≤ q := Nat.le_of_ble_eq_true hb1
    have l2 : q ≤ m := Nat.le_of_ble_eq_true hb2
    have l3 : m ≤ cap := Nat.le_of_ble_eq_true hb3
    cases e5
    obtain ⟨b, base, tot, h5, h6⟩ := hv
    refine fin h6 (run_bounds g.fr hlo hhi hmx h2 h3 h4 (fun hn => ?_) l1 l2 l3 hxx) ?_
    · rcases bound_ok g.fr hmx h4 with ⟨_, _, hm⟩ | ⟨_, _, hm, _⟩
      · exact hm
      · rw [hn] at hm; cases hm
    · refine ⟨b, base, tot, h5, ?_⟩
      rw [bif_if]
      by_cases hml : m = l
      · rw [if_pos hml, if_pos hml]
      · rw [if_neg hml, if_neg hml]; simp [Addr.add_lit, Nat.add_assoc]
  · rename_i id off len lb es
    obtain ⟨he, e2⟩ := br_ok e1
    have hes : es = s := Nat.eq_of_beq_eq_true he
    obtain ⟨b, base, tot, cap, h5, h6, h7, h8, h9⟩ := hv
    split at e2
    · rename_i mm
      obtain ⟨l, h2, e3⟩ := ro_ok e2
      obtain ⟨q, h3, e4⟩ := ro_ok e3
      obtain ⟨m, h4, e5⟩ := ro_ok e4
      obtain ⟨hb, e6⟩ := br_ok e5
      obtain ⟨hb1, hb2, hb3⟩ := and3 hb
      have l1 : l ≤ q := Nat.le_of_ble_eq_true hb1
      have l2 : q ≤ m := Nat.le_of_ble_eq_true hb2
      have l3 : m ≤ lb := Nat.le_of_ble_eq_true hb3
      cases e6
      refine fin h6 (run_bounds g.fr hlo hhi hmx h2 h3 (show bound fr 0 (some mm) = some m from h4) (fun hn => ?_) l1 l2 (by omega) hxx) ?_
      · subst hn; cases hmx
      · refine ⟨b, base, tot, h5, ?_⟩
        rw [bif_if]
        by_cases hml : m = l
        · rw [if_pos hml, if_pos hml]
        · rw [if_neg hml, if_neg hml]; simp [Addr.add_lit, Nat.add_assoc]
    · obtain ⟨l, h2, e3⟩ := ro_ok e2
      obtain ⟨q, h3, e4⟩ := ro_ok e3
      obtain ⟨hb, e5⟩ := br_ok e4
      rw [Bool.and_eq_true] at hb
      have l1 : l ≤ q := Nat.le_of_ble_eq_true hb.1
      have l2 : q ≤ lb := Nat.le_of_ble_eq_true hb.2
      cases e5
      have hmn : mx = none := by
        cases mx with
        | none => rfl
        | some y =>
          simp only [cO] at hmx
          cases hy : cX y <;> rw [hy] at hmx <;> cases hmx
      refine fin h6 (run_bounds (dm := cap) g.fr hlo hhi hmx h2 h3 rfl (fun _ => rfl) l1 (by omega) (Nat.le_refl _) hxx) ?_
      unfold sliceU
      cases hl0 : Nat.beq l 0 with
      | true =>
        have hl : l = 0 := Nat.eq_of_beq_eq_true hl0
        subst hl
        simp only [cond_true]
        refine ⟨b, base, tot, cap, h5, ?_, by omega, h8, h9⟩
        simp [Addr.add_lit]
      | false =>
        simp only [cond_false]
        cases hlb : Nat.blt l lb with
        | true =>
          have hl : l < lb := Nat.le_of_ble_eq_true hlb
          simp only [cond_true]
          refine ⟨b, base, tot, cap - l, h5, ?_, by omega, by omega, ?_⟩
          · rw [if_neg (by omega)]; simp [Addr.add_lit, Nat.add_assoc, hes]
          · have : l * es + (cap - l) * es = cap * es := by rw [← Nat.add_mul]; congr 1; omega
            omega
        | false =>
          have hl : ¬ l < lb := fun hh => by have := Nat.ble_eq_true_of_le (show l + 1 ≤ lb from hh); rw [show Nat.blt l lb = Nat.ble (l + 1) lb from rfl] at hlb; rw [this] at hlb; cases hlb
          simp only [cond_false]
          have hql : q - l = 0 := by omega
          rw [hql]
          by_cases hcl : cap = l
          · refine ⟨b, base, tot, base + off, cap - l, h5, by rw [if_pos hcl], ?_⟩
            have : (cap - l) * es ≤ cap * es := Nat.mul_le_mul_right _ (by omega)
            omega
          · refine ⟨b, base, tot, base + off + l * s, cap - l, h5, by rw [if_neg hcl]; simp [Addr.add_lit], ?_⟩
            have : l * es + (cap - l) * es = cap * es := by rw [← Nat.add_mul]; congr 1; omega
            rw [← hes]
            omega
  · rename_i id es
    obtain ⟨he, e2⟩ := br_ok e1
    rw [Bool.and_eq_true] at he
    obtain ⟨l, h2, e3⟩ := ro_ok e2
    obtain ⟨q, h3, e4⟩ := ro_ok e3
    obtain ⟨hb, e5⟩ := br_ok e4
    rw [Bool.and_eq_true] at hb
    have l0 : l = 0 := Nat.eq_of_beq_eq_true hb.1
    have q0 : q = 0 := Nat.eq_of_beq_eq_true hb.2
    cases e5
    obtain ⟨b, base, tot, o, cap, h5, h6, h7⟩ := hv
    have hmn : amx = none := by
      cases amx with
      | none => rfl
      | some y => simp at he
    subst hmn
    refine fin h6 (run_bounds (dm := cap) g.fr hlo hhi hmx h2 h3 rfl (fun _ => rfl) (by omega) (by omega) (Nat.le_refl _) hxx) ?_
    rw [l0, q0]
    exact ⟨b, base, tot, o, cap, h5, by simp [Addr.add_lit], h7⟩
  · cases e1
theorem snd_sla {t el : TypeId} {n : Nat} (hu : P.underlying t = some (.array n el)) {s : Nat} (hs : sizeT P el = some s) {x : Operand} {lo hi mx : Option Operand} {ax : AX} {alo ahi amx : Option AX} (hx : cX x = some ax) (hlo : cO lo = some alo) (hhi : cO hi = some ahi) (hmx : cO mx = some amx) (hxx : mx.isSome → hi.isSome)
    (g : Gv E ρ φ fr a h w) (e : opSla n s ax alo ahi amx fr h = .ok v h') : Res ρ φ h w v h' ((opR a.eval (.slice t x lo hi mx) ty).run P w) := by
  obtain ⟨id, off, h1, e1⟩ := evP_ok e
  obtain ⟨l, h2, e2⟩ := ro_ok e1
  obtain ⟨q, h3, e3⟩ := ro_ok e2
  obtain ⟨m, h4, e4⟩ := ro_ok e3
  obtain ⟨hb, e5⟩ := br_ok e4
  obtain ⟨hb1, hb2, hb3⟩ := and3 hb
  have l1 : l ≤ q := Nat.le_of_ble_eq_true hb1
  have l2 : q ≤ m := Nat.le_of_ble_eq_true hb2
  have l3 : m ≤ n := Nat.le_of_ble_eq_true hb3
  cases e5
  obtain ⟨b, base, tot, h5, h6⟩ := cX_ok hx g.fr h1
  have hbn := run_bounds (P := P) (w := w) (isS := false) g.fr hlo hhi hmx h2 h3 h4 (fun hn => by
    rcases bound_ok g.fr hmx h4 with ⟨_, _, hm⟩ | ⟨_, _, hm, _⟩
    · exact hm
    · rw [hn] at hm; cases hm) l1 l2 l3 hxx
  refine Res.val g.rel (v := .c (sliceE id off s l q m)) (u := .slice (some (if m = l then ⟨b, base + off, none⟩ else (⟨b, base + off, none⟩ : Addr).add (l * s))) (q - l) (m - l)) ?_ ?_
  · refine ⟨b, base, tot, h5, ?_⟩
    rw [bif_if]
    by_cases hml : m = l
    · rw [if_pos hml, if_pos hml]
    · rw [if_neg hml, if_neg hml]; simp [Addr.add_lit, Nat.add_assoc]
  · simp [opR, execOp, Instr.sliceAt, run_underlying hu, h6, Instr.sureAddr, hbn, run_sizeT hs]
theorem snd_slice (t : TypeId) (x : Operand) (lo hi mx : Option Operand) : Snd P E (.slice t x lo hi mx) := by
  intro ao hc ρ φ fr a h w v h' ty g e
  simp only [cOp] at hc
  split at hc
  · cases hc
  · rename_i hxx0
    have hxx : mx.isSome → hi.isSome := fun h1 => by
      cases h2 : hi.isSome with
      | true => rfl
      | false => exact absurd ⟨h1, h2⟩ hxx0
    split at hc
    · rename_i n el ax alo ahi amx hu hx hlo hhi hmx
      obtain ⟨s, hs, rfl⟩ := map_some hc
      exact snd_sla hu hs hx hlo hhi hmx hxx g e
    · rename_i el ax alo ahi amx hu hx hlo hhi hmx
      obtain ⟨s, hs, rfl⟩ := map_some hc
      exact snd_sll hu hs hx hlo hhi hmx hxx g e
    · cases hc
      refine gen_ok (fun f hf => ?_) g e
      have hl : lo.map a.eval = lo.map f := by
        cases lo with
        | none => rfl
        | some y => exact congrArg some (hf y (by simp [Op.operands]))
      have hh : hi.map a.eval = hi.map f := by
        cases hi with
        | none => rfl
        | some y => exact congrArg some (hf y (by simp [Op.operands]))
      have hm : mx.map a.eval = mx.map f := by
        cases mx with
        | none => rfl
        | some y => exact congrArg some (hf y (by simp [Op.operands]))
      simp only [opR, execOp]
      rw [hf x (by simp [Op.operands]), hl, hh, hm]
    · cases hc
end
end Go.Proofs.YtmbbciidknchiaaGreat
