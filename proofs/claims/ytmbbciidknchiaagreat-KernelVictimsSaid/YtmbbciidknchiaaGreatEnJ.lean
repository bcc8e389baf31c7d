/-
  A verified evaluator: operations that make, read and write memory. No function of the program is named here.
-/
import Derived.Test.YtmbbciidknchiaaGreatEnI
namespace Go.Proofs.YtmbbciidknchiaaGreat
section
variable {P : Program} {E : Env} {ρ : Vn} {φ : Emb} {fr : Fr} {a : Act} {h h' : Hp} {w w' : World} {v : AV} {ty : TypeId}
/-- a new row of cells -/
theorem Rel.alloc (r : Rel ρ φ h w) {n : Bid} (hn : h.next.inc = some n) {c : List AC} {vs : List Value} (hv : All2 (VC ρ φ) c vs) (rest : List Value) (T : TypeId) (hh : w'.heap = w.heap.push (.cells (vs ++ rest).toArray T)) (hos : w'.os = w.os) (htape : w'.tape = w.tape) (hout : w'.output = w.output) :
    Stp ρ φ h w (φ.add h.next (w.heap.size, 0, vs.length + rest.length)) (h.more n (.cells c)) w' := by
  have hf : φ h.next = none := r.free _ (Nat.le_refl _)
  refine r.more hn (by rw [hh]; simp) (Nat.le_refl _) (fun g hg => by rw [hh, Array.getElem?_push_lt hg, Array.getElem?_eq_getElem hg]) hos htape hout ?_ (fun l hl => by cases hl)
  intro c' hc'
  cases hc'
  refine ⟨(vs ++ rest).toArray, T, by simp, by rw [hh]; simp, ?_⟩
  refine ⟨by simp [hv.length], fun o x hx => ?_⟩
  obtain ⟨y, h1, h2⟩ := hv.get hx
  refine ⟨y, ?_, h2.le (Emb.le_add hf _)⟩
  have : o < vs.length := (List.getElem?_eq_some_iff.1 h1).1
  simp [List.getElem?_append_left this, h1]
theorem ptr_new (φ : Emb) (id : Bid) (b tot : Nat) : VC ρ (φ.add id (b, 0, tot)) (.p id 0) (.pointer (some ⟨b, 0, none⟩)) := ⟨b, 0, tot, Emb.add_same _ _ _, rfl⟩
theorem snd_al (t : TypeId) : Snd P E (.alloc t) := by
  intro ao hc ρ φ fr a h w v h' ty g e
  obtain ⟨z, hz, rfl⟩ := map_some (show (zeroOf P t).map AO.al = some ao from hc)
  obtain ⟨n, h1, rfl, rfl⟩ := new_ok (k := fun id => .c (.p id 0)) (show opAl z fr h = .ok v h' from e)
  obtain ⟨u, hu0, hu1, _⟩ := run_zeroT (ρ := ρ) (φ := φ) hz
  refine ⟨.value (.pointer (some ⟨w.heap.size, 0, none⟩)), _, { w with heap := w.heap.push (.cells u.cells t) }, _, ?_, rfl, ?_, g.rel.alloc h1 hu1 [] t (by simp) rfl rfl rfl⟩
  · simp [opR, execOp, Instr.alloc, hu0, newVar, newRow]
  · exact ptr_new (ρ := ρ) _ _ _ _
theorem snd_bx (t : TypeId) (x : Operand) : Snd P E (.box t x) := by
  intro ao hc ρ φ fr a h w v h' ty g e
  obtain ⟨ax, hx, rfl⟩ := map_some (show (cX x).map AO.bx = some ao from hc)
  obtain ⟨u, h1, e1⟩ := ro_ok (show opBx ax fr h = .ok v h' from e)
  obtain ⟨l, h2, e2⟩ := ro_ok e1
  obtain ⟨n, h3, rfl, rfl⟩ := new_ok e2
  have hv := (cX_ok hx g.fr h1).cells h2
  refine ⟨.value (.pointer (some ⟨w.heap.size, 0, none⟩)), _, { w with heap := w.heap.push (.cells (a.eval x).cells t) }, _, ?_, rfl, ?_, g.rel.alloc h3 hv [] t (by simp) rfl rfl rfl⟩
  · simp [opR, execOp, Instr.box, newVar, newRow]
  · exact ptr_new (ρ := ρ) _ _ _ _
theorem zrep_length (z : List AC) : ∀ n, (zrep z n).length = n * z.length
  | 0 => by simp [zrep]
  | n + 1 => by simp [zrep, zrep_length z n, Nat.add_mul, Nat.add_comm]
theorem zrep_get {z : List AC} (hz : 0 < z.length) : ∀ (n i : Nat), i < n * z.length → (zrep z n)[i]? = z[i % z.length]?
  | 0, i, hi => by omega
  | n + 1, i, hi => by
    simp only [zrep]
    by_cases h : i < z.length
    · rw [List.getElem?_append_left h, Nat.mod_eq_of_lt h]
    · have h2 : (n + 1) * z.length = n * z.length + z.length := Nat.succ_mul _ _
      have h3 : i % z.length = (i - z.length) % z.length := Nat.mod_eq_sub_mod (by omega)
      rw [List.getElem?_append_right (by omega), zrep_get hz n _ (by omega), h3]
/-- zeros, element by element -/
def zrow (us : Array Value) (k : Nat) : List Value := (List.range k).map fun i => us[i % us.size]!
theorem zrow_eq (us : Array Value) (k : Nat) : (Array.range k).map (us[· % us.size]!) = (zrow us k).toArray := by
  apply Array.ext'
  simp [zrow]
theorem zeros_ok {z : List AC} {us : Array Value} (hz : 0 < z.length) (hu : All2 (VC ρ φ) z us.toList) (n : Nat) : All2 (VC ρ φ) (zrep z n) (zrow us (n * z.length)) := by
  have hl := hu.length
  have hsz : us.size = z.length := by simpa using hl.symm
  refine All2.of_get (by simp [zrep_length, zrow]) fun i x y hx hy => ?_
  have hi : i < n * z.length := by
    have := (List.getElem?_eq_some_iff.1 hx).1
    rwa [zrep_length] at this
  rw [zrep_get hz n i hi] at hx
  obtain ⟨y', h1, h2⟩ := hu.get hx
  have hm : i % z.length < us.size := by rw [hsz]; exact Nat.mod_lt _ hz
  have hy' : us[i % us.size]! = y := by
    unfold zrow at hy
    rw [List.getElem?_map, List.getElem?_range hi] at hy
    simpa using hy
  rw [hsz, getElem!_pos us _ hm] at hy'
  rw [Array.getElem?_toList, Array.getElem?_eq_getElem hm] at h1
  cases h1
  rw [← hy']
  exact h2
theorem snd_bs (t : TypeId) (len : Nat) (parts : Array (Nat × Operand)) : Snd P E (.buildSlice t len parts) := by
  intro ao hc ρ φ fr a h w v h' ty g e
  simp only [cOp] at hc
  have hparts : (parts.map fun x => (x.1, a.eval x.2)).toList = parts.toList.map fun p => (p.1, a.eval p.2) := by simp
  split at hc
  · rename_i el hu
    split at hc
    · rename_i s z hs hz
      split at hc
      · rename_i hcond
        obtain ⟨ps, hps, rfl⟩ := map_some hc
        obtain ⟨l, h1, e1⟩ := ro_ok (show opBs (zrep z len) len ps fr h = .ok v h' from e)
        obtain ⟨n, h2, rfl, rfl⟩ := new_ok e1
        obtain ⟨u, hu0, hu1, _⟩ := run_zeroT (ρ := ρ) (φ := φ) hz
        have hzs := zeros_ok (by omega) hu1 len
        rw [hcond.2.1] at hzs
        obtain ⟨cs, h3, h4⟩ := fills_ok g.fr hps h1 hzs
        have hfill : Instr.fill (fun i => some (i * s, s)) (zrow u.cells (len * s)).toArray (parts.map fun x => (x.1, a.eval x.2)).toList = some cs.toArray := by
          rw [hparts]
          exact h3
        refine ⟨.value (.slice (some ⟨w.heap.size, 0, none⟩) len len), _, { w with heap := w.heap.push (.cells cs.toArray el) }, _, ?_, rfl, ?_, g.rel.alloc h2 h4 [] el (by simp) rfl rfl rfl⟩
        · have hbig : ¬ (len * s > 16777216) := by omega
          by_cases h0 : len * s = 0
          · have hfill' : Instr.fill (fun i => some (i * s, s)) ((Array.range (len * s)).map fun i => (#[] : Array Value)[i % (#[] : Array Value).size]!) (parts.map fun x => (x.1, a.eval x.2)).toList = some cs.toArray := by
              have e0 : ((Array.range (len * s)).map fun i => (#[] : Array Value)[i % (#[] : Array Value).size]!) = (zrow u.cells (len * s)).toArray := by
                rw [h0]; apply Array.ext'; simp [zrow]
              rw [e0]
              exact hfill
            simp only [opR, execOp, Instr.buildSlice, Sem.run_bind, run_underlying hu, run_sizeT hs, Result.andThen_ok, hbig, if_false, if_pos h0, Sem.run_pure, hfill', newRow, run_newObj, Sem.run_ite, Nat.reducePow]
          · simp only [opR, execOp, Instr.buildSlice, Sem.run_bind, run_underlying hu, run_sizeT hs, Result.andThen_ok, hbig, if_false, h0, hu0, Sem.run_pure, zrow_eq, hfill, newRow, run_newObj, Sem.run_ite, Nat.reducePow]
        · exact ⟨w.heap.size, 0, _, Emb.add_same _ _ _, rfl⟩
      · cases hc
    · cases hc
  · cases hc
theorem run_isAgg {t : TypeId} {d : TypeDesc} (hu : P.underlying t = some d) (w : World) : (isAgg t).run P w = .ok (aggD d) w := by
  simp only [isAgg, Sem.run_bind, run_underlying hu, Result.andThen_ok]
  cases d <;> rfl
theorem run_loads {b o : Nat} {vs : List Value} (hc : ∀ (j : Nat) v, vs[j]? = some v → w.cell? ⟨b, o + j, none⟩ = some v) {k : Nat} (hk : vs.length = k) : (loadCells ⟨b, o, none⟩ k).run P w = .ok vs.toArray w := by
  rw [← hk]
  exact run_loadCells_list w ⟨b, o, none⟩ vs fun j v hj => by rw [Addr.add_lit]; exact hc j v hj
theorem snd_ld (t : TypeId) (x : Operand) : Snd P E (.load t x) := by
  intro ao hc ρ φ fr a h w v h' ty g e
  simp only [cOp] at hc
  have many : ∀ {dd : TypeDesc} {s : Nat} {ax : AX}, P.underlying t = some dd → aggD dd = true → sizeT P t = some s → cX x = some ax → opLdn s ax fr h = .ok v h' → Res ρ φ h w v h' ((opR a.eval (.load t x) ty).run P w) := by
    intro dd s ax hdd hd hs hx e
    obtain ⟨id, off, h1, e1⟩ := evP_ok e
    obtain ⟨l, h2, e2⟩ := ro_ok e1
    cases e2
    obtain ⟨b, base, tot, h3, h4⟩ := cX_ok hx g.fr h1
    obtain ⟨b', base', tot', vs, h5, h6, h7, h8⟩ := g.rel.lds h2
    rw [h3] at h5
    cases h5
    refine Res.val g.rel (v := .a l) (u := .agg vs.toArray) ⟨vs, rfl, h7⟩ ?_
    have hia := run_isAgg hdd w
    rw [hd] at hia
    simp [opR, execOp, Instr.loadAt, h4, Instr.sureAddr, loadVar, hia, run_sizeT hs, run_loads h8 h6]
  split at hc
  · rename_i fs s ax hu hs hx; cases hc; exact many hu rfl hs hx e
  · rename_i n el s ax hu hs hx; cases hc; exact many hu rfl hs hx e
  · rename_i dd s ax hne1 hne2 hu hs hx
    cases hc
    obtain ⟨id, off, h1, e1⟩ := evP_ok (show opLd ax fr h = .ok v h' from e)
    obtain ⟨c, h2, e2⟩ := ro_ok e1
    cases e2
    obtain ⟨b, base, tot, h3, h4⟩ := cX_ok hx g.fr h1
    obtain ⟨b', base', tot', y, h5, h6, h7⟩ := g.rel.ld h2
    rw [h3] at h5
    cases h5
    refine Res.val g.rel (v := .c c) h7 ?_
    have hia := run_isAgg hu w
    rw [show aggD dd = false by cases dd <;> first | rfl | exact (hne1 _ rfl).elim | exact (hne2 _ _ rfl).elim] at hia
    simp [opR, execOp, Instr.loadAt, h4, Instr.sureAddr, loadVar, hia, h6]
  · cases hc
/-- cells are stored -/
theorem run_stores (r : Rel ρ φ h w) {id : Bid} {off : Nat} {l : List AC} {vs : List Value} (hl : All2 (VC ρ φ) l vs) (e : h.sts id off l = some h') {b base tot : Nat} (hb : φ id = some (b, base, tot)) : ∃ w', (storeCells ⟨b, base + off, none⟩ vs).run P w = .ok () w' ∧ Stp ρ φ h w φ h' w' := by
  obtain ⟨b', base', arr, T, h1, h2, h3, h4⟩ := r.sts hl e
  rw [hb] at h1
  cases h1
  exact ⟨_, run_storeCells_at P b (base + off) T vs 0 arr w h2 (by omega) hl.ones, by simpa using h4⟩
theorem undef_ok : VV ρ φ (.t []) undef := ⟨[], rfl, .nil⟩
theorem snd_st (t : TypeId) (x y : Operand) : Snd P E (.store t x y) := by
  intro ao hc ρ φ fr a h w v h' ty g e
  simp only [cOp] at hc
  split at hc
  · rename_i s ax ay hs hx hy
    cases hc
    obtain ⟨id, off, h1, e1⟩ := evP_ok (show opSt s ax ay fr h = .ok v h' from e)
    obtain ⟨u, h2, e2⟩ := ro_ok e1
    obtain ⟨l, h3, e3⟩ := ro_ok e2
    obtain ⟨hb, e4⟩ := br_ok e3
    obtain ⟨h2', h4, e5⟩ := ro_ok e4
    cases e5
    obtain ⟨b, base, tot, h5, h6⟩ := cX_ok hx g.fr h1
    have hl := (cX_ok hy g.fr h2).cells h3
    obtain ⟨w', h7, h8⟩ := run_stores (P := P) g.rel hl h4 h5
    have hsz : (a.eval y).cells.size = s := by
      have := Nat.eq_of_beq_eq_true hb
      rw [← this, hl.length]; simp
    refine ⟨.skip, undef, w', φ, ?_, rfl, undef_ok, h8⟩
    simp [opR, execOp, Instr.storeAt, h6, Instr.sureAddr, storeVar, run_sizeT hs, hsz, h7]
  · cases hc
theorem snd_mm (t : TypeId) (o : Option Operand) : Snd P E (.makeMap t o) := by
  intro ao hc ρ φ fr a h w v h' ty g e
  cases o with
  | some x => cases hc
  | none =>
    cases hc
    obtain ⟨n, h1, rfl, rfl⟩ := new_ok (k := fun id => .c (.mp id)) (show opMm fr h = .ok v h' from e)
    refine ⟨.value (.map (some w.heap.size)), _, { w with heap := w.heap.push (.map #[] 0) }, φ.add h.next (w.heap.size, 0, 0), ?_, rfl, ⟨w.heap.size, 0, 0, Emb.add_same _ _ _, rfl⟩, ?_⟩
    · simp [opR, execOp, Instr.makeMap]
    · refine g.rel.more h1 (by simp) (Nat.le_refl _) (fun g hg => by show (w.heap.push _)[g]? = _; rw [Array.getElem?_push_lt hg, Array.getElem?_eq_getElem hg]) rfl rfl rfl (fun c hc => by cases hc) fun l hl => ?_
      cases hl
      exact ⟨rfl, rfl, #[], 0, by simp, .nil⟩
theorem and2 {x y : Bool} (e : (x && y) = true) : x = true ∧ y = true := by rwa [Bool.and_eq_true] at e
theorem run_bytesT {t : TypeId} {b : Nat} (e : bytesT P t = some b) : ∃ i, P.info? t = some i ∧ i.bytes = b := by
  unfold bytesT at e
  cases hi : P.info? t with
  | none => rw [hi] at e; cases e
  | some i => rw [hi] at e; cases e; exact ⟨i, rfl, rfl⟩
theorem snd_ms (t : TypeId) (x y : Operand) : Snd P E (.makeSlice t x y) := by
  intro ao hc ρ φ fr a h w v h' ty g e
  simp only [cOp] at hc
  split at hc
  · rename_i el hu
    split at hc
    · rename_i s z b ax ay hs hz hbt hx hy
      split at hc
      · rename_i hcond
        cases hc
        obtain ⟨l, h1, e1⟩ := ro_ok (show opMs z b ax ay fr h = .ok v h' from e)
        obtain ⟨c, h2, e2⟩ := ro_ok e1
        obtain ⟨hb, e3⟩ := br_ok e2
        obtain ⟨n, h3, rfl, rfl⟩ := new_ok e3
        obtain ⟨hb1, hb0, hb2⟩ := and3 hb
        have l1 : l ≤ c := Nat.le_of_ble_eq_true hb1
        have l0 : c ≤ 1048576 := Nat.le_of_ble_eq_true hb0
        have l2 : c * b ≤ 1048576 := Nat.le_of_ble_eq_true hb2
        obtain ⟨k1, h4⟩ := evN_some h1
        obtain ⟨k2, h5⟩ := evN_some h2
        have hl := eq_ofNat (cX_ok hx g.fr h4)
        have hcap := eq_ofNat (cX_ok hy g.fr h5)
        obtain ⟨u, hu0, hu1, _⟩ := run_zeroT (ρ := ρ) (φ := φ) hz
        have hzs := zeros_ok (by omega) hu1 c
        rw [hcond.2] at hzs
        obtain ⟨i, hi, hib⟩ := run_bytesT hbt
        have hlw : IntKind.i64.wrap (l : Int) = l := IntWalk.i64_in _ (by omega)
        have hcw : IntKind.i64.wrap (c : Int) = c := IntWalk.i64_in _ (by omega)
        have hbig : ¬ ((b : Int) * (c : Int) > 281474976710656) := by
          have : ((c * b : Nat) : Int) ≤ 1048576 := by omega
          have e1 : ((c * b : Nat) : Int) = (b : Int) * (c : Int) := by rw [Int.natCast_mul, Int.mul_comm]
          omega
        refine ⟨.value (.slice (some ⟨w.heap.size, 0, none⟩) l c), _, { w with heap := w.heap.push (.cells (zrow u.cells (c * s)).toArray el) }, _, ?_, rfl, ?_, g.rel.alloc h3 hzs [] el (by simp) rfl rfl rfl⟩
        · simp only [opR, execOp, Instr.makeSlice, Sem.run_bind, run_underlying hu, hl, hcap, asInt, run_asIntOf, Sem.run_pure, Result.andThen_ok, typeInfo, run_program, hi, hib, hlw, hcw]
          rw [if_neg (by simp; omega)]
          simp only [Sem.run_bind, run_askRoom, Result.andThen_ok, run_sizeT hs, Int.toNat_natCast]
          by_cases h0 : c * s = 0
          · have e0 : (Array.range (c * s)).map (fun x => (#[] : Array Value)[x % (#[] : Array Value).size]!) = (zrow u.cells (c * s)).toArray := by
              rw [h0]; apply Array.ext'; simp [zrow]
            rw [if_pos h0]
            simp only [Sem.run_bind, Sem.run_pure, Result.andThen_ok, newRow, e0, run_newObj]
          · rw [if_neg h0]
            simp only [Sem.run_bind, Sem.run_pure, Result.andThen_ok, newRow, hu0, zrow_eq, run_newObj]
        · exact ⟨w.heap.size, 0, _, Emb.add_same _ _ _, rfl⟩
      · cases hc
    · cases hc
  · cases hc
end
end Go.Proofs.YtmbbciidknchiaaGreat
