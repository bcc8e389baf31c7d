/-
  A verified evaluator: operations that only make a block, whatever its name. No function of the program is named here.
-/
import Derived.Test.YtmbbciidknchiaaGreatEnU
namespace Go.Proofs.YtmbbciidknchiaaGreat
/-- what is made: value for a name, block -/
def MkRes (P : Program) (ρ : Vn) (φ : Emb) (h : Hp) (w : World) (v : AV) (h' : Hp) (op : Op) (f : Operand → Value) (ty : TypeId) : Prop :=
  ∃ (V : Bid → AC) (B : AB) (n : Bid) (u : Value) (blk : Obj) (tot : Nat), h.next.inc = some n ∧ v = .c (V h.next) ∧ h' = h.more n B ∧ (opR f op ty).run P w = .ok (.value u) { w with heap := w.heap.push blk } ∧
    (∀ (ψ : Emb) (id : Bid), ψ id = some (w.heap.size, 0, tot) → VC ρ ψ (V id) u) ∧
    ((∃ c vs T, B = .cells c ∧ blk = .cells (List.toArray vs) T (0, 0) ∧ tot = vs.length ∧ All2 (VC ρ φ) c vs) ∨ (B = .map [] ∧ blk = .map #[] 0 ∧ tot = 0))
section
variable {P : Program} {E : Env} {ρ : Vn} {φ : Emb} {fr : Fr} {a : Act} {h h' : Hp} {w w' : World} {v : AV} {ty : TypeId}
theorem mk_al (hf : FR ρ φ fr a.tmps) {t : TypeId} {ao : AO} (hc : cOp P (.alloc t) = some ao) (e : aop P E noCall ao fr h = .ok v h') : MkRes P ρ φ h w v h' (.alloc t) a.eval ty := by
  obtain ⟨z, hz, rfl⟩ := map_some (show (zeroOf P t).map AO.al = some ao from hc)
  obtain ⟨n, h1, rfl, rfl⟩ := new_ok (k := fun id => .c (.p id 0)) (show opAl z fr h = .ok v h' from e)
  obtain ⟨u, hu0, hu1, _⟩ := run_zeroT (ρ := ρ) (φ := φ) hz
  refine ⟨fun id => .p id 0, _, n, .pointer (some ⟨w.heap.size, 0, none⟩), .cells u.cells t, u.cells.toList.length, h1, rfl, rfl, ?_, fun ψ id hx => ⟨_, _, _, hx, rfl⟩, .inl ⟨_, u.cells.toList, t, rfl, by simp, rfl, hu1⟩⟩
  simp [opR, execOp, Instr.alloc, hu0, newVar, newRow]
theorem mk_bx (hf : FR ρ φ fr a.tmps) {t : TypeId} {x : Operand} {ao : AO} (hc : cOp P (.box t x) = some ao) (e : aop P E noCall ao fr h = .ok v h') : MkRes P ρ φ h w v h' (.box t x) a.eval ty := by
  obtain ⟨ax, hx, rfl⟩ := map_some (show (cX x).map AO.bx = some ao from hc)
  obtain ⟨u, h1, e1⟩ := ro_ok (show opBx ax fr h = .ok v h' from e)
  obtain ⟨l, h2, e2⟩ := ro_ok e1
  obtain ⟨n, h3, rfl, rfl⟩ := new_ok e2
  have hv := (cX_ok hx hf h1).cells h2
  refine ⟨fun id => .p id 0, _, n, .pointer (some ⟨w.heap.size, 0, none⟩), .cells (a.eval x).cells t, (a.eval x).cells.toList.length, h3, rfl, rfl, ?_, fun ψ id hx => ⟨_, _, _, hx, rfl⟩, .inl ⟨_, (a.eval x).cells.toList, t, rfl, by simp, rfl, hv⟩⟩
  simp [opR, execOp, Instr.box, newVar, newRow]
theorem mk_bs (hf : FR ρ φ fr a.tmps) {t : TypeId} {len : Nat} {parts : Array (Nat × Operand)} {ao : AO} (hc : cOp P (.buildSlice t len parts) = some ao) (e : aop P E noCall ao fr h = .ok v h') : MkRes P ρ φ h w v h' (.buildSlice t len parts) a.eval ty := by
  simp only [cOp] at hc
  have hparts : (parts.map fun x => (x.1, a.eval x.2)).toList = parts.toList.map fun p => (p.1, a.eval p.2) := by simp
  split at hc
  · rename_i el hu
    split at hc
    · rename_i s z hs hz
      split at hc
      · rename_i hcond
        obtain ⟨ps, hps, rfl⟩ := map_some hc
        obtain ⟨l, h1, e1⟩ := ro_ok (show opBs (zrep z len) len ps fr h = .ok v h' from e)
        obtain ⟨n, h2, rfl, rfl⟩ := new_ok e1
        obtain ⟨u, hu0, hu1, _⟩ := run_zeroT (ρ := ρ) (φ := φ) hz
        have hzs := zeros_ok (by omega) hu1 len
        rw [hcond.2.1] at hzs
        obtain ⟨cs, h3, h4⟩ := fills_ok hf hps h1 hzs
        have hfill : Instr.fill (fun i => some (i * s, s)) (zrow u.cells (len * s)).toArray (parts.map fun x => (x.1, a.eval x.2)).toList = some cs.toArray := by
          rw [hparts]
          exact h3
        refine ⟨fun id => .sl id 0 len len, _, n, .slice (some ⟨w.heap.size, 0, none⟩) len len, .cells cs.toArray el, cs.length, h2, rfl, rfl, ?_, fun ψ id hx => ⟨_, _, _, hx, rfl⟩, .inl ⟨_, cs, el, rfl, rfl, rfl, h4⟩⟩
        have hbig : ¬ (len * s > 16777216) := by omega
        by_cases h0 : len * s = 0
        · have hfill' : Instr.fill (fun i => some (i * s, s)) ((Array.range (len * s)).map fun i => (#[] : Array Value)[i % (#[] : Array Value).size]!) (parts.map fun x => (x.1, a.eval x.2)).toList = some cs.toArray := by
            have e0 : ((Array.range (len * s)).map fun i => (#[] : Array Value)[i % (#[] : Array Value).size]!) = (zrow u.cells (len * s)).toArray := by
              rw [h0]; apply Array.ext'; simp [zrow]
            rw [e0]
            exact hfill
          simp only [opR, execOp, Instr.buildSlice, Sem.run_bind, run_underlying hu, run_sizeT hs, Result.andThen_ok, hbig, if_false, if_pos h0, Sem.run_pure, hfill', newRow, run_newObj, Sem.run_ite, Nat.reducePow]
        · simp only [opR, execOp, Instr.buildSlice, Sem.run_bind, run_underlying hu, run_sizeT hs, Result.andThen_ok, hbig, if_false, h0, hu0, Sem.run_pure, zrow_eq, hfill, newRow, run_newObj, Sem.run_ite, Nat.reducePow]
      · cases hc
    · cases hc
  · cases hc
theorem mk_mm {t : TypeId} {o : Option Operand} {ao : AO} (hc : cOp P (.makeMap t o) = some ao) (e : aop P E noCall ao fr h = .ok v h') : MkRes P ρ φ h w v h' (.makeMap t o) a.eval ty := by
  cases o with
  | some x => cases hc
  | none =>
    cases hc
    obtain ⟨n, h1, rfl, rfl⟩ := new_ok (k := fun id => .c (.mp id)) (show opMm fr h = .ok v h' from e)
    refine ⟨fun id => .mp id, _, n, .map (some w.heap.size), .map #[] 0, 0, h1, rfl, rfl, ?_, fun ψ id hx => ⟨_, _, _, hx, rfl⟩, .inr ⟨rfl, rfl, rfl⟩⟩
    simp [opR, execOp, Instr.makeMap]
theorem mk_ms (hf : FR ρ φ fr a.tmps) {t : TypeId} {x y : Operand} {ao : AO} (hc : cOp P (.makeSlice t x y) = some ao) (e : aop P E noCall ao fr h = .ok v h') : MkRes P ρ φ h w v h' (.makeSlice t x y) a.eval ty := by
  simp only [cOp] at hc
  split at hc
  · rename_i el hu
    split at hc
    · rename_i s z b ax ay hs hz hbt hx hy
      split at hc
      · rename_i hcond
        cases hc
        obtain ⟨l, h1, e1⟩ := ro_ok (show opMs z b ax ay fr h = .ok v h' from e)
        obtain ⟨c, h2, e2⟩ := ro_ok e1
        obtain ⟨hb, e3⟩ := br_ok e2
        obtain ⟨n, h3, rfl, rfl⟩ := new_ok e3
        obtain ⟨hb1, hb0, hb2⟩ := and3 hb
        have l1 : l ≤ c := Nat.le_of_ble_eq_true hb1
        have l0 : c ≤ 1048576 := Nat.le_of_ble_eq_true hb0
        have l2 : c * b ≤ 1048576 := Nat.le_of_ble_eq_true hb2
        obtain ⟨k1, h4⟩ := evN_some h1
        obtain ⟨k2, h5⟩ := evN_some h2
        have hl := eq_ofNat (cX_ok hx hf h4)
        have hcap := eq_ofNat (cX_ok hy hf h5)
        obtain ⟨u, hu0, hu1, _⟩ := run_zeroT (ρ := ρ) (φ := φ) hz
        have hzs := zeros_ok (by omega) hu1 c
        rw [hcond.2] at hzs
        obtain ⟨i, hi, hib⟩ := run_bytesT hbt
        have hlw : IntKind.i64.wrap (l : Int) = l := IntWalk.i64_in _ (by omega)
        have hcw : IntKind.i64.wrap (c : Int) = c := IntWalk.i64_in _ (by omega)
        have hbig : ¬ ((b : Int) * (c : Int) > 281474976710656) := by
          have : ((c * b : Nat) : Int) ≤ 1048576 := by omega
          have e1 : ((c * b : Nat) : Int) = (b : Int) * (c : Int) := by rw [Int.natCast_mul, Int.mul_comm]
          omega
        refine ⟨fun id => .sl id 0 l c, _, n, .slice (some ⟨w.heap.size, 0, none⟩) l c, .cells (zrow u.cells (c * s)).toArray el, (zrow u.cells (c * s)).length, h3, rfl, rfl, ?_, fun ψ id hx => ⟨_, _, _, hx, rfl⟩, .inl ⟨_, _, el, rfl, rfl, rfl, hzs⟩⟩
        simp only [opR, execOp, Instr.makeSlice, Sem.run_bind, run_underlying hu, hl, hcap, asInt, run_asIntOf, Sem.run_pure, Result.andThen_ok, typeInfo, run_program, hi, hib, hlw, hcw]
        rw [if_neg (by simp; omega)]
        simp only [Sem.run_bind, run_askRoom, Result.andThen_ok, run_sizeT hs, Int.toNat_natCast]
        by_cases h0 : c * s = 0
        · have e0 : (Array.range (c * s)).map (fun x => (#[] : Array Value)[x % (#[] : Array Value).size]!) = (zrow u.cells (c * s)).toArray := by
            rw [h0]; apply Array.ext'; simp [zrow]
          rw [if_pos h0]
          simp only [Sem.run_bind, Sem.run_pure, Result.andThen_ok, newRow, e0, run_newObj]
        · rw [if_neg h0]
          simp only [Sem.run_bind, Sem.run_pure, Result.andThen_ok, newRow, hu0, zrow_eq, run_newObj]
      · cases hc
    · cases hc
  · cases hc
end
end Go.Proofs.YtmbbciidknchiaaGreat
