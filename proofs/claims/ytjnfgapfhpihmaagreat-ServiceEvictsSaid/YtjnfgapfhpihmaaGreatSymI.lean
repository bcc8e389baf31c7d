/-
  A verified evaluator: interface values that hold a struct of no field or of one number, by names. No function of the program is named here.
-/
import Derived.Test.YtjnfgapfhpihmaaGreatEvG
set_option linter.unusedVariables false
set_option linter.unusedSimpArgs false
namespace Go.Proofs.YtjnfgapfhpihmaaGreat
def ifN (t : Nat) (x : Option Int) : Nm := Option.casesOn (motive := fun _ => Nm) x (.f2 300 (.num (Int.ofNat t)) (.lit [])) fun n => .f2 300 (.num (Int.ofNat t)) (.num n)
def ifC : List AC → Option (Option Int)
  | [] => some none
  | [.i .i64 n] => some (some n)
  | _ => none
def ifW (x : Option Int) : List Value := match x with
  | none => []
  | some n => [.int .i64 n]
def ifA (x : Option Int) : List AC := match x with
  | none => []
  | some n => [.i .i64 n]
def ifX : Nm → Option (Option Int)
  | .lit [] => some none
  | .num n => some (some n)
  | _ => none
def IfStd (ρ : Vn) : Prop := ∀ t x, ρ.g (ifN t x) = .iface t (.agg (ifW x).toArray)
def isSt (P : Program) (t : TypeId) : Bool := match P.underlying t with
  | some (.struct _) => true
  | _ => false
def isIf (P : Program) (t : TypeId) : Bool := match P.underlying t with
  | some (.interface _) => true
  | _ => false
def ifTest (P : Program) (u t : Nat) (x : Option Int) : Option AV :=
  bif Nat.beq t u then some (.t [.a (ifA x), .c (.b true)]) else match zeroV P u with
    | some (.a z) => some (.t [.a z, .c (.b false)])
    | _ => none
def ifGen (P : Program) (o : Op) (l : List (Option AV)) : Option AV := match o, l with
  | .makeInterface t _, [some (.a cs)] => bif isSt P t then (match ifC cs with
    | some x => some (.c (.gv (ifN t x)))
    | none => none) else none
  | .typeAssert _ _ u true, [some (.c (.gv (.f2 300 (.num (.ofNat t)) y)))] => bif isSt P u then (match ifX y with
    | some x => ifTest P u t x
    | none => none) else none
  | .binOp .eql t _ _ _, [some (.c (.gv (.f2 300 (.num (.ofNat _)) y))), some (.c .ni)] => bif isIf P t && (ifX y).isSome then some (.c (.b false)) else none
  | _, _ => none
theorem ifC_ok {cs : List AC} {x : Option Int} (h : ifC cs = some x) : cs = ifA x := by
  unfold ifC at h
  split at h <;> cases h <;> rfl
theorem ifX_ok {t : Nat} {y : Nm} {x : Option Int} (h : ifX y = some x) : Nm.f2 300 (.num (.ofNat t)) y = ifN t x := by
  unfold ifX at h
  split at h <;> cases h <;> rfl
theorem ifA_all {ρ : Vn} {φ : Emb} : ∀ x, All2 (VC ρ φ) (ifA x) (ifW x)
  | none => .nil
  | some _ => .cons rfl .nil
theorem isSt_ok {P : Program} {t : TypeId} (h : isSt P t = true) : ∃ fs, P.underlying t = some (.struct fs) := by
  unfold isSt at h
  split at h
  · rename_i fs hf; exact ⟨fs, hf⟩
  · cases h
theorem all2_if {ρ : Vn} {φ : Emb} {x : Option Int} {vs : List Value} (h : All2 (VC ρ φ) (ifA x) vs) : vs = ifW x := by
  cases x with
  | none => cases h; rfl
  | some n =>
    cases h with
    | cons h t =>
      cases t
      have h' : _ = Value.int .i64 n := h
      rw [h']; rfl
theorem run_under {P : Program} {t : TypeId} {ty : TypeDesc} (h : P.underlying t = some ty) (w : World) : (underlying t).run P w = .ok ty w := by
  simp [underlying, h]
theorem run_equalIn_if {P : Program} (d : Nat) {t : TypeId} {ms : Array (String × TypeId)} (hu : P.underlying t = some (.interface ms)) (u : TypeId) (x : Value) (w : World) : (Op.equalIn (d + 1) t (.iface u x) .nilIface).run P w = .ok false w := by
  simp [Op.equalIn, run_underlying hu]
theorem ifGen_ok {P : Program} {ρ : Vn} (hs : IfStd ρ) {o : Op} {l : List (Option AV)} {v : AV} (e : ifGen P o l = some v) (φ : Emb) (f : Operand → Value) (ty : TypeId) (w : World)
    (hl : All2 (fun (a : Option AV) x => ∀ b, a = some b → VV ρ φ b (f x)) l o.operands.toList) : ∃ u, (opR f o ty).run P w = .ok (.value u) w ∧ VV ρ φ v u := by
  unfold ifGen at e
  split at e
  · rename_i t x cs
    cases hst : isSt P t with
    | false => rw [hst] at e; cases e
    | true =>
      rw [hst] at e
      simp only [cond_true] at e
      split at e
      · rename_i x1 hx
        cases e
        obtain ⟨fs, hu⟩ := isSt_ok hst
        have hcs := ifC_ok hx
        subst hcs
        have hx2 : VV ρ φ (.a (ifA x1)) (f x) := by
          have : All2 (fun (a : Option AV) x => ∀ b, a = some b → VV ρ φ b (f x)) [some (.a (ifA x1))] [x] := by simpa [Op.operands] using hl
          cases this with
          | cons h _ => exact h _ rfl
        obtain ⟨vs, h1, h2⟩ := hx2
        have h3 := all2_if h2
        subst h3
        refine ⟨.iface t (f x), ?_, ?_⟩
        · simp [opR, execOp, Instr.makeInterface, run_under hu, hu]
        · rw [h1]
          exact ⟨(hs t x1).symm, rfl⟩
      · cases e
  · rename_i x xt u t y
    cases hst : isSt P u with
    | false => rw [hst] at e; cases e
    | true =>
      rw [hst] at e
      simp only [cond_true] at e
      split at e
      · rename_i x1 hx
        obtain ⟨fs, hu⟩ := isSt_ok hst
        have hn := ifX_ok (t := t) hx
        have hx2 : VV ρ φ (.c (.gv (.f2 300 (.num (.ofNat t)) y))) (f x) := by
          have : All2 (fun (a : Option AV) x => ∀ b, a = some b → VV ρ φ b (f x)) [some (.c (.gv (.f2 300 (.num (.ofNat t)) y)))] [x] := by simpa [Op.operands] using hl
          cases this with
          | cons h _ => exact h _ rfl
        have hfx : f x = .iface t (.agg (ifW x1).toArray) := by
          have h1 : f x = ρ.g (.f2 300 (.num (.ofNat t)) y) ∧ _ := hx2
          rw [h1.1, hn, hs]
        unfold ifTest at e
        cases hb : Nat.beq t u with
        | true =>
          rw [hb] at e
          cases e
          have htu : t = u := Nat.eq_of_beq_eq_true hb
          subst htu
          refine ⟨.tuple #[.agg (ifW x1).toArray, .bool true], ?_, ?_⟩
          · simp [opR, execOp, Instr.typeAssert, run_under hu, hu, hfx]
          · exact ⟨[.agg (ifW x1).toArray, .bool true], rfl, .cons ⟨_, rfl, ifA_all x1⟩ (.cons rfl .nil)⟩
        | false =>
          rw [hb] at e
          simp only [cond_false] at e
          split at e
          · rename_i z hz
            cases e
            have htu : t ≠ u := by rintro rfl; rw [Nat.beq_refl] at hb; cases hb
            obtain ⟨zu, hz1, hz2⟩ := run_zeroV (ρ := ρ) (φ := φ) hz
            refine ⟨.tuple #[zu, .bool false], ?_, ⟨[zu, .bool false], rfl, .cons hz2 (.cons rfl .nil)⟩⟩
            simp [opR, execOp, Instr.typeAssert, run_under hu, hu, hfx, htu, hz1]
          · cases e
      · cases e
  · rename_i t x x' u t' y
    cases hb : (isIf P t && (ifX y).isSome) with
    | false => rw [hb] at e; cases e
    | true =>
      rw [hb] at e
      cases e
      rw [Bool.and_eq_true] at hb
      obtain ⟨x1, hx⟩ := Option.isSome_iff_exists.1 hb.2
      have hn := ifX_ok (t := t') hx
      have hi : ∃ ms, P.underlying t = some (.interface ms) := by
        have := hb.1
        unfold isIf at this
        split at this
        · rename_i ms hm; exact ⟨ms, hm⟩
        · cases this
      obtain ⟨ms, hm⟩ := hi
      have hall : All2 (fun (a : Option AV) x => ∀ b, a = some b → VV ρ φ b (f x)) [some (.c (.gv (.f2 300 (.num (.ofNat t')) y))), some (.c .ni)] [x, x'] := by simpa [Op.operands] using hl
      cases hall with
      | cons h1 h2 =>
        cases h2 with
        | cons h2 _ =>
          have hx2 : f x = ρ.g (.f2 300 (.num (.ofNat t')) y) ∧ _ := h1 _ rfl
          have hfx : f x = .iface t' (.agg (ifW x1).toArray) := by rw [hx2.1, hn, hs]
          have hfy : f x' = .nilIface := h2 _ rfl
          refine ⟨.bool false, ?_, rfl⟩
          have hq := run_equalIn_if (P := P) 9999 hm t' (.agg (ifW x1).toArray) w
          simp only [opR, execOp, hfx, hfy, eqGuard, binOp, Sem.run_bind, Op.equal, Op.maxDepth]
          simp [hq]
  · cases e
end Go.Proofs.YtjnfgapfhpihmaaGreat
