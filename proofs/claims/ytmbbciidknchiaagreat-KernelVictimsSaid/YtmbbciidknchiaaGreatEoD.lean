/-
  A verified evaluator: named bytes, of which rests by small numbers are known. No function of the program is named here.
-/
import Derived.Test.YtmbbciidknchiaaGreatEoC
namespace Go.Proofs.YtmbbciidknchiaaGreat
def isTrue (r : RO) : Bool := match r with | .ok (.c (.b x)) _ => x | _ => false
theorem isTrue_ok {r : RO} (h : isTrue r = true) : ∃ h', r = .ok (.c (.b true)) h' := by
  unfold isTrue at h
  split at h
  · subst h; exact ⟨_, rfl⟩
  · cases h
/-- the rest of a named number by a number -/
def restOf (tab : List (Nat × Nat × Nat)) (y n : Nat) : Option Nat :=
  match tab with
  | [] => none
  | (a, b, c) :: l => bif Nat.beq a y && Nat.beq b n then some c else restOf l y n
def remGen (tab : List (Nat × Nat × Nat)) : Op → List (Option AV) → Option AV
  | .binOp .rem _ _ _ _, [some (.c (.si .i64 y)), some (.c (.i .i64 (.ofNat (n + 1))))] => (restOf tab y (n + 1)).map fun r => .c (.i .i64 (Int.ofNat r))
  | _, _ => none
def byteCv : IntKind → IntKind → Nat → Option AC
  | .i64, .u8, y => some (.si .i64 y)
  | _, _, _ => none
def byteEnv (tab : List (Nat × Nat × Nat)) : Env := ⟨fun _ _ _ => none, fun _ => none, byteCv, remGen tab⟩
theorem restOf_ok {tab : List (Nat × Nat × Nat)} {ρ : Vn} (ht : ∀ x ∈ tab, (ρ.i x.1).tmod (x.2.1 : Int) = (x.2.2 : Int)) : ∀ {y n r : Nat}, restOf tab y n = some r → (ρ.i y).tmod (n : Int) = (r : Int) := by
  induction tab with
  | nil => intro y n r h; cases h
  | cons x l ih =>
    intro y n r h
    obtain ⟨a, b, c⟩ := x
    simp only [restOf] at h
    cases hb : (Nat.beq a y && Nat.beq b n) with
    | true =>
      rw [hb] at h
      cases h
      rw [Bool.and_eq_true] at hb
      have h1 := Nat.eq_of_beq_eq_true hb.1
      have h2 := Nat.eq_of_beq_eq_true hb.2
      subst h1; subst h2
      exact ht _ List.mem_cons_self
    | false =>
      rw [hb] at h
      exact ih (fun x hx => ht x (List.mem_cons_of_mem _ hx)) h
theorem rem_run {P : Program} {f : Operand → Value} {t u ty : TypeId} {x y : Operand} {k : IntKind} {a b : Int} (hx : f x = .int k a) (hy : f y = .int k b) (hb : b ≠ 0) (w : World) : (opR f (.binOp .rem t x y u) ty).run P w = .ok (.value (.int k (a.tmod b))) w := by
  simp [opR, execOp, eqGuard, binOp, hx, hy, Op.intDiv, hb]
theorem remGen_ok {tab : List (Nat × Nat × Nat)} {ρ : Vn} (ht : ∀ x ∈ tab, (ρ.i x.1).tmod (x.2.1 : Int) = (x.2.2 : Int)) {o : Op} {l : List (Option AV)} {v : AV} (h : remGen tab o l = some v) (P : Program) (φ : Emb) (f : Operand → Value) (ty : TypeId) (w : World)
    (hl : All2 (fun (a : Option AV) x => ∀ b, a = some b → VV ρ φ b (f x)) l o.operands.toList) : ∃ u, (opR f o ty).run P w = .ok (.value u) w ∧ VV ρ φ v u := by
  unfold remGen at h
  split at h
  · rename_i t x y u i n
    obtain ⟨r, h1, h2⟩ := map_some h
    subst h2
    have hl' : All2 (fun (a : Option AV) x => ∀ b, a = some b → VV ρ φ b (f x)) [some (.c (.si .i64 i)), some (.c (.i .i64 (.ofNat (n + 1))))] [x, y] := hl
    cases hl' with
    | cons a1 t1 =>
      cases t1 with
      | cons a2 t2 =>
        have e1 : f x = .int .i64 (ρ.i i) := a1 _ rfl
        have e2 : f y = .int .i64 (Int.ofNat (n + 1)) := a2 _ rfl
        refine ⟨_, rem_run e1 e2 (by simp; omega) w, ?_⟩
        have := restOf_ok ht h1
        show Value.int .i64 ((ρ.i i).tmod (Int.ofNat (n + 1))) = .int .i64 (Int.ofNat r)
        rw [show Int.ofNat (n + 1) = ((n + 1 : Nat) : Int) from rfl, this]
        rfl
  · cases h
theorem byteCv_ok {ρ : Vn} (hb : ∀ y, 0 ≤ ρ.i y ∧ ρ.i y < 256) {k q : IntKind} {y : Nat} {c : AC} (h : byteCv k q y = some c) (φ : Emb) : VC ρ φ c (.int k (k.wrap (ρ.i y))) := by
  unfold byteCv at h
  split at h
  · cases h
    show Value.int .i64 _ = .int .i64 _
    have := hb y
    rw [IntWalk.i64_in _ (by omega)]
  · cases h
theorem byteEnv_ok {tab : List (Nat × Nat × Nat)} {ρ : Vn} (hb : ∀ y, 0 ≤ ρ.i y ∧ ρ.i y < 256) (ht : ∀ x ∈ tab, (ρ.i x.1).tmod (x.2.1 : Int) = (x.2.2 : Int)) : EnvOk (byteEnv tab) ρ :=
  ⟨(fun op u v b h => nomatch h), (fun y c h => nomatch h), fun k q y c h φ => byteCv_ok hb h φ, fun o l v h P φ f ty w hl => remGen_ok ht h P φ f ty w hl⟩
end Go.Proofs.YtmbbciidknchiaaGreat
