/-
  A verified evaluator: a string of which only is known that it is longer than a number.
-/
import Derived.Test.YtmbbciidknchiaaGreatEvG
set_option linter.unusedVariables false
namespace Go.Proofs.YtmbbciidknchiaaGreat
open Go.RowKit
def longProp (n : Nat) (ρ : Vn) : Prop := ρ.i (.f1 2 (.v 2)) = ((ρ.s (.v 2)).size : Int) ∧ n < (ρ.s (.v 2)).size
def longLen : Nm → Option AC
  | .v 2 => some (.si .i64 (.f1 2 (.v 2)))
  | _ => none
def longBin (n : Nat) : BinOp → AC → AC → Option AC
  | .gtr, .si .i64 (.f1 2 (.v 2)), .i .i64 (.ofNat m) => bif Nat.ble m n then some (.b true) else none
  | _, _, _ => none
def longEnv (n : Nat) : Env := ⟨longProp n, fun _ _ _ => none, longLen, fun _ _ _ => none, longBin n, fun _ _ => none⟩
theorem longEnv_ok {n : Nat} {ρ : Vn} (h : longProp n ρ) : EnvOk (longEnv n) ρ := by
  refine ⟨h, (fun op u v b e => nomatch e), ?_, ?_, (fun k q y c e => nomatch e), (fun o l v e => nomatch e)⟩
  · intro op u v r e φ x y hx hy P t p q w
    have e' : longBin n op u v = some r := e
    unfold longBin at e'
    split at e'
    · rename_i m
      cases hb : Nat.ble m n with
      | false => rw [hb] at e'; cases e'
      | true =>
        rw [hb] at e'
        cases e'
        have hm := Nat.le_of_ble_eq_true hb
        have hxx : x = .int .i64 (ρ.i (.f1 2 (.v 2))) := hx
        have hyy : y = .int .i64 (Int.ofNat m) := hy
        rw [hxx, hyy]
        have hlt : (Int.ofNat m) < ρ.i (.f1 2 (.v 2)) := by
          rw [h.1]
          have := h.2
          simp only [Int.ofNat_eq_natCast]
          omega
        obtain ⟨z', hz1, hz2⟩ := slow_run (ρ := ρ) (φ := φ) (P := P) (w := w) (op := .gtr) (k := .i64) (m := ρ.i (.f1 2 (.v 2))) (n := Int.ofNat m) rfl t p q
        refine ⟨z', hz2, ?_⟩
        have : z' = .bool (decide (Int.ofNat m < ρ.i (.f1 2 (.v 2)))) := hz1
        rw [this, decide_eq_true hlt]
        rfl
    · cases e'
  · intro y c e φ
    have e' : longLen y = some c := e
    unfold longLen at e'
    split at e'
    · cases e'
      show Value.int .i64 _ = .int .i64 (ρ.i (.f1 2 (.v 2)))
      rw [h.1]
    · cases e'
end Go.Proofs.YtmbbciidknchiaaGreat
