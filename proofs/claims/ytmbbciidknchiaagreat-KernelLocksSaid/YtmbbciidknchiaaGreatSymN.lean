/-
  codec.Put, codec.Sum, strings.Repeat of strings that are not known.
-/
import Derived.Test.YtmbbciidknchiaaGreatSymE
set_option linter.unusedVariables false
namespace Go.Proofs.YtmbbciidknchiaaGreat
open Go.RowKit
def putS (d : Nat) (x n : AC) (k : Nat) : Option AV := match termOf x, intTerm n with
  | some t, some y => match (lin d t).1 with
    | some z => bif small6 z && Nat.ble 1 k && Nat.ble k 8 then some (.c (.ss (.f2 (10 + k) t y))) else none
    | none => none
  | _, _ => none
def natPutS (d : Nat) : List AV → Option AV
  | [.c (.s l), .c (.i .i64 (.ofNat m)), .c (.i .i64 (.ofNat k))] => putG l m k
  | [.c x, .c n, .c (.i .i64 (.ofNat k))] => putS d x n k
  | _ => none
noncomputable def natSumS (d : Nat) : List AV → Option AV
  | [.c (.s l)] => natSum [.c (.s l)]
  | [.c (.ss t)] => match (lin d t).1 with
    | some z => bif small6 z then some (.c (.si .u32 (.f1 4 t))) else none
    | none => none
  | _ => none
def natRepS (d : Nat) : List AV → Option AV
  | [.c (.s [0]), .c (.si .i64 y)] => match (lin d y).2 with
    | some z => bif small6 z && decide (0 ≤ (rangeL z).1) then some (.c (.ss (.f1 1 y))) else none
    | none => none
  | l => natRepeat l
theorem natPutS_ok {tab : List (Nat × Nat × Nat)} {d : Nat} : EntOk Tryz.prog (symEnv tab d) ⟨.x0, .xb, .xb⟩ (.nat (natPutS d)) := by
  refine ⟨(natPut_ok (E := symEnv tab d)).1, ?_⟩
  intro vs v hv ρ φ h w us he hr hu
  unfold natPutS at hv
  split at hv
  · rename_i l m k
    exact (natPut_ok (E := symEnv tab d)).2 _ v (show natPut [.c (.s l), .c (.i .i64 (.ofNat m)), .c (.i .i64 (.ofNat k))] = some v from hv) ρ φ h w us he hr hu
  · rename_i x n k _
    obtain ⟨hs, hL, _, _⟩ := (show symProp tab d ρ from he.prop)
    unfold putS at hv
    split at hv
    · rename_i t y ht hy
      split at hv
      · rename_i z hz
        cases hb : (small6 z && Nat.ble 1 k && Nat.ble k 8) with
        | false => rw [hb] at hv; cases hv
        | true =>
          rw [hb] at hv
          cases hv
          rw [Bool.and_eq_true, Bool.and_eq_true] at hb
          have b1 := small6_ok hb.1.1 hL
          rw [← (lin_ok hs hL t).1 z hz] at b1
          have b2 := Nat.le_of_ble_eq_true hb.1.2
          have b3 := Nat.le_of_ble_eq_true hb.2
          cases hu with
          | cons a1 t1 =>
            cases t1 with
            | cons a2 t2 =>
              cases t2 with
              | cons a3 t3 =>
                cases t3
                cases termOf_ok hs ht a1
                cases intTerm_ok hs hy a2
                cases (show _ = Value.int .i64 (Int.ofNat k) from a3)
                refine nat_of hr (u := .string ⟨((ρ.s t).data.toList ++ putL (ρ.i y) k).toArray⟩) ?_ (put_walk (ρ.s t) (ρ.i y) k w (by omega) b2 b3)
                show Value.string _ = .string (ρ.s (.f2 (10 + k) t y))
                rw [hs.put k t y b2 b3]
      · cases hv
    · cases hv
  · cases hv
theorem natSumS_ok {tab : List (Nat × Nat × Nat)} {d : Nat} : EntOk Tryz.prog (symEnv tab d) ⟨.x0, .xb, .xe⟩ (.nat (natSumS d)) := by
  refine ⟨(natSum_ok (E := symEnv tab d)).1, ?_⟩
  intro vs v hv ρ φ h w us he hr hu
  unfold natSumS at hv
  split at hv
  · exact (natSum_ok (E := symEnv tab d)).2 _ v hv ρ φ h w us he hr hu
  · rename_i t
    obtain ⟨hs, hL, _, _⟩ := (show symProp tab d ρ from he.prop)
    split at hv
    · rename_i z hz
      cases hb : small6 z with
      | false => rw [hb] at hv; cases hv
      | true =>
        rw [hb] at hv
        cases hv
        have b1 := small6_ok hb hL
        rw [← (lin_ok hs hL t).1 z hz] at b1
        cases hu with
        | cons a1 t1 =>
          cases t1
          cases (show _ = Value.string (ρ.s t) from a1)
          refine nat_of hr (u := .int .u32 (crcF (ρ.s t).data.toList : Nat)) ?_ (sum_walk (ρ.s t) w (by omega))
          show Value.int .u32 _ = .int .u32 (ρ.i (.f1 4 t))
          rw [hs.sum]
    · cases hv
  · cases hv
theorem natRepS_ok {tab : List (Nat × Nat × Nat)} {d : Nat} : EntOk Tryz.prog (symEnv tab d) ⟨.x0, .xb, .xd⟩ (.nat (natRepS d)) := by
  refine ⟨(natRepeat_ok (E := symEnv tab d)).1, ?_⟩
  intro vs v hv ρ φ h w us he hr hu
  unfold natRepS at hv
  split at hv
  · rename_i y
    obtain ⟨hs, hL, _, _⟩ := (show symProp tab d ρ from he.prop)
    split at hv
    · rename_i z hz
      cases hb : (small6 z && decide (0 ≤ (rangeL z).1)) with
      | false => rw [hb] at hv; cases hv
      | true =>
        rw [hb] at hv
        cases hv
        rw [Bool.and_eq_true, decide_eq_true_eq] at hb
        have b1 := small6_ok hb.1 hL
        have b2 := rangeL_ok z hL
        rw [← (lin_ok hs hL y).2 z hz] at b1 b2
        cases hu with
        | cons a1 t1 =>
          cases t1 with
          | cons a2 t2 =>
            cases t2
            obtain ⟨s0, rfl, hs0⟩ := a1
            cases (show _ = Value.int .i64 (ρ.i y) from a2)
            have hz0 := bytes_of hs0
            obtain ⟨c, hc⟩ := Int.eq_ofNat_of_zero_le (show 0 ≤ ρ.i y by omega)
            have hlen : s0.size = 1 := by rw [hz0]; rfl
            rw [hc] at b1 b2
            have hcall := Tryz.strings_Repeat s0 c w (by omega) (by rw [hlen]; omega)
            rw [hc]
            refine nat_of hr (u := .string ⟨(Lib.repeatL s0.data.toList c).toArray⟩) ?_ hcall
            show Value.string _ = .string (ρ.s (.f1 1 y))
            rw [hs.zeros, hc, hz0]
            rfl
    · cases hv
  · exact (natRepeat_ok (E := symEnv tab d)).2 _ v hv ρ φ h w us he hr hu
end Go.Proofs.YtmbbciidknchiaaGreat
