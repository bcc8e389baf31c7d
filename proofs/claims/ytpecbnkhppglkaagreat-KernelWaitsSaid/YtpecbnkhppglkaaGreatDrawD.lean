/-
  Contracts of the choices, strings.
-/
import Derived.Test.YtpecbnkhppglkaaGreatDraw
import Derived.Deep.DeepCutAuto
namespace Go.Proofs.YtpecbnkhppglkaaGreat
open Go.RowKit

theorem info5u8 : (Tryz.prog.info? 5).map (fun i => (i.zero, i.size, i.bytes)) = some (some (.int .u8 0), 1, 1) := by kernel_rfl

/-- What 'Data' comes to. -/
def DataPost (q : CodeRow) (c : Nat) (w : World) (e : Ending) (w' : World) : Prop :=
  ∃ s : ByteArray, e = .returned (.string s) ∧ s.size ≤ 13 ∧ Only c w w' ∧ CodesAt q w' c

set_option maxHeartbeats 1000000 in
set_option maxRecDepth 1000000 in
theorem data_any (q : CodeRow) (c : Nat) (w : World) (hcd : CodesAt q w c) :
    Calls Tryz.prog 105 #[.pointer (some ⟨c, 0, none⟩)] w (DataPost q c w) := by
  obtain ⟨i0, hi, hz0, hz1, hz2⟩ := info_parts info5u8
  have HC := Lib.hid hcd
  clear hcd
  go_enter Tryz.func105, Tryz.ntmps105
  go_wp2_with fail
  refine (next_any q c 5 _ HC.out (by omega)).mono ?_
  rintro e w1 ⟨r1, rfl, hr1, _, ho1, hcd1⟩
  have hr1 := hr1 (by omega)
  have HO1 := Lib.hid ho1
  have HC1 := Lib.hid hcd1
  clear ho1 hcd1
  go_wp2_with fail
  refine (next_any q c 6 _ HC1.out (by omega)).mono ?_
  rintro e w2 ⟨r2, rfl, hr2, _, ho2, hcd2⟩
  have HO2 := Lib.hid (HO1.out.trans ho2)
  have HC2 := Lib.hid hcd2
  clear ho2 hcd2 hr2 HO1 HC1
  go_upto_if 10 with (fail)
  go_cut [3] (fun s3 wx => ∃ r : Nat, r ≤ 13 ∧ s3 = .int .i64 r ∧ Hid (Only c w wx) ∧ Hid (CodesAt q wx c))
  case first =>
    go_wp2_with fail
    · refine (next_any q c 14 _ HC2.out (by omega)).mono ?_
      rintro e w3 ⟨r3, rfl, hr3, _, ho3, hcd3⟩
      have hr3 := hr3 (by omega)
      have HO3 := Lib.hid (HO2.out.trans ho3)
      have HC3 := Lib.hid hcd3
      clear ho3 hcd3
      go_wp2_with fail
      go_meet
      exact ⟨r3, by omega, rfl, HO3, HC3⟩
    · go_meet
      exact ⟨r1, by omega, rfl, HO2, HC2⟩
  case rest =>
    obtain ⟨r, hr, rfl, HO3, HC3⟩ := hcut
    have hs := HO3.out.size
    go_wp2_with (at_make; refine wpList_make_own _ rfl _ _ 22 rfl (w.heap.size) 5 i0 (.int .u8 0) 1 Tryz.underlying22 hi hz0 hz1 .i64 .i64 _ r rfl rfl rfl ?c1 ?c2 ?c3 ?_)
    case c1 => rw [hz2]; omega
    case c2 => unfold maxLen; omega
    case c3 => exact hs
    intro w4 hown hg
    have HO4 := Lib.hid (HO3.out.trans (⟨hg.os, hg.tape, hg.output, hg.size, fun i h _ => hg.block i h (by simp)⟩ : Only c wc w4))
    have HC4 := Lib.hid (HC.out.kept HC3.out hg (fun g h => by cases h))
    have HW := Lib.hid hown
    clear hown hg HO3 HC3 HO2 HC2
    go_wp2_with fail
    go_loopw [4, 5] (fun v i wr => ∃ (k : Nat) (l : List UInt8), k ≤ r ∧ i = .int .i64 k ∧ l.length = k ∧ Hid (wr.ownsRow w.heap.size 5 1 v k (l.map fun b => Value.int .u8 (b.toNat : Int))) ∧ Hid (Only c w wr) ∧ Hid (CodesAt q wr c)) (fun _ i _ => r - (intOf i).toNat)
    case atStart => exact ⟨0, [], Nat.zero_le _, rfl, rfl, HW, HO4, HC4⟩
    case round =>
      obtain ⟨k, l, hk, rfl, hl, HW5, HO5, HC5⟩ := hrel
      have HL := Lib.hid hl
      clear hl
      by_cases hlt : k < r
      · go_wp2_with fail
        refine (next_any q c 3 _ HC5.out (by omega)).mono ?_
        rintro e w6 ⟨x, rfl, hx, _, ho6, hcd6⟩
        have hx := hx (by omega)
        have HO6 := Lib.hid (HO5.out.trans ho6)
        have HC6 := Lib.hid hcd6
        have HW6 := Lib.hid (ownsRow_only HW5.out ho6 HC.out.lt)
        have hs6 := HO6.out.size
        clear ho6 hcd6 HO5 HC5 HW5
        go_wp2_with (at_builtin; refine wpList_append_own _ rfl _ _ 22 rfl w.heap.size 5 i0 (.int .u8 0) 1 1 Tryz.underlying22 hi hz0 hz1 hz2 rfl (by decide) _ _ _ rfl (HW6.out.alloc _) ⟨w6.heap.size, 0, none⟩ 1 1 [_] rfl rfl (cell_new _ _ _) ?c2 ?c3 ?c4 ?c5 ?_)
        case c2 => intro u hu; simp at hu; subst hu; rfl
        case c3 => unfold maxLen; omega
        case c4 => omega
        case c5 => simp; omega
        intro v' w7 hown hg _
        have hb : (97 + (x : Int)) = ((UInt8.ofNat (97 + x)).toNat : Int) := by
          have : (UInt8.ofNat (97 + x)).toNat = 97 + x := by simp; omega
          omega
        have HW7 : Hid (w7.ownsRow w.heap.size 5 1 v' (k + 1) ((l ++ [UInt8.ofNat (97 + x)]).map fun b => Value.int .u8 (b.toNat : Int))) := by
          rw [hb] at hown; rw [List.map_append]; exact hown
        have HO7 := Lib.hid ((HO6.out.alloc _).grown (HW6.out.alloc _) hg (Nat.le_refl _))
        have HC7 := Lib.hid (HC.out.grown (HC6.out.alloc _) (HW6.out.alloc _) hg (Nat.le_refl _))
        have HL7 : Hid ((l ++ [UInt8.ofNat (97 + x)]).length = k + 1) := by have := HL.out; show _ = _; simp [this]
        clear hown hg hb
        go_wp2_with fail
        go_roundw
        case rel => exact ⟨k + 1, l ++ [UInt8.ofNat (97 + x)], by omega, by go_num, HL7.out, HW7, HO7, HC7⟩
        case measure => simp [intOf]; omega
      · have hcv := conv_bytes wr 22 9 5 w.heap.size u4 l k Tryz.underlying22 Tryz.underlying5 Tryz.underlying9 HL.out HW5.out
        have HF : Hid (DataPost q c w (.returned (.string ⟨l.toArray⟩)) wr) := ⟨_, rfl, by have := HL.out; show l.toArray.size ≤ 13; simp; omega, HO5.out, HC5.out⟩
        clear HW5 HO5 HC5
        go_wp2_with fail
        go_ret
        exact HF.out
end Go.Proofs.YtpecbnkhppglkaaGreat
