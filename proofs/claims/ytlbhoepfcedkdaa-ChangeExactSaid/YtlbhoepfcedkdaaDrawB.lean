/-
  Contracts of the choices, second part: strings, cells, changes.
-/
import Derived.Test.YtlbhoepfcedkdaaDraw
import Derived.Deep.DeepCutAuto
namespace Go.Proofs.Ytlbhoepfcedkdaa
open Go.RowKit

theorem info5u8 : (Try.prog.info? 5).map (fun i => (i.zero, i.size, i.bytes)) = some (some (.int .u8 0), 1, 1) := by kernel_rfl

/-- What 'Data' comes to. -/
def DataPost (q : CodeRow) (c : Nat) (w : World) (e : Ending) (w' : World) : Prop :=
  ∃ s : ByteArray, e = .returned (.string s) ∧ s.size ≤ 13 ∧ Only c w w' ∧ CodesAt q w' c

set_option maxHeartbeats 1000000 in
theorem data_any (q : CodeRow) (c : Nat) (w : World) (hcd : CodesAt q w c) :
    Calls Try.prog 30 #[.pointer (some ⟨c, 0, none⟩)] w (DataPost q c w) := by
  obtain ⟨i0, hi, hz0, hz1, hz2⟩ := info_parts info5u8
  have HC := Lib.hid hcd
  clear hcd
  go_enter Try.func30, Try.ntmps30
  go_wp2_with fail
  refine (next_any q c 5 _ HC.out (by omega)).mono ?_
  rintro e w1 ⟨r1, rfl, hr1, _, ho1, hcd1⟩
  have hr1 := hr1 (by omega)
  have HO1 := Lib.hid ho1
  have HC1 := Lib.hid hcd1
  clear ho1 hcd1
  go_wp2_with fail
  refine (next_any q c 6 _ HC1.out (by omega)).mono ?_
  rintro e w2 ⟨r2, rfl, hr2, _, ho2, hcd2⟩
  have HO2 := Lib.hid (HO1.out.trans ho2)
  have HC2 := Lib.hid hcd2
  clear ho2 hcd2 hr2 HO1 HC1
  go_upto_if 10 with (fail)
  go_cut [3] (fun s3 wx => ∃ r : Nat, r ≤ 13 ∧ s3 = .int .i64 r ∧ Hid (Only c w wx) ∧ Hid (CodesAt q wx c))
  case first =>
    go_wp2_with fail
    · refine (next_any q c 14 _ HC2.out (by omega)).mono ?_
      rintro e w3 ⟨r3, rfl, hr3, _, ho3, hcd3⟩
      have hr3 := hr3 (by omega)
      have HO3 := Lib.hid (HO2.out.trans ho3)
      have HC3 := Lib.hid hcd3
      clear ho3 hcd3
      go_wp2_with fail
      go_meet
      exact ⟨r3, by omega, rfl, HO3, HC3⟩
    · go_meet
      exact ⟨r1, by omega, rfl, HO2, HC2⟩
  case rest =>
    obtain ⟨r, hr, rfl, HO3, HC3⟩ := hcut
    have hs := HO3.out.size
    go_wp2_with (at_make; refine wpList_make_own _ rfl _ _ 22 rfl (w.heap.size) 5 i0 (.int .u8 0) 1 Try.underlying22 hi hz0 hz1 .i64 .i64 _ r rfl rfl rfl ?c1 ?c2 ?c3 ?_)
    case c1 => rw [hz2]; omega
    case c2 => unfold maxLen; omega
    case c3 => exact hs
    intro w4 hown hg
    have HO4 := Lib.hid (HO3.out.trans (⟨hg.os, hg.tape, hg.output, hg.size, fun i h _ => hg.block i h (by simp)⟩ : Only c wc w4))
    have HC4 := Lib.hid (HC.out.kept HC3.out hg (fun g h => by cases h))
    have HW := Lib.hid hown
    clear hown hg HO3 HC3 HO2 HC2
    go_wp2_with fail
    go_loopw [4, 5] (fun v i wr => ∃ (k : Nat) (l : List UInt8), k ≤ r ∧ i = .int .i64 k ∧ l.length = k ∧ Hid (wr.ownsRow w.heap.size 5 1 v k (l.map fun b => Value.int .u8 (b.toNat : Int))) ∧ Hid (Only c w wr) ∧ Hid (CodesAt q wr c)) (fun _ i _ => r - (intOf i).toNat)
    case atStart => exact ⟨0, [], Nat.zero_le _, rfl, rfl, HW, HO4, HC4⟩
    case round =>
      obtain ⟨k, l, hk, rfl, hl, HW5, HO5, HC5⟩ := hrel
      have HL := Lib.hid hl
      clear hl
      by_cases hlt : k < r
      · go_wp2_with fail
        refine (next_any q c 3 _ HC5.out (by omega)).mono ?_
        rintro e w6 ⟨x, rfl, hx, _, ho6, hcd6⟩
        have hx := hx (by omega)
        have HO6 := Lib.hid (HO5.out.trans ho6)
        have HC6 := Lib.hid hcd6
        have HW6 := Lib.hid (ownsRow_only HW5.out ho6 HC.out.lt)
        have hs6 := HO6.out.size
        clear ho6 hcd6 HO5 HC5 HW5
        go_wp2_with (at_builtin; refine wpList_append_own _ rfl _ _ 22 rfl w.heap.size 5 i0 (.int .u8 0) 1 1 Try.underlying22 hi hz0 hz1 hz2 rfl (by decide) _ _ _ rfl (HW6.out.alloc _) ⟨w6.heap.size, 0, none⟩ 1 1 [_] rfl rfl (cell_new _ _ _) ?c2 ?c3 ?c4 ?c5 ?_)
        case c2 => intro u hu; simp at hu; subst hu; rfl
        case c3 => unfold maxLen; omega
        case c4 => omega
        case c5 => simp; omega
        intro v' w7 hown hg _
        have hb : (97 + (x : Int)) = ((UInt8.ofNat (97 + x)).toNat : Int) := by
          have : (UInt8.ofNat (97 + x)).toNat = 97 + x := by simp; omega
          omega
        have HW7 : Hid (w7.ownsRow w.heap.size 5 1 v' (k + 1) ((l ++ [UInt8.ofNat (97 + x)]).map fun b => Value.int .u8 (b.toNat : Int))) := by
          rw [hb] at hown; rw [List.map_append]; exact hown
        have HO7 := Lib.hid ((HO6.out.alloc _).grown (HW6.out.alloc _) hg (Nat.le_refl _))
        have HC7 := Lib.hid (HC.out.grown (HC6.out.alloc _) (HW6.out.alloc _) hg (Nat.le_refl _))
        have HL7 : Hid ((l ++ [UInt8.ofNat (97 + x)]).length = k + 1) := by have := HL.out; show _ = _; simp [this]
        clear hown hg hb
        go_wp2_with fail
        go_roundw
        case rel => exact ⟨k + 1, l ++ [UInt8.ofNat (97 + x)], by omega, by go_num, HL7.out, HW7, HO7, HC7⟩
        case measure => simp [intOf]; omega
      · have hcv := conv_bytes wr 22 9 5 w.heap.size u4 l k Try.underlying22 Try.underlying5 Try.underlying9 HL.out HW5.out
        have HF : Hid (DataPost q c w (.returned (.string ⟨l.toArray⟩)) wr) := ⟨_, rfl, by have := HL.out; show l.toArray.size ≤ 13; simp; omega, HO5.out, HC5.out⟩
        clear HW5 HO5 HC5
        go_wp2_with fail
        go_ret
        exact HF.out

/-- What 'Cell' comes to: a valid cell. -/
def CellPost (q : CodeRow) (c : Nat) (w : World) (e : Ending) (w' : World) : Prop :=
  ∃ (b : Bool) (s : ByteArray), e = .returned (.agg #[.bool b, .string s]) ∧ s.size ≤ 12 ∧ (b = false → s = ⟨#[]⟩) ∧ Only c w w' ∧ CodesAt q w' c

set_option maxHeartbeats 1000000 in
theorem cell_any (q : CodeRow) (c : Nat) (w : World) (hcd : CodesAt q w c) :
    Calls Try.prog 24 #[.pointer (some ⟨c, 0, none⟩)] w (CellPost q c w) := by
  have HC := Lib.hid hcd
  have hlt := hcd.lt
  clear hcd
  go_enter Try.func24, Try.ntmps24
  go_wp2_with fail
  refine (next_any q c 3 _ (HC.out.alloc _) (by omega)).mono ?_
  rintro e w1 ⟨r1, rfl, hr1, _, ho1, hcd1⟩
  obtain ⟨hc1, hf1, hs1⟩ := ho1.facts
  have HO1 := Lib.hid (((Only.refl c w).alloc _).trans ho1)
  have HC1 := Lib.hid hcd1
  have hsz : w.heap.size < w1.heap.size := by simp at hs1; omega
  clear ho1 hcd1
  go_wp2_with fail
  · refine bodyPost_ret (v := .agg #[.bool false, .string ⟨#[]⟩]) (by simp [results, Try.results24, go_sem, hc1, hf1, hsz, hlt]) rfl ⟨false, _, rfl, by decide, fun _ => rfl, ?_, ?_⟩
    · exact (HO1.out.setCell (.inr (Nat.le_refl _)) _).setCell (.inr (Nat.le_refl _)) _
    · exact HC.out.setCell (HC.out.setCell HC1.out (Nat.le_refl _) _) (Nat.le_refl _) _
  · refine (data_any q c _ HC1.out).mono ?_
    rintro e w2 ⟨s, rfl, hs, ho2, hcd2⟩
    obtain ⟨hc2, hf2, hs2⟩ := ho2.facts
    have HO2 := Lib.hid (HO1.out.trans ho2)
    have HC2 := Lib.hid hcd2
    have hsz2 : w.heap.size < w2.heap.size := by omega
    clear ho2 hcd2
    go_wp2_with fail
    · refine bodyPost_ret (v := .agg #[.bool true, .string (s.extract 0 12)]) (by simp [results, Try.results24, go_sem, hc2, hf2, hc1, hf1, hsz, hsz2, hlt]) rfl ⟨true, _, rfl, ?_, (fun h => by cases h), ?_, ?_⟩
      · simp; omega
      · exact (HO2.out.setCell (.inr (Nat.le_refl _)) _).setCell (.inr (Nat.le_refl _)) _
      · exact HC.out.setCell (HC.out.setCell HC2.out (Nat.le_refl _) _) (Nat.le_refl _) _
    · have hs12 : (s.size : Int) ≤ 12 := by assumption
      refine bodyPost_ret (v := .agg #[.bool true, .string s]) (by simp [results, Try.results24, go_sem, hc2, hf2, hc1, hf1, hsz, hsz2, hlt]) rfl ⟨true, _, rfl, ?_, (fun h => by cases h), ?_, ?_⟩
      · omega
      · exact (HO2.out.setCell (.inr (Nat.le_refl _)) _).setCell (.inr (Nat.le_refl _)) _
      · exact HC.out.setCell (HC.out.setCell HC2.out (Nat.le_refl _) _) (Nat.le_refl _) _

/-- A cell is valid. -/
def okCell (b : Bool) (s : ByteArray) : Prop := s.size ≤ 12 ∧ (b = false → s = ⟨#[]⟩)

/-- What 'Change' comes to: a valid change of page 0 to 3 and slot 0 to 2. -/
def ChangePost (q : CodeRow) (c : Nat) (w : World) (e : Ending) (w' : World) : Prop :=
  ∃ (p s : Nat) (b : Bool) (x : ByteArray) (d : Bool) (y : ByteArray), e = .returned (.agg #[.int .i64 p, .int .i64 s, .bool b, .string x, .bool d, .string y]) ∧ p < 4 ∧ s < 3 ∧ okCell b x ∧ okCell d y ∧ Only c w w' ∧ CodesAt q w' c

set_option maxHeartbeats 1000000 in
theorem change_any (q : CodeRow) (c : Nat) (w : World) (hcd : CodesAt q w c) :
    Calls Try.prog 11 #[.pointer (some ⟨c, 0, none⟩)] w (ChangePost q c w) := by
  have HC := Lib.hid hcd
  have hlt := hcd.lt
  clear hcd
  go_enter Try.func11, Try.ntmps11
  go_wp2_with fail
  refine (next_any q c 4 _ (HC.out.alloc _) (by omega)).mono ?_
  rintro e w1 ⟨r1, rfl, hr1, _, ho1, hcd1⟩
  obtain ⟨hc1, hf1, hs1⟩ := ho1.facts
  have HO1 := Lib.hid (((Only.refl c w).alloc _).trans ho1)
  have HC1 := Lib.hid hcd1
  have hsz : w.heap.size < w1.heap.size := by simp at hs1; omega
  clear ho1 hcd1 hs1
  go_wp2_with fail
  refine (next_any q c 3 _ HC1.out (by omega)).mono ?_
  rintro e w2 ⟨r2, rfl, hr2, _, ho2, hcd2⟩
  obtain ⟨hc2, hf2, hs2⟩ := ho2.facts
  have HO2 := Lib.hid (HO1.out.trans ho2)
  have HC2 := Lib.hid hcd2
  have hsz2 : w.heap.size < w2.heap.size := by omega
  clear ho2 hcd2 hs2
  go_wp2_with fail
  refine (cell_any q c _ HC2.out).mono ?_
  rintro e w3 ⟨b, x, rfl, hb1, hb2, ho3, hcd3⟩
  obtain ⟨hc3, hf3, hs3⟩ := ho3.facts
  have HO3 := Lib.hid (HO2.out.trans ho3)
  have HC3 := Lib.hid hcd3
  have hsz3 : w.heap.size < w3.heap.size := by omega
  have HB := Lib.hid hb2
  clear ho3 hcd3 hs3 hb2
  go_wp2_with fail
  refine (cell_any q c _ HC3.out).mono ?_
  rintro e w4 ⟨d, y, rfl, hd1, hd2, ho4, hcd4⟩
  obtain ⟨hc4, hf4, hs4⟩ := ho4.facts
  have HO4 := Lib.hid (HO3.out.trans ho4)
  have HC4 := Lib.hid hcd4
  have hsz4 : w.heap.size < w4.heap.size := by omega
  have HD := Lib.hid hd2
  clear ho4 hcd4 hs4 hd2
  go_wp2_with fail
  refine bodyPost_ret (v := .agg #[.int .i64 r1, .int .i64 r2, .bool b, .string x, .bool d, .string y]) (by simp [results, Try.results11, go_sem, hc4, hf4, hc3, hf3, hc2, hf2, hc1, hf1, hsz, hsz2, hsz3, hsz4, hlt]) rfl ⟨r1, r2, b, x, d, y, rfl, by omega, by omega, ⟨hb1, HB.out⟩, ⟨hd1, HD.out⟩, ?_, ?_⟩
  · (repeat (with_reducible refine Only.setCell ?_ (.inr (Nat.le_refl _)) _)); exact HO4.out
  · (repeat (with_reducible refine HC.out.setCell ?_ (Nat.le_refl _) _)); exact HC4.out
end Go.Proofs.Ytlbhoepfcedkdaa
