/-
  Contracts of the choices, third part: pages.
-/
import Derived.Test.YtlbhoepfcedkdaaDrawB
import Derived.Test.YtlbhoepfcedkdaaPage
import Derived.Test.YtlbhoepfcedkdaaChg
namespace Go.Proofs.Ytlbhoepfcedkdaa
open Go.RowKit

/-- What 'Page' comes to: a valid page. -/
def PagePost (q : CodeRow) (c : Nat) (id : Int) (w : World) (e : Ending) (w' : World) : Prop :=
  ∃ (lsn : Int) (l : List (Bool × ByteArray)), e = .returned (.agg (pgArr id lsn l)) ∧ 0 ≤ lsn ∧ lsn ≤ 1099511627776 ∧ l.length = 16 ∧ okCells l ∧ Only c w w' ∧ CodesAt q w' c

set_option maxHeartbeats 2000000 in
set_option maxRecDepth 100000 in
theorem page_any (q : CodeRow) (c : Nat) (id : Int) (w : World) (hcd : CodesAt q w c) :
    Calls Try.prog 9 #[.pointer (some ⟨c, 0, none⟩), .int .i64 id] w (PagePost q c id w) := by
  have HC := Lib.hid hcd
  have hlt := hcd.lt
  clear hcd
  go_enter Try.func9, Try.ntmps9
  go_wp2_with (refine wl_alloc rfl 27 rfl _ (pgArr 0 0 blankCells) zero_page rfl ?_)
  intro w0 b0 N0
  have hb0 : w.heap.size ≤ b0 := by have := N0.at_; omega
  have HB0 := Lib.hid N0.box
  have HC0 := Lib.hid (HC.out.ext N0.ext)
  have HO0 := Lib.hid (Only.of_ext (c := c) N0.ext)
  clear N0
  go_wp2_with fail
  refine (next_any q c 50 _ HC0.out (by omega)).mono ?_
  rintro e w1 ⟨r1, rfl, hr1, _, ho1, hcd1⟩
  have hr1 := hr1 (by omega)
  have HB1 := Lib.hid (HB0.out.only ho1 (by omega))
  have HO1 := Lib.hid (HO0.out.trans ho1)
  have HC1 := Lib.hid hcd1
  clear ho1 hcd1 HB0 HO0 HC0
  go_wp2_with (first | (refine wpList_buildTo rfl 27 _ rfl (some 10) rfl (pgArr id r1 blankCells) (built_page id r1) ?_) | (refine wl_alloc rfl 27 rfl _ (pgArr 0 0 blankCells) zero_page rfl ?_))
  intro w2 b2 N2
  have hb2 : w1.heap.size = b2 := N2.at_.symm
  have hb02 : b0 < b2 := by have := HB1.out.lt; omega
  clear hb2
  have HB2 := Lib.hid (HB1.out.ext N2.ext)
  have HO2 := Lib.hid (HO1.out.trans (Only.of_ext N2.ext))
  have HC2 := Lib.hid (HC1.out.ext N2.ext)
  have HD2 := Lib.hid N2.box
  clear N2 HB1 HO1 HC1
  go_wp2_with (refine wl_store rfl 27 _ _ rfl rfl b2 (pgArr id r1 blankCells) rfl rfl 27 _ HD2.out (size_pg _ _ _ rfl) (by rw [pgArr_size, pgArr_size]) (pgArr_one _ _ _) ?_)
  intro w3 hx3 hk3 hs3
  have HB3 := Lib.hid (HB2.out.only hk3 (by omega))
  have HO3 := Lib.hid (HO2.out.past hk3 (by omega))
  have HC3 := Lib.hid (HC.out.past HC2.out hk3 (by omega))
  have HD3 := Lib.hid hx3
  clear hx3 hk3 hs3 HB2 HO2 HC2 HD2
  go_wp2_with fail
  refine (next_any q c 10 _ HC3.out (by omega)).mono ?_
  rintro e w4 ⟨r4, rfl, hr4, _, ho4, hcd4⟩
  have HB4 := Lib.hid (HB3.out.only ho4 (by omega))
  have HD4 := Lib.hid (HD3.out.only ho4 (by omega))
  have HO4 := Lib.hid (HO3.out.trans ho4)
  have HC4 := Lib.hid hcd4
  clear ho4 hcd4 HB3 HO3 HC3 HD3
  go_upto_if 13 with (fail)
  go_cut [11] (fun _ wx => ∃ lsn : Int, 0 ≤ lsn ∧ lsn ≤ 1099511627776 ∧ Hid (Box wx b0 27 (pgArr 0 0 blankCells)) ∧ Hid (Box wx b2 27 (pgArr id lsn blankCells)) ∧ Hid (Only c w wx) ∧ Hid (CodesAt q wx c))
  case first =>
    go_wp2_with fail
    · refine (next_any q c 2 _ HC4.out (by omega)).mono ?_
      rintro e w5 ⟨r5, rfl, hr5, _, ho5, hcd5⟩
      have hr5 := hr5 (by omega)
      have HB5 := Lib.hid (HB4.out.only ho5 (by omega))
      have HD5 := Lib.hid (HD4.out.only ho5 (by omega))
      have HO5 := Lib.hid (HO4.out.trans ho5)
      have HC5 := Lib.hid hcd5
      clear ho5 hcd5
      have hcell := (HD5.out.cell 1).trans (pgArr_get1 _ _ _)
      have hfree := HD5.out.free 1
      go_wp2_with fail
      go_meet
      have hk := Only.self_setCell b2 1 w5 (.int .i64 (1099511627776 - r5))
      exact ⟨1099511627776 - r5, by omega, by omega, HB5.out.only hk (by omega), by have := HD5.out.setCell 1 (.int .i64 (1099511627776 - r5)); rw [pgArr_set1] at this; exact this, HO5.out.past hk (by omega), HC.out.past HC5.out hk (by omega)⟩
    · go_meet
      exact ⟨r1, by omega, by omega, HB4, HD4, HO4, HC4⟩
  case rest =>
    obtain ⟨lsn, hl0, hl1, HB5, HD5, HO5, HC5⟩ := hcut
    clear HB4 HD4 HO4 HC4
    have hcell := (HD5.out.cell 1).trans (pgArr_get1 _ _ _)
    go_upto_if 20 with (fail)
    go_cut [6] (fun _ wx => ∃ l : List (Bool × ByteArray), l.length = 16 ∧ okCells l ∧ Hid (Box wx b0 27 (pgArr 0 0 blankCells)) ∧ Hid (Box wx b2 27 (pgArr id lsn l)) ∧ Hid (Only c w wx) ∧ Hid (CodesAt q wx c))
    case first =>
      go_wp2_with fail
      · refine (next_any q c 6 _ HC5.out (by omega)).mono ?_
        rintro e w6 ⟨r6, rfl, hr6, _, ho6, hcd6⟩
        have HB6 := Lib.hid (HB5.out.only ho6 (by omega))
        have HD6 := Lib.hid (HD5.out.only ho6 (by omega))
        have HO6 := Lib.hid (HO5.out.trans ho6)
        have HC6 := Lib.hid hcd6
        have hr6 := hr6 (by omega)
        clear ho6 hcd6 HB5 HD5 HO5 HC5 hcell
        go_wp2_with fail
        go_loopw [6] (fun i wr => ∃ (k : Nat) (l : List (Bool × ByteArray)), k ≤ 6 ∧ i = .int .i64 k ∧ l.length = 16 ∧ okCells l ∧ Hid (Box wr b0 27 (pgArr 0 0 blankCells)) ∧ Hid (Box wr b2 27 (pgArr id lsn l)) ∧ Hid (Only c w wr) ∧ Hid (CodesAt q wr c)) (fun i _ => (intOf i).toNat)
        case atStart => exact ⟨r6, blankCells, by omega, rfl, rfl, blankCells_ok, HB6, HD6, HO6, HC6⟩
        case round =>
          obtain ⟨k, l, hk, rfl, hl, hok, HB7, HD7, HO7, HC7⟩ := hrel
          have HOK := Lib.hid hok
          have HL := Lib.hid hl
          clear hok hl HB6 HD6 HO6 HC6
          by_cases hk0 : 0 < k
          · go_wp2_with fail
            refine (next_any q c 16 _ HC7.out (by omega)).mono ?_
            rintro e w8 ⟨r8, rfl, hr8, _, ho8, hcd8⟩
            have HB8 := Lib.hid (HB7.out.only ho8 (by omega))
            have HD8 := Lib.hid (HD7.out.only ho8 (by omega))
            have HO8 := Lib.hid (HO7.out.trans ho8)
            have HC8 := Lib.hid hcd8
            have hr8 := hr8 (by omega)
            clear ho8 hcd8 HB7 HD7 HO7 HC7
            go_wp2_with fail
            refine (cell_any q c _ HC8.out).mono ?_
            rintro e w9 ⟨b, s, rfl, hb1, hb3, ho9, hcd9⟩
            have HB9 := Lib.hid (HB8.out.only ho9 (by omega))
            have HD9 := Lib.hid (HD8.out.only ho9 (by omega))
            have HO9 := Lib.hid (HO8.out.trans ho9)
            have HC9 := Lib.hid hcd9
            have HOK9 := Lib.hid (okCells_set HOK.out r8 b s hb1 hb3)
            clear ho9 hcd9 HB8 HD8 HO8 HC8 hb3
            obtain ⟨⟨b', s'⟩, hx⟩ := list_get_of_lt l r8 16 HL.out (by omega)
            obtain ⟨h2, h3⟩ := pgArr_get id lsn l r8 b' s' hx
            have hc2 := (HD9.out.cell _).trans h2
            have hc3 := (HD9.out.cell _).trans h3
            have hf2 := HD9.out.free (2 + r8 * 2)
            have hf3 := HD9.out.free (2 + r8 * 2 + 1)
            clear h2 h3 hx
            have hk1 := Only.self_setCell b2 (2 + r8 * 2) w9 (.bool b)
            have hk2 := Only.self_setCell b2 (2 + r8 * 2 + 1) (w9.setCell ⟨b2, 2 + r8 * 2, none⟩ (.bool b)) (.string s)
            have hk3 := hk1.trans hk2
            have HBa := Lib.hid (HB9.out.only hk3 (by omega))
            have HDa := HD9.out.set2 (2 + r8 * 2) (2 + r8 * 2 + 1) (.bool b) (.string s)
            rw [pgArr_set] at HDa
            have HDb := Lib.hid HDa
            have HOa := Lib.hid (HO9.out.past hk3 (by omega))
            have HCa := Lib.hid (HC.out.past HC9.out hk3 (by omega))
            clear hk1 hk2 hk3 HDa
            have HLa : Hid ((l.set r8 (b, s)).length = 16) := by have := HL.out; show _ = _; simp [this]
            go_wp2_with fail
            refine ⟨⟨k - 1, l.set r8 (b, s), by omega, ?_, HLa.out, HOK9.out, HBa, HDb, HOa, HCa⟩, ?_⟩
            · rw [show ((k : Int) - 1) = ((k - 1 : Nat) : Int) by omega]
            · simp [intOf]; omega
          · go_wp2_with fail
            go_meet
            exact ⟨l, HL.out, HOK.out, HB7, HD7, HO7, HC7⟩
      · go_meet
        exact ⟨blankCells, rfl, blankCells_ok, HB5, HD5, HO5, HC5⟩
    case rest =>
      obtain ⟨l, hl, hok, HB6, HD6, HO6, HC6⟩ := hcut
      clear HB5 HD5 HO5 HC5 hcell
      have HL := Lib.hid hl
      have HOK := Lib.hid hok
      clear hl hok
      go_wp2_with (first | (refine wl_load rfl 27 _ rfl b2 rfl 27 (pgArr id lsn l) _ HD6.out Try.underlying27 rfl (size_pg _ _ _ HL.out) ?_) | (refine wl_store rfl 27 _ _ rfl rfl b0 (pgArr id lsn l) rfl rfl 27 _ HB6.out (size_pg _ _ _ HL.out) (by rw [pgArr_size, pgArr_size, HL.out]; rfl) (pgArr_one _ _ _) ?_))
      intro w7 hx7 hk7 hs7
      have HB7 := Lib.hid hx7
      have HO7 := Lib.hid (HO6.out.past hk7 (by omega))
      have HC7 := Lib.hid (HC.out.past HC6.out hk7 (by omega))
      clear hx7 hk7 hs7
      go_wp2_with fail
      exact bodyPost_ret (v := .agg (pgArr id lsn l)) (results_cell_row Try.results9 _ w7 b0 27 _ _ _ rfl HB7.out Try.underlying27 rfl (size_pg _ _ _ HL.out)) rfl ⟨lsn, l, rfl, hl0, hl1, HL.out, HOK.out, HO7.out, HC7.out⟩
end Go.Proofs.Ytlbhoepfcedkdaa
