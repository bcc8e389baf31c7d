/-
  Contracts of the choices: any number, an action.
-/
import Derived.Test.YtpecbnkhppglkaaGreatDrawD
import Derived.Test.YtpecbnkhppglkaaGreatSx
namespace Go.Proofs.YtpecbnkhppglkaaGreat
open Go.RowKit
def IntPost (q : CodeRow) (c : Nat) (w : World) (e : Ending) (w' : World) : Prop :=
  ∃ n : Int, e = .returned (.int .i64 n) ∧ Only c w w' ∧ CodesAt q w' c
set_option maxHeartbeats 4000000 in
set_option maxRecDepth 1000000 in
theorem int_any (q : CodeRow) (c : Nat) (w : World) (hcd : CodesAt q w c) :
    Calls Tryz.prog 106 #[.pointer (some ⟨c, 0, none⟩)] w (IntPost q c w) := by
  have HC := Lib.hid hcd
  clear hcd
  go_enter Tryz.func106, Tryz.ntmps106
  go_wp2_with fail
  refine (next_any q c 10 _ HC.out (by omega)).mono ?_
  rintro e w1 ⟨r1, rfl, hr1, _, ho1, hcd1⟩
  have hr1 := hr1 (by omega)
  have HO1 := Lib.hid ho1
  have HC1 := Lib.hid hcd1
  clear ho1 hcd1
  by_cases h0 : r1 = 0
  · subst h0
    go_wp2_with fail
    refine (next_any q c 3 _ HC1.out (by omega)).mono ?_
    rintro e w2 ⟨r2, rfl, hr2, _, ho2, hcd2⟩
    have hr2 := hr2 (by omega)
    have HO2 := Lib.hid (HO1.out.trans ho2)
    have HC2 := Lib.hid hcd2
    clear ho2 hcd2
    go_wp2_with fail
    go_ret
    exact ⟨_, rfl, HO2.out, HC2.out⟩
  · by_cases h1 : r1 = 1
    · subst h1
      go_wp2_with fail
      generalize hW : w1.alloc _ = W
      have HCW : CodesAt q W c := by rw [← hW]; exact HC1.out.alloc _
      have HOW : Only c w W := by rw [← hW]; exact HO1.out.alloc _
      have hB : W.heap[w1.heap.size]? = some (.cells #[.int .i64 9223372036854775807, .int .i64 (-9223372036854775808), .int .i64 1099511627776, .int .i64 1099511627777, .int .i64 1073741824, .int .i64 1073741825, .int .i64 64, .int .i64 63, .int .i64 16, .int .i64 15, .int .i64 256, .int .i64 255, .int .i64 4294967296, .int .i64 65536, .int .i64 256, .int .i64 255] 3 (0, 0)) := by rw [← hW]; exact heap_alloc_new w1 _
      have hlt : w1.heap.size < W.heap.size := (Array.getElem?_eq_some_iff.1 hB).1
      have hcl := HC1.out.lt
      clear hW
      refine (next_any q c 16 _ HCW (by omega)).mono ?_
      rintro e w2 ⟨r2, rfl, hr2, _, ho2, hcd2⟩
      have hr2 := hr2 (by omega)
      have hr2' : r2 < 16 := by omega
      have hcell : ∃ n : Int, w2.cell? ⟨w1.heap.size, r2, none⟩ = some (.int .i64 n) := by
        rw [ho2.cell hlt (by omega), cell_of_row W _ r2 _ _ _ hB]
        have : r2 = 0 ∨ r2 = 1 ∨ r2 = 2 ∨ r2 = 3 ∨ r2 = 4 ∨ r2 = 5 ∨ r2 = 6 ∨ r2 = 7 ∨ r2 = 8 ∨ r2 = 9 ∨ r2 = 10 ∨ r2 = 11 ∨ r2 = 12 ∨ r2 = 13 ∨ r2 = 14 ∨ r2 = 15 := by omega
        rcases this with rfl | rfl | rfl | rfl | rfl | rfl | rfl | rfl | rfl | rfl | rfl | rfl | rfl | rfl | rfl | rfl <;> exact ⟨_, rfl⟩
      obtain ⟨n, hn⟩ := hcell
      have HO2 := Lib.hid (HOW.trans ho2)
      have HC2 := Lib.hid hcd2
      clear ho2 hcd2 hB HOW HCW
      go_wp2_with fail
      go_ret
      exact ⟨_, rfl, HO2.out, HC2.out⟩
    · have h0' : ((r1 : Int) == 0) = false := by simpa using h0
      have h1n : (r1 : Int) ≠ 1 := by omega
      have h1' : ((r1 : Int) == 1) = false := by simpa using h1n
      go_wp2_with fail
      refine (next_any q c 20 _ HC1.out (by omega)).mono ?_
      rintro e w2 ⟨r2, rfl, hr2, _, ho2, hcd2⟩
      have HO2 := Lib.hid (HO1.out.trans ho2)
      have HC2 := Lib.hid hcd2
      clear ho2 hcd2
      go_wp2_with fail
      go_ret
      exact ⟨_, rfl, HO2.out, HC2.out⟩
end Go.Proofs.YtpecbnkhppglkaaGreat
