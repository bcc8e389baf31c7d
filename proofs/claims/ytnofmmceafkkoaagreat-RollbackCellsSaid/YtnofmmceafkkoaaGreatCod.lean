/-
  codec.Put: a number's bytes behind a string.
-/
import Derived.Test.YtnofmmceafkkoaaGreatBld
import Derived.Test.YtnofmmceafkkoaaGreatShelf
import Derived.BigCall
set_option linter.unusedVariables false
set_option linter.unusedSimpArgs false
namespace Go.Proofs.YtnofmmceafkkoaaGreat
open Go.Shelf Go.RowKit
def putB (n : Int) (i : Nat) : UInt8 := UInt8.ofNat (IntKind.u64.wrap n / 2 ^ (8 * i) % 256).toNat
theorem putB_cell (n : Int) (i : Nat) : ((putB n i).toNat : Int) = IntKind.u64.wrap n / 2 ^ (8 * i) % 256 := by
  have h0 : 0 ≤ IntKind.u64.wrap n / 2 ^ (8 * i) % 256 := Int.emod_nonneg _ (by decide)
  have h1 : IntKind.u64.wrap n / 2 ^ (8 * i) % 256 < 256 := Int.emod_lt_of_pos _ (by decide)
  unfold putB
  generalize IntKind.u64.wrap n / 2 ^ (8 * i) % 256 = x at h0 h1
  rw [UInt8.toNat_ofNat']
  omega
def putL (n : Int) : Nat → List UInt8
  | 0 => []
  | k + 1 => putL n k ++ [putB n k]
theorem putL_length (n : Int) : ∀ k, (putL n k).length = k
  | 0 => rfl
  | k + 1 => by simp [putL, putL_length n k]
set_option maxHeartbeats 4000000 in
set_option maxRecDepth 1000000 in
theorem put_walk (s : ByteArray) (n : Int) (k : Nat) (w : World) (hs : s.size ≤ 1048576) (hk1 : 1 ≤ k) (hk8 : k ≤ 8) :
    Calls Tryz.prog 160 #[.string s, .int .i64 n, .int .i64 k] w fun e w' => e = .returned (.string ⟨(s.data.toList ++ putL n k).toArray⟩) ∧ Below w.heap.size w w' := by
  go_enter Tryz.func160, Tryz.ntmps160
  have hlt1 : ¬ ((k : Int) < 1) := by omega
  have hgt8 : ¬ ((8 : Int) < k) := by omega
  go_wp2_with (go_at_call 197; refine (writeString_ok w.heap.size w.heap.size [] s _ (Lib.fresh_isBuilder _ _ w) (by simp; omega) (by simp)).mono ?_)
  rintro e w1 rfl h1 b1
  go_wp2
  go_loopw [19] (fun i wr => ∃ j : Nat, j ≤ k ∧ i = .int .i64 j ∧ Hid (Lib.BuilderAt 241 5 w.heap.size w.heap.size (.pointer (some ⟨w.heap.size, 0, none⟩)) (Lib.byteCells (s.data.toList ++ putL n j)) wr) ∧ Hid (Below w.heap.size w wr)) (fun i _ => k - (intOf i).toNat)
  case atStart =>
    refine ⟨0, by omega, rfl, ?_, ?_⟩
    · have e : Lib.byteCells (s.data.toList ++ putL n 0) = Lib.strCells s := by simp [putL, Lib.byteCells, Lib.strCells]
      rw [e]
      exact h1
    · exact ((Below.refl _ w).alloc (Nat.le_refl _) _).trans b1
  case round =>
    obtain ⟨j, hj, rfl, HB, HW⟩ := hrel
    have hsz : w.heap.size ≤ wr.heap.size := HW.size
    have hlen : (Lib.byteCells (s.data.toList ++ putL n j)).length = s.size + j := by rw [Lib.byteCells_length]; simp [putL_length]
    by_cases hlt : (j : Int) < k
    · go_wp2_with (go_at_call 198; refine (writeByte_ok w.heap.size w.heap.size _ _ _ (Or.inr HB) (by omega) hsz).mono ?_)
      rintro e w2 ⟨rfl, h2, b2⟩
      go_wp2
      go_roundw
      case rel =>
        refine ⟨j + 1, by omega, by go_num, ?_, ?_⟩
        · show Lib.BuilderAt _ _ _ _ _ (Lib.byteCells (s.data.toList ++ (putL n j ++ [putB n j]))) _
          rw [← List.append_assoc, Lib.byteCells_append]
          have e : Lib.byteCells [putB n j] = [Value.int .u8 (IntKind.u64.wrap n / 2 ^ (8 * j) % 256)] := by
            show [Value.int .u8 ((putB n j).toNat : Int)] = _
            rw [putB_cell]
          rw [e]
          exact h2
        · exact Below.trans HW b2
      case measure => simp [intOf]; omega
    · have hjk : j = k := by omega
      subst hjk
      go_wp2_with (go_at_call 199; refine (Tryz.Builder_String_any w.heap.size w.heap.size (s.data.toList ++ putL n j) _ (Or.inr HB) hsz).mono ?_)
      rintro e w2 rfl b2
      go_wp2
      go_ret
      exact ⟨rfl, Below.trans HW b2⟩
end Go.Proofs.YtnofmmceafkkoaaGreat
