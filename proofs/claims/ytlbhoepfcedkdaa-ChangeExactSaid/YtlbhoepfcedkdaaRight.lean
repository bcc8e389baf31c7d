/-
  'right': whether the cells of a page are valid.
-/
import Derived.Test.YtlbhoepfcedkdaaEqlG
import Derived.Test.YtlbhoepfcedkdaaChg
namespace Go.Proofs.Ytlbhoepfcedkdaa
open Go.RowKit
def rightB (p : Pg) : Bool := p.cells.all fun x => cellOkB x.1 x.2
theorem right_no {p : Pg} {k : Nat} {b : Bool} {s : ByteArray} (h : p.cells[k]? = some (b, s)) (hn : cellOkB b s = false) : rightB p = false := by
  unfold rightB
  rw [List.all_eq_false]
  exact ⟨(b, s), List.mem_of_getElem? h, by simp [hn]⟩
theorem right_yes {p : Pg} (hp : p.cells.length = 16) (h : ∀ j b s, j < 16 → p.cells[j]? = some (b, s) → cellOkB b s = true) : rightB p = true := by
  unfold rightB
  rw [List.all_eq_true]
  intro x hx
  obtain ⟨i, hi⟩ := List.getElem?_of_mem hx
  have hlt := (List.getElem?_eq_some_iff.1 hi).1
  exact h i x.1 x.2 (by omega) hi
set_option maxHeartbeats 2000000 in
set_option maxRecDepth 100000 in
theorem right_any (p : Pg) (w0 : World) (hp : p.cells.length = 16) : Calls Try.prog 32 #[.agg p.arr] w0 fun e w' => e = .returned (.bool (rightB p)) ∧ Ext w0 w' := by
  have HP := Lib.hid hp
  clear hp
  have HS : Hid (St none default w0 w0 []) := St.start w0
  go_enter Try.func32, Try.ntmps32
  go_wp2_with (first | (refine sx_box HS rfl _ _ rfl p.lst rfl ?_; clear HS; intro w b1 HS) | (refine sx_loads HS rfl 25 _ rfl 0 _ _ _ rfl 2 rfl 32 sh25 (cellVals p.cells) (by rw [cellVals_length, HP.out]) (cells_at p) ?_))
  go_loopw [7] (fun i wr => ∃ k : Nat, k ≤ 16 ∧ i = .int .i64 k ∧ Hid (∀ j b s, j < k → p.cells[j]? = some (b, s) → cellOkB b s = true) ∧ Hid (St none default w0 wr [(b1, 27, p.lst)])) (fun i _ => 16 - (intOf i).toNat)
  case atStart => exact ⟨0, Nat.zero_le _, rfl, fun j _ _ h => absurd h (Nat.not_lt_zero _), HS⟩
  case round =>
    obtain ⟨k, hk, rfl, HA, HS2⟩ := hrel
    clear HS
    have HS := HS2
    clear HS2
    by_cases hlt : k < 16
    · obtain ⟨⟨b, s⟩, hx⟩ := list_get_of_lt p.cells k 16 HP.out hlt
      have HX := Lib.hid hx
      clear hx
      go_wp2_with (first | (refine sx_run rfl (.agg #[.bool b, .string s]) (run_index_cell rfl rfl rfl hlt HX.out) ?_) | (first | (refine is_load rfl ?_; first | (refine sx_load HS rfl _ _ rfl 0 _ _ _ rfl _ rfl _ (by first | with_reducible exact sh3 | with_reducible exact sh4 | with_reducible exact sh9) _ rfl ?_) | (refine sx_loads HS rfl 24 _ rfl 0 _ _ _ rfl _ rfl 2 sh24 [_, _] rfl ⟨rfl, rfl, trivial⟩ ?_)) | (refine is_store rfl ?_; first | (refine sx_store HS rfl _ _ _ rfl rfl 0 _ _ _ rfl _ rfl (by first | with_reducible exact sh3 | with_reducible exact sh4 | with_reducible exact sh9) _ rfl rfl rfl ?_; clear HS; intro w HS) | (refine sx_stores HS rfl 24 _ _ rfl rfl 0 _ _ _ rfl _ rfl 2 sh24 [_, _] rfl rfl rfl rfl ?_; clear HS; intro w HS)) | (refine sx_box HS rfl _ _ rfl _ rfl ?_; clear HS; intro w bk HS) | (refine is_alloc rfl ?_; first | (refine sx_alloc HS rfl 24 rfl _ zr24 ?_; clear HS; intro w bk HS))))
      refine (ch_validCell b s _).mono ?_
      rintro e w ⟨rfl, hx⟩
      replace HS := Lib.hid (HS.out.ext hx)
      clear hx
      cases hv : cellOkB b s with
      | false =>
        go_wp2_with fail
        go_ret
        exact ⟨by rw [right_no HX.out hv]; rfl, HS.out.isExt⟩
      | true =>
        have HA2 : Hid (∀ j b s, j < k + 1 → p.cells[j]? = some (b, s) → cellOkB b s = true) := fun j b' s' hj hjs => by
          by_cases e : j = k
          · subst e
            have := HX.out.symm.trans hjs
            cases this
            exact hv
          · exact HA.out j b' s' (by omega) hjs
        clear hv
        go_wp2_with fail
        replace HS : Hid (St none default w0 w [(b1, 27, p.lst)]) := Lib.hid (HS.out.drop 1)
        go_roundw
        case rel => exact ⟨k + 1, by omega, by go_num, HA2, HS⟩
        case measure => simp [intOf]; omega
    · have hk16 : k = 16 := by omega
      subst hk16
      go_wp2_with fail
      go_ret
      exact ⟨by rw [right_yes HP.out HA.out]; rfl, HS.out.isExt⟩
end Go.Proofs.Ytlbhoepfcedkdaa
