/-
  Rows of changes in memory, and what 'joined' makes of one.
-/
import Derived.Test.YtlbhoepfcedkdaaChgB
import Derived.Test.YtlbhoepfcedkdaaChgC
namespace Go.Proofs.Ytlbhoepfcedkdaa
open Go.RowKit
def Chg.lst (c : Chg) : List Value := [.int .i64 c.page, .int .i64 c.slot, .bool c.bb, .string c.bd, .bool c.ab, .string c.ad]
/-- From there on lie these changes, one behind the other. -/
def RowAt (w : World) (g off : Nat) (xs : List Chg) : Prop := ∀ i c, xs[i]? = some c → ∀ j v, c.lst[j]? = some v → w.cell? ⟨g, off + i * 6 + j, none⟩ = some v
theorem RowAt.ext {w w' : World} {g off : Nat} {xs : List Chg} (h : RowAt w g off xs) (k : Ext w w') : RowAt w' g off xs := fun i c hi j v hj => by
  have hc := h i c hi j v hj
  exact (Below.cell (p := ⟨g, off + i * 6 + j, none⟩) k (block_lt_of_cell (a := ⟨g, off + i * 6 + j, none⟩) hc)).trans hc
section
variable {P : Program} {q : CodeRow} {w0 w : World} {l : List (Nat × TypeId × List Value)} {ops : Array Oper} {rest : List Oper} {o : Oper} {a : Act} {Q : Exit → Act → World → Prop}
/-- A change of a row in old memory is read. -/
theorem sx_load_row {g off : Nat} {xs : List Chg} (hr : RowAt w g off xs) (hw : Region.wanted o (yielded ops a.tmps) = true) (ty : TypeId) (x : Operand) (ho : o.op = .load ty x) (hs : shapeOf P ty = some (true, 6))
    (i at_ : Nat) (hx : a.eval x = .pointer (some ⟨g, at_, none⟩)) (hat : at_ = off + i * 6) (c : Chg) (hc : xs[i]? = some c)
    (h : wpList P ops Q rest (a.put o.dst (.agg #[.int .i64 c.page, .int .i64 c.slot, .bool c.bb, .string c.bd, .bool c.ab, .string c.ad])) w) : wpList P ops Q (o :: rest) a w :=
  wpList_wanted hw fun _ hK => by
    subst hat
    have hl := run_loadCells_list (P := P) w ⟨g, off + i * 6, none⟩ c.lst (fun j v hj => by rw [addr_add]; exact hr i c hc j v hj)
    have hrun : (loadVar ty ⟨g, off + i * 6, none⟩).run P w = .ok (.agg c.lst.toArray) w := by
      have hn : c.lst.length = 6 := rfl
      rw [hn] at hl
      unfold loadVar
      rw [Sem.run_bind, (shape_agg hs w).1, Result.andThen_ok, if_pos rfl, Sem.run_bind, (shape_agg hs w).2, Result.andThen_ok, Sem.run_bind, hl]
      rfl
    unfold Oper.wp execOp
    simp only [ho, hx, Instr.loadAt, Instr.sureAddr, Sem.run_bind, Sem.run_pure, Result.andThen_ok, hrun]
    exact hK _ _ h
end

set_option maxHeartbeats 2000000 in
set_option maxRecDepth 100000 in
theorem joined_any (w0 : World) (g off n cap : Nat) (xs : List Chg) (out : Nat → Chg) (hr : RowAt w0 g off xs) (hn : xs.length = n) (hn0 : 1 ≤ n) (hcap : n ≤ cap) (hmax : cap ≤ maxLen) (h0 : xs[0]? = some (out 0)) (hj : ∀ k x, xs[k + 1]? = some x → joinF (out k) x = (out (k + 1), 0)) :
    Calls Try.prog 25 #[.slice (some ⟨g, off, none⟩) n cap] w0 fun e w' => e = .returned (.tuple #[.agg (out (n - 1)).arr, .bool true]) ∧ Ext w0 w' := by
  have HR := Lib.hid hr
  have HN := Lib.hid hn
  have H0 := Lib.hid h0
  have HJ := Lib.hid hj
  have HM := Lib.hid hmax
  have hn63 : n ≤ 9223372036854775807 := by unfold maxLen at hmax; omega
  clear hr hn h0 hj hmax
  have HS : Hid (St none default w0 w0 []) := St.start w0
  go_enter Try.func25, Try.ntmps25
  go_wp2_with (refine sx_alloc HS rfl 29 rfl _ zr29 ?_)
  clear HS; intro w b2 HS
  go_wp2_with (first | (refine sx_load_row (HR.out.ext HS.out.isExt) rfl 29 _ rfl sh29 0 _ rfl (by simp) _ H0.out ?_) | (first | (refine is_load rfl ?_; first | (refine sx_load HS rfl _ _ rfl 0 _ _ _ rfl _ rfl _ (by first | with_reducible exact sh3 | with_reducible exact sh4 | with_reducible exact sh9 | with_reducible exact sh39) _ rfl ?_) | (refine sx_loads HS rfl 29 _ rfl 0 _ _ _ rfl _ rfl 6 sh29 [_, _, _, _, _, _] rfl ⟨rfl, rfl, rfl, rfl, rfl, rfl, trivial⟩ ?_) | (refine sx_load HS rfl _ _ rfl 1 _ _ _ rfl _ rfl _ (by first | with_reducible exact sh3 | with_reducible exact sh4 | with_reducible exact sh9 | with_reducible exact sh39) _ rfl ?_) | (refine sx_loads HS rfl 29 _ rfl 1 _ _ _ rfl _ rfl 6 sh29 [_, _, _, _, _, _] rfl ⟨rfl, rfl, rfl, rfl, rfl, rfl, trivial⟩ ?_)) | (refine is_store rfl ?_; first | (refine sx_store HS rfl _ _ _ rfl rfl 0 _ _ _ rfl _ rfl (by first | with_reducible exact sh3 | with_reducible exact sh4 | with_reducible exact sh9 | with_reducible exact sh39) _ rfl rfl rfl ?_; clear HS; intro w HS) | (refine sx_stores HS rfl 29 _ _ rfl rfl 0 _ _ _ rfl _ rfl 6 sh29 [_, _, _, _, _, _] rfl rfl rfl rfl ?_; clear HS; intro w HS) | (refine sx_store HS rfl _ _ _ rfl rfl 1 _ _ _ rfl _ rfl (by first | with_reducible exact sh3 | with_reducible exact sh4 | with_reducible exact sh9 | with_reducible exact sh39) _ rfl rfl rfl ?_; clear HS; intro w HS) | (refine sx_stores HS rfl 29 _ _ rfl rfl 1 _ _ _ rfl _ rfl 6 sh29 [_, _, _, _, _, _] rfl rfl rfl rfl ?_; clear HS; intro w HS)) | (refine sx_box HS rfl _ _ rfl _ rfl ?_; clear HS; intro w bk HS) | (refine is_alloc rfl ?_; first | (refine sx_alloc HS rfl 29 rfl _ zr29 ?_; clear HS; intro w bk HS))))
  all_goals
    obtain ⟨b4, hb4⟩ : ∃ b4, b4 = bk := ⟨_, rfl⟩
    subst hb4
    replace HS : Hid (St none default w0 w [(b4, 29, (out 0).lst), (b2, 29, Chg.zero.lst)]) := HS
    go_loopw [15] (fun i wr => ∃ k : Nat, k ≤ n - 1 ∧ i = .int .i64 k ∧ Hid (St none default w0 wr [(b4, 29, (out k).lst), (b2, 29, Chg.zero.lst)])) (fun i _ => n - (intOf i).toNat)
    case atStart => exact ⟨0, Nat.zero_le _, rfl, HS⟩
    case round =>
      obtain ⟨k, hk, rfl, HS2⟩ := hrel
      clear HS
      have HS := HS2
      clear HS2
      by_cases hlt : k < n - 1
      · first
        | (exfalso; omega)
        | (
          obtain ⟨x, hx⟩ : ∃ x, xs[k + 1]? = some x := ⟨xs[k + 1]'(by have := HN.out; omega), List.getElem?_eq_getElem _⟩
          have HX := Lib.hid hx
          have hjk := HJ.out k x hx
          clear hx
          have C : Hid (∀ w, Calls Try.prog 13 #[.agg #[.int .i64 (out k).page, .int .i64 (out k).slot, .bool (out k).bb, .string (out k).bd, .bool (out k).ab, .string (out k).ad], .agg #[.int .i64 x.page, .int .i64 x.slot, .bool x.bb, .string x.bd, .bool x.ab, .string x.ad]] w fun e w' => e = .returned (.tuple #[.agg #[.int .i64 (out (k + 1)).page, .int .i64 (out (k + 1)).slot, .bool (out (k + 1)).bb, .string (out (k + 1)).bd, .bool (out (k + 1)).ab, .string (out (k + 1)).ad], .int .i64 0]) ∧ Ext w w') := fun w => by have h := ch_join (out k) x w; rw [hjk] at h; exact h
          clear hjk
          go_wp2_with (first | (refine sx_load_row (HR.out.ext HS.out.isExt) rfl 29 _ rfl sh29 (k + 1) _ rfl (by omega) _ HX.out ?_) | (first | (refine is_load rfl ?_; first | (refine sx_load HS rfl _ _ rfl 0 _ _ _ rfl _ rfl _ (by first | with_reducible exact sh3 | with_reducible exact sh4 | with_reducible exact sh9 | with_reducible exact sh39) _ rfl ?_) | (refine sx_loads HS rfl 29 _ rfl 0 _ _ _ rfl _ rfl 6 sh29 [_, _, _, _, _, _] rfl ⟨rfl, rfl, rfl, rfl, rfl, rfl, trivial⟩ ?_) | (refine sx_load HS rfl _ _ rfl 1 _ _ _ rfl _ rfl _ (by first | with_reducible exact sh3 | with_reducible exact sh4 | with_reducible exact sh9 | with_reducible exact sh39) _ rfl ?_) | (refine sx_loads HS rfl 29 _ rfl 1 _ _ _ rfl _ rfl 6 sh29 [_, _, _, _, _, _] rfl ⟨rfl, rfl, rfl, rfl, rfl, rfl, trivial⟩ ?_) | (refine sx_load HS rfl _ _ rfl 2 _ _ _ rfl _ rfl _ (by first | with_reducible exact sh3 | with_reducible exact sh4 | with_reducible exact sh9 | with_reducible exact sh39) _ rfl ?_) | (refine sx_loads HS rfl 29 _ rfl 2 _ _ _ rfl _ rfl 6 sh29 [_, _, _, _, _, _] rfl ⟨rfl, rfl, rfl, rfl, rfl, rfl, trivial⟩ ?_) | (refine sx_load HS rfl _ _ rfl 3 _ _ _ rfl _ rfl _ (by first | with_reducible exact sh3 | with_reducible exact sh4 | with_reducible exact sh9 | with_reducible exact sh39) _ rfl ?_) | (refine sx_loads HS rfl 29 _ rfl 3 _ _ _ rfl _ rfl 6 sh29 [_, _, _, _, _, _] rfl ⟨rfl, rfl, rfl, rfl, rfl, rfl, trivial⟩ ?_)) | (refine is_store rfl ?_; first | (refine sx_store HS rfl _ _ _ rfl rfl 0 _ _ _ rfl _ rfl (by first | with_reducible exact sh3 | with_reducible exact sh4 | with_reducible exact sh9 | with_reducible exact sh39) _ rfl rfl rfl ?_; clear HS; intro w HS) | (refine sx_stores HS rfl 29 _ _ rfl rfl 0 _ _ _ rfl _ rfl 6 sh29 [_, _, _, _, _, _] rfl rfl rfl rfl ?_; clear HS; intro w HS) | (refine sx_store HS rfl _ _ _ rfl rfl 1 _ _ _ rfl _ rfl (by first | with_reducible exact sh3 | with_reducible exact sh4 | with_reducible exact sh9 | with_reducible exact sh39) _ rfl rfl rfl ?_; clear HS; intro w HS) | (refine sx_stores HS rfl 29 _ _ rfl rfl 1 _ _ _ rfl _ rfl 6 sh29 [_, _, _, _, _, _] rfl rfl rfl rfl ?_; clear HS; intro w HS) | (refine sx_store HS rfl _ _ _ rfl rfl 2 _ _ _ rfl _ rfl (by first | with_reducible exact sh3 | with_reducible exact sh4 | with_reducible exact sh9 | with_reducible exact sh39) _ rfl rfl rfl ?_; clear HS; intro w HS) | (refine sx_stores HS rfl 29 _ _ rfl rfl 2 _ _ _ rfl _ rfl 6 sh29 [_, _, _, _, _, _] rfl rfl rfl rfl ?_; clear HS; intro w HS) | (refine sx_store HS rfl _ _ _ rfl rfl 3 _ _ _ rfl _ rfl (by first | with_reducible exact sh3 | with_reducible exact sh4 | with_reducible exact sh9 | with_reducible exact sh39) _ rfl rfl rfl ?_; clear HS; intro w HS) | (refine sx_stores HS rfl 29 _ _ rfl rfl 3 _ _ _ rfl _ rfl 6 sh29 [_, _, _, _, _, _] rfl rfl rfl rfl ?_; clear HS; intro w HS)) | (refine sx_box HS rfl _ _ rfl _ rfl ?_; clear HS; intro w bk HS) | (refine is_alloc rfl ?_; first | (refine sx_alloc HS rfl 29 rfl _ zr29 ?_; clear HS; intro w bk HS))))
          refine (C.out _).mono ?_
          rintro e w ⟨rfl, hx⟩
          replace HS := Lib.hid (HS.out.ext hx)
          clear hx
          go_wp2_with (first | (first | (refine is_load rfl ?_; first | (refine sx_load HS rfl _ _ rfl 0 _ _ _ rfl _ rfl _ (by first | with_reducible exact sh3 | with_reducible exact sh4 | with_reducible exact sh9 | with_reducible exact sh39) _ rfl ?_) | (refine sx_loads HS rfl 29 _ rfl 0 _ _ _ rfl _ rfl 6 sh29 [_, _, _, _, _, _] rfl ⟨rfl, rfl, rfl, rfl, rfl, rfl, trivial⟩ ?_) | (refine sx_load HS rfl _ _ rfl 1 _ _ _ rfl _ rfl _ (by first | with_reducible exact sh3 | with_reducible exact sh4 | with_reducible exact sh9 | with_reducible exact sh39) _ rfl ?_) | (refine sx_loads HS rfl 29 _ rfl 1 _ _ _ rfl _ rfl 6 sh29 [_, _, _, _, _, _] rfl ⟨rfl, rfl, rfl, rfl, rfl, rfl, trivial⟩ ?_) | (refine sx_load HS rfl _ _ rfl 2 _ _ _ rfl _ rfl _ (by first | with_reducible exact sh3 | with_reducible exact sh4 | with_reducible exact sh9 | with_reducible exact sh39) _ rfl ?_) | (refine sx_loads HS rfl 29 _ rfl 2 _ _ _ rfl _ rfl 6 sh29 [_, _, _, _, _, _] rfl ⟨rfl, rfl, rfl, rfl, rfl, rfl, trivial⟩ ?_) | (refine sx_load HS rfl _ _ rfl 3 _ _ _ rfl _ rfl _ (by first | with_reducible exact sh3 | with_reducible exact sh4 | with_reducible exact sh9 | with_reducible exact sh39) _ rfl ?_) | (refine sx_loads HS rfl 29 _ rfl 3 _ _ _ rfl _ rfl 6 sh29 [_, _, _, _, _, _] rfl ⟨rfl, rfl, rfl, rfl, rfl, rfl, trivial⟩ ?_)) | (refine is_store rfl ?_; first | (refine sx_store HS rfl _ _ _ rfl rfl 0 _ _ _ rfl _ rfl (by first | with_reducible exact sh3 | with_reducible exact sh4 | with_reducible exact sh9 | with_reducible exact sh39) _ rfl rfl rfl ?_; clear HS; intro w HS) | (refine sx_stores HS rfl 29 _ _ rfl rfl 0 _ _ _ rfl _ rfl 6 sh29 [_, _, _, _, _, _] rfl rfl rfl rfl ?_; clear HS; intro w HS) | (refine sx_store HS rfl _ _ _ rfl rfl 1 _ _ _ rfl _ rfl (by first | with_reducible exact sh3 | with_reducible exact sh4 | with_reducible exact sh9 | with_reducible exact sh39) _ rfl rfl rfl ?_; clear HS; intro w HS) | (refine sx_stores HS rfl 29 _ _ rfl rfl 1 _ _ _ rfl _ rfl 6 sh29 [_, _, _, _, _, _] rfl rfl rfl rfl ?_; clear HS; intro w HS) | (refine sx_store HS rfl _ _ _ rfl rfl 2 _ _ _ rfl _ rfl (by first | with_reducible exact sh3 | with_reducible exact sh4 | with_reducible exact sh9 | with_reducible exact sh39) _ rfl rfl rfl ?_; clear HS; intro w HS) | (refine sx_stores HS rfl 29 _ _ rfl rfl 2 _ _ _ rfl _ rfl 6 sh29 [_, _, _, _, _, _] rfl rfl rfl rfl ?_; clear HS; intro w HS) | (refine sx_store HS rfl _ _ _ rfl rfl 3 _ _ _ rfl _ rfl (by first | with_reducible exact sh3 | with_reducible exact sh4 | with_reducible exact sh9 | with_reducible exact sh39) _ rfl rfl rfl ?_; clear HS; intro w HS) | (refine sx_stores HS rfl 29 _ _ rfl rfl 3 _ _ _ rfl _ rfl 6 sh29 [_, _, _, _, _, _] rfl rfl rfl rfl ?_; clear HS; intro w HS)) | (refine sx_box HS rfl _ _ rfl _ rfl ?_; clear HS; intro w bk HS) | (refine is_alloc rfl ?_; first | (refine sx_alloc HS rfl 29 rfl _ zr29 ?_; clear HS; intro w bk HS))))
          replace HS : Hid (St none default w0 w [(b4, 29, (out (k + 1)).lst), (b2, 29, Chg.zero.lst)]) := Lib.hid (HS.out.drop 2)
          go_roundw
          case rel => exact ⟨k + 1, by omega, by go_num, HS⟩
          case measure => simp [intOf]; omega)
      · have hkn : k = n - 1 := by omega
        subst hkn
        go_wp2_with (first | (first | (refine is_load rfl ?_; first | (refine sx_load HS rfl _ _ rfl 0 _ _ _ rfl _ rfl _ (by first | with_reducible exact sh3 | with_reducible exact sh4 | with_reducible exact sh9 | with_reducible exact sh39) _ rfl ?_) | (refine sx_loads HS rfl 29 _ rfl 0 _ _ _ rfl _ rfl 6 sh29 [_, _, _, _, _, _] rfl ⟨rfl, rfl, rfl, rfl, rfl, rfl, trivial⟩ ?_) | (refine sx_load HS rfl _ _ rfl 1 _ _ _ rfl _ rfl _ (by first | with_reducible exact sh3 | with_reducible exact sh4 | with_reducible exact sh9 | with_reducible exact sh39) _ rfl ?_) | (refine sx_loads HS rfl 29 _ rfl 1 _ _ _ rfl _ rfl 6 sh29 [_, _, _, _, _, _] rfl ⟨rfl, rfl, rfl, rfl, rfl, rfl, trivial⟩ ?_)) | (refine is_store rfl ?_; first | (refine sx_store HS rfl _ _ _ rfl rfl 0 _ _ _ rfl _ rfl (by first | with_reducible exact sh3 | with_reducible exact sh4 | with_reducible exact sh9 | with_reducible exact sh39) _ rfl rfl rfl ?_; clear HS; intro w HS) | (refine sx_stores HS rfl 29 _ _ rfl rfl 0 _ _ _ rfl _ rfl 6 sh29 [_, _, _, _, _, _] rfl rfl rfl rfl ?_; clear HS; intro w HS) | (refine sx_store HS rfl _ _ _ rfl rfl 1 _ _ _ rfl _ rfl (by first | with_reducible exact sh3 | with_reducible exact sh4 | with_reducible exact sh9 | with_reducible exact sh39) _ rfl rfl rfl ?_; clear HS; intro w HS) | (refine sx_stores HS rfl 29 _ _ rfl rfl 1 _ _ _ rfl _ rfl 6 sh29 [_, _, _, _, _, _] rfl rfl rfl rfl ?_; clear HS; intro w HS)) | (refine sx_box HS rfl _ _ rfl _ rfl ?_; clear HS; intro w bk HS) | (refine is_alloc rfl ?_; first | (refine sx_alloc HS rfl 29 rfl _ zr29 ?_; clear HS; intro w bk HS))))
        refine bodyPost_ret (results_ct Try.results25 rfl (run_load_agg (HS.out.box (i := 1) rfl) sh29 (vs := (out (n - 1)).lst) rfl ⟨rfl, rfl, rfl, rfl, rfl, rfl, trivial⟩) rfl) rfl ⟨rfl, HS.out.isExt⟩
end Go.Proofs.Ytlbhoepfcedkdaa
