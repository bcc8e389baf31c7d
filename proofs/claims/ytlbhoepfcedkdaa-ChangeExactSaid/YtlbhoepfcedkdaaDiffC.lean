/-
  The contract of change.Diff.
-/
import Derived.Test.YtlbhoepfcedkdaaDiffF
import Derived.Test.YtlbhoepfcedkdaaRowsA
import Derived.Test.YtlbhoepfcedkdaaChgC
import Derived.BigRegion
namespace Go.Proofs.Ytlbhoepfcedkdaa
open Go.RowKit
theorem eql_cells (l m : List (Bool × ByteArray)) (hl : l.length = 16) (hm : m.length = 16) (w : World) : (binOp .eql 25 (.agg (cellVals l).toArray) (.agg (cellVals m).toArray)).run Try.prog w = .ok (.bool (eqCellsB l m)) w := by
  rw [run_eql_struct, eq_cellsG l m hl hm 9997 w]
  rfl
theorem guard_cells (op : BinOp) (x y : Operand) (xs ys : Array Value) (w : World) : (eqGuard op 25 x y (.agg xs) (.agg ys)).run Try.prog w = .ok () w := run_eqGuard_agg w op 25 x y xs ys (by kernel_rfl)
theorem hg_load {P : Program} {ops : Array Oper} {Q : Exit → Act → World → Prop} {a : Act} {w : World} {cc : Option Nat} {q : CodeRow} {w0 : World} {l L : List (Nat × TypeId × List Value)} {fuel : Nat} {listed : Array Bool} {o : Oper} (i : Nat) (d : Option Tmp) (hd0 : (ops[i]?).bind (·.dst) = d) (hi : ops[i]? = some o) (hs : Region.noSelect ops = true) (hf : Region.free .any ops listed i = true) (hr : (Region.ready .any ops listed).contains i = true)
    (hQ : ∀ v c a w, Q (.panic c) (a.put o.dst v) w → Q (.panic c) a w) (HS : Hid (St cc q w0 w L)) (hk : l.Sublist L) (hw : Region.wanted o (yielded ops a.tmps) = true)
    (ty : TypeId) (x : Operand) (ho : o.op = .load ty x) (j b : Nat) (T : TypeId) (cs : List Value) (hl : l[j]? = some (b, T, cs)) (off : Nat) (hx : a.eval x = .pointer (some ⟨b, off, none⟩)) (n : Nat) (hsh : shapeOf P ty = some (false, n)) (v : Value) (hv : cs[off]? = some v)
    (h : wpAnyH P .any ops Q (InSt cc q w0 l) fuel (listed.setIfInBounds i true) (a.put d v) w) : wpAnyH P .any ops Q (InSt cc q w0 l) (fuel + 1) listed a w :=
  have hd : o.dst = d := by rw [hi] at hd0; exact hd0
  wpAnyH_take (v := v) hi hs hf hr (hQ _) (.inl ⟨hw, fun w hS => by
    have hB : PBox w b T cs := St.box hS hl
    unfold execOp
    simp only [ho, hx, Instr.loadAt, Instr.sureAddr, Sem.run_bind, Sem.run_pure, Result.andThen_ok, run_load_box (P := P) hB hsh hv]⟩) (HS.out.sub hk) (by rw [hd]; exact h)
set_option maxHeartbeats 4000000 in
set_option maxRecDepth 100000 in
theorem ch_diff (a b : Pg) (w0 : World) (ha : a.cells.length = 16) (hb : b.cells.length = 16) : Calls Try.prog 26 #[.agg a.arr, .agg b.arr] w0 (DiffPost a b w0) := by
  have HA := Lib.hid ha
  have HB := Lib.hid hb
  clear ha hb
  have HS : Hid (St none default w0 w0 []) := St.start w0
  go_enter Try.func26, Try.ntmps26
  go_upto_region 1 with (first | (refine sx_box HS rfl _ _ rfl a.lst rfl ?_; clear HS; intro w b2 HS) | (refine sx_box HS rfl _ _ rfl b.lst rfl ?_; clear HS; intro w b3 HS))
  cases hid : (a.id == b.id) with
  | false =>
    have hid' : (a.id != b.id) = true := by simp [bne, hid]
    go_wp2_with (first | (refine sx_load HS rfl 3 _ rfl 1 _ _ _ rfl 0 rfl _ sh3 (.int .i64 a.id) rfl ?_) | (refine sx_load HS rfl 3 _ rfl 0 _ _ _ rfl 0 rfl _ sh3 (.int .i64 b.id) rfl ?_))
    go_ret2
    exact ⟨.slice none 0 0, [], by simp only [diffF, hid, if_true]; rfl, HS.out.sub (List.nil_sublist _), by simp only [diffF, hid, if_true]; exact RowEnt.nil⟩
  | true =>
    have hid' : (a.id != b.id) = false := by simp [bne, hid]
    go_wp2_with (first | (refine sx_load HS rfl 3 _ rfl 1 _ _ _ rfl 0 rfl _ sh3 (.int .i64 a.id) rfl ?_) | (refine sx_load HS rfl 3 _ rfl 0 _ _ _ rfl 0 rfl _ sh3 (.int .i64 b.id) rfl ?_))
    refine (paged_any a.id _).mono ?_
    rintro e _ ⟨rfl, rfl⟩
    cases hpg : pagedB a.id with
    | false =>
      go_wp2_with fail
      go_ret2
      exact ⟨.slice none 0 0, [], by simp only [diffF, hid, hpg, Bool.true_eq_false, if_true, if_false]; rfl, HS.out.sub (List.nil_sublist _), by simp only [diffF, hid, hpg, Bool.true_eq_false, if_true, if_false]; exact RowEnt.nil⟩
    | true =>
      go_wp2_with (first | (refine sx_load_all HS rfl 27 _ rfl 1 _ _ _ rfl rfl 34 sh27 (lst_len HA.out) ?_) | (refine sx_load_all HS rfl 27 _ rfl 0 _ _ _ rfl rfl 34 sh27 (lst_len HB.out) ?_))
      refine (right_any a _ HA.out).mono ?_
      rintro e w ⟨rfl, hx⟩
      replace HS := Lib.hid (HS.out.ext hx)
      clear hx
      cases hra : rightB a with
      | false =>
        go_wp2_with fail
        go_ret2
        exact ⟨.slice none 0 0, [], by simp only [diffF, hid, hpg, hra, Bool.true_eq_false, Bool.false_and, Bool.and_false, if_true, if_false]; rfl, HS.out.sub (List.nil_sublist _), by simp only [diffF, hid, hpg, hra, Bool.true_eq_false, Bool.false_and, Bool.and_false, if_true, if_false]; exact RowEnt.nil⟩
      | true =>
        go_wp2_with (refine sx_load_all HS rfl 27 _ rfl 0 _ _ _ rfl rfl 34 sh27 (lst_len HB.out) ?_)
        refine (right_any b _ HB.out).mono ?_
        rintro e w ⟨rfl, hx⟩
        replace HS := Lib.hid (HS.out.ext hx)
        clear hx
        cases hrb : rightB b with
        | false =>
          go_wp2_with fail
          go_ret2
          exact ⟨.slice none 0 0, [], by simp only [diffF, hid, hpg, hra, hrb, Bool.true_eq_false, Bool.false_and, Bool.and_false, if_true, if_false]; rfl, HS.out.sub (List.nil_sublist _), by simp only [diffF, hid, hpg, hra, hrb, Bool.true_eq_false, Bool.false_and, Bool.and_false, if_true, if_false]; exact RowEnt.nil⟩
        | true =>
          cases hec : eqCellsB a.cells b.cells with
          | true =>
            go_wp2_with (first | (refine sx_loads HS rfl 25 _ rfl 1 _ _ _ rfl 2 rfl 32 sh25 (cellVals a.cells) (by rw [cellVals_length, HA.out]) (cells_at a) ?_) | (refine sx_loads HS rfl 25 _ rfl 0 _ _ _ rfl 2 rfl 32 sh25 (cellVals b.cells) (by rw [cellVals_length, HB.out]) (cells_at b) ?_) | (refine sx_run rfl (.bool (eqCellsB a.cells b.cells)) (run_binop rfl rfl rfl (guard_cells ..) (eql_cells a.cells b.cells HA.out HB.out _)) ?_))
            go_ret2
            have hd := diffL_none hec
            exact ⟨.slice none 0 0, [], by simp only [diffF, hid, hpg, hra, hrb, Bool.and_self, Bool.true_eq_false, if_false]; rfl, HS.out.sub (List.nil_sublist _), by simp only [diffF, hid, hpg, hra, hrb, Bool.and_self, Bool.true_eq_false, if_false, hd]; exact RowEnt.nil⟩
          | false =>
            go_wp2_with (first | (refine sx_loads HS rfl 25 _ rfl 1 _ _ _ rfl 2 rfl 32 sh25 (cellVals a.cells) (by rw [cellVals_length, HA.out]) (cells_at a) ?_) | (refine sx_loads HS rfl 25 _ rfl 0 _ _ _ rfl 2 rfl 32 sh25 (cellVals b.cells) (by rw [cellVals_length, HB.out]) (cells_at b) ?_) | (refine sx_run rfl (.bool (eqCellsB a.cells b.cells)) (run_binop rfl rfl rfl (guard_cells ..) (eql_cells a.cells b.cells HA.out HB.out _)) ?_))
            clear hec
            obtain ⟨ie, hie, hiz, his, hib⟩ := info_chg
            have HIE := Lib.hid hie
            have HIZ := Lib.hid hiz
            have HIS := Lib.hid his
            have HIB := Lib.hid hib
            clear hie hiz his hib
            replace HS : Hid (St none default w0 w [(b3, 27, b.lst), (b2, 27, a.lst)]) := HS
            go_loopw [6, 37] (fun v i wr => ∃ (k : Nat) (lr : List (Nat × TypeId × List Value)), k ≤ 16 ∧ i = .int .i64 k ∧ Hid (St none default w0 wr (lr ++ [(b3, 27, b.lst), (b2, 27, a.lst)])) ∧ Hid (RowEnt 29 6 lr v (diffL a b k).length (flat (diffL a b k)))) (fun _ i _ => 16 - (intOf i).toNat)
            case atStart => exact ⟨0, [], Nat.zero_le _, rfl, HS, RowEnt.nil⟩
            case round =>
              obtain ⟨k, lr, hk, rfl, HS2, HR⟩ := hrel
              clear HS
              have HS := HS2
              clear HS2
              by_cases hlt : k < 16
              · obtain ⟨⟨x1, x2⟩, hx⟩ := list_get_of_lt a.cells k 16 HA.out hlt
                obtain ⟨⟨y1, y2⟩, hy⟩ := list_get_of_lt b.cells k 16 HB.out hlt
                have hca : a.cell k = (x1, x2) := by simp [Pg.cell, hx]
                have hcb : b.cell k = (y1, y2) := by simp [Pg.cell, hy]
                have HX := Lib.hid hx
                have HY := Lib.hid (Pg.get HB.out k hlt)
                rw [hcb] at HY
                have HCA := Lib.hid hca
                have HCB := Lib.hid hcb
                clear hx hy hca hcb
                go_upto_region 13 with (first | (refine sx_run rfl (.agg #[.bool x1, .string x2]) (run_index_cell rfl rfl rfl hlt HX.out) ?_) | (refine sx_alloc HS rfl 24 rfl _ zr24 ?_; clear HS; intro w b8 HS) | (refine sx_stores HS rfl 24 _ _ rfl rfl 0 _ _ _ rfl _ rfl 2 sh24 [_, _] rfl rfl rfl rfl ?_; clear HS; intro w HS))
                replace HS : Hid (St none default w0 w ((b8, 24, [.bool x1, .string x2]) :: (lr ++ [(b3, 27, b.lst), (b2, 27, a.lst)]))) := HS
                have HQ := HS.out.sub (l := [(b3, 27, b.lst)]) (by simp)
                have g0 := (HS.out.box (i := 0) rfl).cell (o := 0) (v := Value.bool x1) rfl
                have g1 := (HS.out.box (i := 0) rfl).cell (o := 1) (v := Value.string x2) rfl
                have k0 := (HQ.box (i := 0) rfl).cell HY.out.1
                have k1 := (HQ.box (i := 0) rfl).cell HY.out.2
                clear HQ
                have hq := fun w => neq_cell x1 y1 x2 y2 w
                cases hce : cellEqB (x1, x2) (y1, y2) with
                | true =>
                  go_quiet (fail)
                  replace HS := Lib.hid (HS.out.drewN nq)
                  clear g0 g1 k0 k1 hq
                  have hds : diffL a b (k + 1) = diffL a b k := diffL_same (by rw [HCA.out, HCB.out]; exact hce)
                  have HD := Lib.hid hds
                  clear hds hce
                  go_wp2_with fail
                  go_roundw
                  case rel => exact ⟨k + 1, lr, by omega, by go_num, Lib.hid (HS.out.drop 1), by rw [HD.out]; exact HR⟩
                  case measure => simp [intOf]; omega
                | false =>
                  go_quiet (fail)
                  replace HS := Lib.hid (HS.out.drewN nq)
                  clear g0 g1 k0 k1 hq
                  have hds : diffL a b (k + 1) = diffL a b k ++ [⟨a.id, k, x1, x2, y1, y2⟩] := by rw [diffL_more (by rw [HCA.out, HCB.out]; exact hce)]; unfold diffAt; rw [HCA.out, HCB.out]
                  have HD := Lib.hid hds
                  have hle := diffL_len a b k
                  clear hds hce
                  go_wp2_with fail
                  refine hg_begin [(b8, 24, [.bool x1, .string x2]), (b3, 27, b.lst), (b2, 27, a.lst)] HS (by kernel_rfl) ?_
                  clear HS; intro w HS
                  refine hg_reg 0 (some 47) rfl rfl (by kernel_rfl) (by kernel_rfl) (by kernel_rfl) (fun _ _ _ _ h => h) HS (by simp) _ rfl (fun _ => by rfl) ?_
                  try simp only [Act.put, List.setIfInBounds_toArray, List.set_cons_zero, List.set_cons_succ]
                  refine hg_reg 1 (some 48) rfl rfl (by kernel_rfl) (by kernel_rfl) (by kernel_rfl) (fun _ _ _ _ h => h) HS (by simp) (.pointer (some ⟨b2, 0, none⟩)) rfl (fun _ => by go_simp) ?_
                  try simp only [Act.put, List.setIfInBounds_toArray, List.set_cons_zero, List.set_cons_succ]
                  refine hg_load 2 (some 49) rfl rfl (by kernel_rfl) (by kernel_rfl) (by kernel_rfl) (fun _ _ _ _ h => h) HS (by simp) rfl 3 _ rfl 2 _ _ _ rfl 0 rfl _ sh3 (.int .i64 a.id) rfl ?_
                  try simp only [Act.put, List.setIfInBounds_toArray, List.set_cons_zero, List.set_cons_succ]
                  refine hg_reg 3 (some 50) rfl rfl (by kernel_rfl) (by kernel_rfl) (by kernel_rfl) (fun _ _ _ _ h => h) HS (by simp) _ rfl (fun _ => by rfl) ?_
                  try simp only [Act.put, List.setIfInBounds_toArray, List.set_cons_zero, List.set_cons_succ]
                  refine hg_loads 4 (some 51) rfl rfl (by kernel_rfl) (by kernel_rfl) (by kernel_rfl) (fun _ _ _ _ h => h) HS (by simp) rfl 24 _ rfl 0 _ _ _ rfl 0 rfl 2 sh24 [_, _] rfl ⟨rfl, rfl, trivial⟩ ?_
                  try simp only [Act.put, List.setIfInBounds_toArray, List.set_cons_zero, List.set_cons_succ]
                  refine hg_reg 5 (some 52) rfl rfl (by kernel_rfl) (by kernel_rfl) (by kernel_rfl) (fun _ _ _ _ h => h) HS (by simp) _ rfl (fun _ => by rfl) ?_
                  try simp only [Act.put, List.setIfInBounds_toArray, List.set_cons_zero, List.set_cons_succ]
                  refine hg_reg 6 (some 53) rfl rfl (by kernel_rfl) (by kernel_rfl) (by kernel_rfl) (fun _ _ _ _ h => h) HS (by simp) (.pointer (some ⟨b3, 2, none⟩)) rfl (fun _ => by go_simp) ?_
                  try simp only [Act.put, List.setIfInBounds_toArray, List.set_cons_zero, List.set_cons_succ]
                  refine hg_reg 7 (some 54) rfl rfl (by kernel_rfl) (by kernel_rfl) (by kernel_rfl) (fun _ _ _ _ h => h) HS (by simp) (.pointer (some ⟨b3, 2 + k * 2, none⟩)) rfl (fun _ => by go_simp) ?_
                  try simp only [Act.put, List.setIfInBounds_toArray, List.set_cons_zero, List.set_cons_succ]
                  refine hg_loads 8 (some 55) rfl rfl (by kernel_rfl) (by kernel_rfl) (by kernel_rfl) (fun _ _ _ _ h => h) HS (by simp) rfl 24 _ rfl 1 _ _ _ rfl (2 + k * 2) rfl 2 sh24 [.bool y1, .string y2] rfl ⟨HY.out.1, HY.out.2, trivial⟩ ?_
                  try simp only [Act.put, List.setIfInBounds_toArray, List.set_cons_zero, List.set_cons_succ]
                  refine hg_reg 9 (some 56) rfl rfl (by kernel_rfl) (by kernel_rfl) (by kernel_rfl) (fun _ _ _ _ h => h) HS (by simp) (.agg #[.int .i64 a.id, .int .i64 k, .bool x1, .string x2, .bool y1, .string y2]) rfl (fun _ => by go_simp) ?_
                  try simp only [Act.put, List.setIfInBounds_toArray, List.set_cons_zero, List.set_cons_succ]
                  refine hk_x1 10 (by kernel_rfl) ?_
                  refine hg_build 10 (some 57) rfl rfl rfl HS (by simp) 50 29 1 [(0, .tmp 56)] rfl [(0, .agg #[.int .i64 a.id, .int .i64 k, .bool x1, .string x2, .bool y1, .string y2])] rfl (Chg.lst (⟨a.id, k, x1, x2, y1, y2⟩ : Chg)) (fun w => build_chg (⟨a.id, k, x1, x2, y1, y2⟩ : Chg) w) ?_
                  clear HS; intro w b57 HS
                  try simp only [Act.put, List.setIfInBounds_toArray, List.set_cons_zero, List.set_cons_succ]
                  refine hk_x1 11 (by kernel_rfl) ?_
                  refine hg_append 11 (some 58) rfl rfl rfl (front := [(b57, 29, Chg.lst (⟨a.id, k, x1, x2, y1, y2⟩ : Chg)), (b8, 24, [.bool x1, .string x2])]) (lr := lr) (ll := [(b3, 27, b.lst), (b2, 27, a.lst)]) HS (fun _ => by simp) _ _ 50 rfl 29 ie _ 6 _ Try.underlying50 HIE.out HIZ.out HIS.out rfl rfl (by decide) _ (diffL a b k).length (flat (diffL a b k)) rfl HR.out 0 b57 1 29 1 (Chg.lst (⟨a.id, k, x1, x2, y1, y2⟩ : Chg)) rfl rfl rfl rfl (by unfold maxLen; omega) (Nat.le_trans (Nat.mul_le_mul (show (diffL a b k).length + 1 ≤ 100 by omega) HIB.out) (by decide)) ?_
                  clear HS HR; intro vv w lq HS HR
                  try simp only [Act.put, List.setIfInBounds_toArray, List.set_cons_zero, List.set_cons_succ]
                  refine hg_reg 12 (some 6) rfl rfl (by kernel_rfl) (by kernel_rfl) (by kernel_rfl) (fun _ _ _ _ h => h) HS (by simp) _ rfl (fun _ => by rfl) ?_
                  try simp only [Act.put, List.setIfInBounds_toArray, List.set_cons_zero, List.set_cons_succ]
                  refine hk_done (by kernel_rfl) ?_
                  go_wp2_with fail
                  go_roundw
                  case rel => exact ⟨k + 1, lq, by omega, by go_num, Lib.hid (HS.out.drop 2), by rw [HD.out, flat_snoc, List.length_append]; exact HR⟩
                  case measure => simp [intOf]; omega
              · have hk16 : k = 16 := by omega
                subst hk16
                go_wp2_with fail
                go_ret2
                exact ⟨_, lr, by simp only [diffF, hid, hpg, hra, hrb, Bool.and_self, Bool.true_eq_false, if_false]; rfl, HS.out.sub (List.sublist_append_left _ _), by simp only [diffF, hid, hpg, hra, hrb, Bool.and_self, Bool.true_eq_false, if_false]; exact HR.out⟩
end Go.Proofs.Ytlbhoepfcedkdaa
