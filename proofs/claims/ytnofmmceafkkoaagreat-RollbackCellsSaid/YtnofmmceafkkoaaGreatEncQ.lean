/-
  page.Encode: of a valid page it gives a string and no error.
-/
import Derived.Test.YtnofmmceafkkoaaGreatCod
import Derived.Test.YtnofmmceafkkoaaGreatNatR
import Derived.Test.YtnofmmceafkkoaaGreatSxA
set_option linter.unusedVariables false
set_option linter.unusedSimpArgs false
namespace Go.Proofs.YtnofmmceafkkoaaGreat
open Go.RowKit
theorem shInt : shapeOf Tryz.prog 3 = some (false, 1) := by kernel_rfl
theorem shBool : shapeOf Tryz.prog 4 = some (false, 1) := by kernel_rfl
theorem shStr : shapeOf Tryz.prog 9 = some (false, 1) := by kernel_rfl
theorem shCell : shapeOf Tryz.prog 43 = some (true, 2) := by kernel_rfl
theorem shCells : shapeOf Tryz.prog 51 = some (true, 32) := by kernel_rfl
theorem zrCell : (Tryz.prog.info? 43).bind (·.zero) = some (.agg [Value.bool false, .string ⟨#[]⟩].toArray) := by kernel_rfl
theorem szCell : sizeT Tryz.prog 43 = some 2 := by kernel_rfl
theorem wl_ixa {P : Program} {ops : Array Oper} {o : Oper} {rest : List Oper} {a : Act} {w : World} {Q : Exit → Act → World → Prop} (hw : Region.wanted o (yielded ops a.tmps) = true) {t : TypeId} {x i : Operand} (ho : o.op = .index t x i) {n : Nat} {el : TypeId} (hu : P.underlying t = some (.array n el)) {dd : TypeDesc} (hdd : P.underlying el = some dd) (hd : aggD dd = true) {s : Nat} (hs : sizeT P el = some s)
    {vs : List Value} (hx : a.eval x = .agg vs.toArray) {k : IntKind} {j : Nat} (hi : a.eval i = .int k (j : Int)) (hlt : j < n) {us : List Value} (hus : (vs.drop (j * s)).take s = us) (h : wpList P ops Q rest (a.put o.dst (.agg us.toArray)) w) : wpList P ops Q (o :: rest) a w :=
  wpList_wanted hw fun _ hK => by
    unfold Oper.wp
    have e : (execOp a.eval o).run P w = .ok (.value (.agg us.toArray)) w := by
      have hj : a.eval i = .int k (Int.ofNat j) := hi
      rw [execOp_eq, ho, ← hus]
      simp [opR, execOp, Instr.index, hj, run_asIntOf, run_underlying hu, hx, hlt, run_sizeT hs, run_part_agg hdd hd hs]
    rw [e]
    exact hK _ _ h
theorem cellVals_sub (l : List (Bool × ByteArray)) (i : Nat) (b : Bool) (s : ByteArray) (h : l[i]? = some (b, s)) : ((cellVals l).drop (i * 2)).take 2 = [.bool b, .string s] := by
  induction l generalizing i with
  | nil => simp at h
  | cons x l ih =>
    have c : cellVals (x :: l) = .bool x.1 :: .string x.2 :: cellVals l := rfl
    cases i with
    | zero => simp at h; subst h; rw [c]; rfl
    | succ i =>
      rw [c, show (i + 1) * 2 = i * 2 + 1 + 1 by omega]
      exact ih i (by simpa using h)
def cellGood (lsn : Int) (x : Bool × ByteArray) : Prop := x.2.size ≤ 12 ∧ (x.1 = false → x.2 = ⟨#[]⟩) ∧ (x.1 = true → lsn ≠ 0)
set_option maxHeartbeats 4000000 in
set_option maxRecDepth 100000 in
theorem cells_walk (id lsn : Int) (l : List (Bool × ByteArray)) (hl : l.length = 16) (hg : ∀ x ∈ l, cellGood lsn x) (w0 : World) :
    Calls Tryz.prog 151 #[.agg (pgArr id lsn l)] w0 fun e w' => e = .returned (.bool true) ∧ Ext w0 w' := by
  have HL := Lib.hid hl
  have HG := Lib.hid hg
  clear hl hg
  have HS : Hid (St none default w0 w0 []) := St.start w0
  go_enter Tryz.func151, Tryz.ntmps151
  go_wp2_with (first | (refine sx_box HS rfl _ _ rfl (pgLst id lsn l) rfl ?_; clear HS; intro w b1 HS) | (refine sx_loads HS rfl 51 _ rfl 0 _ _ _ rfl 2 rfl 32 shCells (cellVals l) (by rw [cellVals_length, HL.out]) (cellsAt_self [.int .i64 id, .int .i64 lsn] (cellVals l)) ?_))
  go_loopw [7] (fun i wr => ∃ k : Nat, k ≤ 16 ∧ i = .int .i64 k ∧ Hid (St none default w0 wr [(b1, 53, pgLst id lsn l)])) (fun i _ => 16 - (intOf i).toNat)
  case atStart => exact ⟨0, by omega, rfl, HS⟩
  case round =>
    obtain ⟨k, hk, rfl, HS2⟩ := hrel
    clear HS
    have HS := HS2
    clear HS2
    by_cases hlt : (k : Int) < 16
    · obtain ⟨⟨b, s⟩, hx⟩ := list_get_of_lt l k 16 HL.out (by omega)
      have HG1 := HG.out (b, s) (List.mem_of_getElem? hx)
      have HX := Lib.hid hx
      clear hx
      obtain ⟨g1, g2, g3⟩ := HG1
      have g1' : (s.size : Int) ≤ 12 := by have : s.size ≤ 12 := g1; omega
      have hkn : k < 16 := by omega
      cases b with
      | false =>
        have hs : s = ⟨#[]⟩ := g2 rfl
        subst hs
        clear g1 g2 g3 g1'
        go_wp2_with (first | (refine wl_ixa rfl rfl Tryz.underlying51 Tryz.underlying43 rfl szCell rfl rfl hkn (cellVals_sub l k false ⟨#[]⟩ HX.out) ?_) | (refine sx_alloc HS rfl 43 rfl _ zrCell ?_; clear HS; intro w b2 HS) | (refine sx_stores HS rfl 43 _ _ rfl rfl 0 _ _ _ rfl 0 rfl 2 shCell [.bool false, .string ⟨#[]⟩] rfl rfl rfl rfl ?_; clear HS; intro w HS) | (refine sx_load HS rfl 9 _ rfl 0 _ _ _ rfl 1 rfl _ shStr (.string ⟨#[]⟩) rfl ?_) | (refine sx_load HS rfl 4 _ rfl 0 _ _ _ rfl 0 rfl _ shBool (.bool false) rfl ?_))
        go_roundw
        case rel => exact ⟨k + 1, by omega, by go_num, HS.out.drop 1⟩
        case measure => simp [intOf]; omega
      | true =>
        have hls : lsn ≠ 0 := g3 rfl
        have hls' : (lsn == 0) = false := by simpa using hls
        have g1n : ¬ ((12 : Int) < s.size) := by omega
        clear g1 g2 g3
        go_wp2_with (first | (refine wl_ixa rfl rfl Tryz.underlying51 Tryz.underlying43 rfl szCell rfl rfl hkn (cellVals_sub l k true s HX.out) ?_) | (refine sx_alloc HS rfl 43 rfl _ zrCell ?_; clear HS; intro w b2 HS) | (refine sx_stores HS rfl 43 _ _ rfl rfl 0 _ _ _ rfl 0 rfl 2 shCell [.bool true, .string s] rfl rfl rfl rfl ?_; clear HS; intro w HS) | (refine sx_load HS rfl 9 _ rfl 0 _ _ _ rfl 1 rfl _ shStr (.string s) rfl ?_) | (refine sx_load HS rfl 4 _ rfl 0 _ _ _ rfl 0 rfl _ shBool (.bool true) rfl ?_) | (refine sx_load HS rfl 3 _ rfl 1 _ _ _ rfl 1 rfl _ shInt (.int .i64 lsn) rfl ?_))
        go_roundw
        case rel => exact ⟨k + 1, by omega, by go_num, HS.out.drop 1⟩
        case measure => simp [intOf]; omega
    · go_wp2_with fail
      go_ret
      exact ⟨rfl, HS.out.isExt⟩
end Go.Proofs.YtnofmmceafkkoaaGreat
