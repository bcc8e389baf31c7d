/-
  Contracts of changes: what is valid, what applying, joining and inverting does; of the program (change) and of the reference (pagemendref03).
-/
import Derived.Test.YtlbhoepfcedkdaaRows
import Derived.Test.YtlbhoepfcedkdaaPage
import Derived.Test.YtlbhoepfcedkdaaHeap
import Derived.Outline
namespace Go.Proofs.Ytlbhoepfcedkdaa
open Go.RowKit

/-- A change of a cell. -/
structure Chg where
  page : Int
  slot : Int
  bb : Bool
  bd : ByteArray
  ab : Bool
  ad : ByteArray
def Chg.arr (c : Chg) : Array Value := #[.int .i64 c.page, .int .i64 c.slot, .bool c.bb, .string c.bd, .bool c.ab, .string c.ad]
/-- A page. -/
structure Pg where
  id : Int
  lsn : Int
  cells : List (Bool × ByteArray)
def Pg.lst (p : Pg) : List Value := pgLst p.id p.lsn p.cells
abbrev Pg.arr (p : Pg) : Array Value := p.lst.toArray
def Pg.zero : Pg := ⟨0, 0, blankCells⟩
def Chg.zero : Chg := ⟨0, 0, false, ⟨#[]⟩, false, ⟨#[]⟩⟩
def cellOkB (b : Bool) (s : ByteArray) : Bool := decide (s.size ≤ 12) && (b || s.toList.isEmpty)
def pagedB (n : Int) : Bool := decide (0 ≤ n) && decide (n < 64)
def Chg.ok (c : Chg) : Bool := pagedB c.page && decide (0 ≤ c.slot) && decide (c.slot < 16) && cellOkB c.bb c.bd && cellOkB c.ab c.ad
def cellEqB (x y : Bool × ByteArray) : Bool := (x.1 == y.1) && (x.2.toList == y.2.toList)
def Pg.cell (p : Pg) (i : Nat) : Bool × ByteArray := p.cells.getD i (false, ⟨#[]⟩)
def applyF (p : Pg) (c : Chg) : Pg × Int :=
  if c.ok = false then (Pg.zero, 22) else if (c.page == p.id) = false then (Pg.zero, 6) else if cellEqB (p.cell c.slot.toNat) (c.bb, c.bd) = false then (Pg.zero, 20) else (⟨p.id, p.lsn, p.cells.set c.slot.toNat (c.ab, c.ad)⟩, 0)
def inverseF (c : Chg) : Chg := ⟨c.page, c.slot, c.ab, c.ad, c.bb, c.bd⟩
def joinF (a b : Chg) : Chg × Int :=
  if (a.ok && b.ok) = false then (Chg.zero, 22) else if (a.page == b.page && a.slot == b.slot) = false then (Chg.zero, 6) else if cellEqB (a.ab, a.ad) (b.bb, b.bd) = false then (Chg.zero, 20) else (⟨a.page, a.slot, a.bb, a.bd, b.ab, b.ad⟩, 0)

theorem zero_page : (Try.prog.info? 27).bind (·.zero) = some (.agg (pgArr 0 0 blankCells)) := by kernel_rfl
theorem size_page : (Try.prog.info? 27).map (·.size) = some 34 := by kernel_rfl
theorem built_page (id lsn : Int) : Try.prog.built 27 [(0, .int .i64 id), (1, .int .i64 lsn)] = some (pgArr id lsn blankCells) := by kernel_rfl
theorem built_page0 : Try.prog.built 27 [] = some (pgArr 0 0 blankCells) := by kernel_rfl
theorem size_pg (id lsn : Int) (l : List (Bool × ByteArray)) (h : l.length = 16) : (Try.prog.info? 27).map (·.size) = some (pgArr id lsn l).size := by rw [pgArr_size, h]; exact size_page
theorem size_lst (p : Pg) (h : p.cells.length = 16) : (Try.prog.info? 27).map (·.size) = some p.lst.length := by unfold Pg.lst; rw [pgLst_length, h]; exact size_page
theorem size_chg : (Try.prog.info? 29).map (·.size) = some 6 := by kernel_rfl
theorem zero_chg : (Try.prog.info? 29).bind (·.zero) = some (.agg Chg.zero.arr) := by kernel_rfl

set_option maxHeartbeats 400000 in
theorem paged_any (n : Int) (w : World) : Calls Try.prog 31 #[.int .i64 n] w fun e w' => e = .returned (.bool (pagedB n)) ∧ w = w' := by
  go_enter Try.func31, Try.ntmps31
  go_wp2
  all_goals go_ret
  all_goals refine ⟨ret_bool ?_, rfl⟩
  all_goals simp_all [pagedB]
  all_goals omega


set_option maxHeartbeats 400000 in
theorem ch_validCell (b : Bool) (s : ByteArray) (w : World) : Calls Try.prog 19 #[.agg #[.bool b, .string s]] w fun e w' => e = .returned (.bool (cellOkB b s)) ∧ Ext w w' := by
  go_enter Try.func19, Try.ntmps19
  go_wp2
  all_goals go_ret
  all_goals refine ⟨ret_bool ?_, (Ext.refl _).alloc _⟩
  all_goals simp_all [cellOkB]
  all_goals omega


set_option maxHeartbeats 1000000 in
theorem ch_valid (c : Chg) (w : World) : Calls Try.prog 15 #[.agg c.arr] w fun e w' => e = .returned (.bool c.ok) ∧ Ext w w' := by
  obtain ⟨p, s, b, x, d, y⟩ := c
  unfold Chg.arr
  go_enter Try.func15, Try.ntmps15
  go_wp2_with (first | (go_at_call 31; refine (paged_any _ _).mono ?_; rintro e w' ⟨rfl, rfl⟩) | (go_at_call 19; refine (ch_validCell _ _ _).mono ?_; rintro e w' ⟨rfl, hb⟩; obtain ⟨hc, hf, hs⟩ := hb.facts))
  all_goals go_ret
  all_goals refine ⟨ret_bool ?_, ?_⟩
  all_goals first | (with_reducible refine Ext.trans (Ext.trans ((Ext.refl _).alloc _) (by assumption)) (by assumption)) | (with_reducible refine Ext.trans ((Ext.refl _).alloc _) (by assumption)) | (with_reducible exact (Ext.refl _).alloc _) | skip
  all_goals simp_all [Chg.ok, pagedB]
  all_goals omega


set_option maxHeartbeats 400000 in
theorem rf_validCell (b : Bool) (s : ByteArray) (w : World) : Calls Try.prog 20 #[.agg #[.bool b, .string s]] w fun e w' => e = .returned (.bool (cellOkB b s)) ∧ Ext w w' := by
  go_enter Try.func20, Try.ntmps20
  go_wp2
  all_goals go_ret
  all_goals refine ⟨ret_bool ?_, (Ext.refl _).alloc _⟩
  all_goals simp_all [cellOkB]
  all_goals omega


set_option maxHeartbeats 1000000 in
theorem rf_valid (c : Chg) (w : World) : Calls Try.prog 16 #[.agg c.arr] w fun e w' => e = .returned (.bool c.ok) ∧ Ext w w' := by
  obtain ⟨p, s, b, x, d, y⟩ := c
  unfold Chg.arr
  go_enter Try.func16, Try.ntmps16
  go_wp2_with (first | (go_at_call 20; refine (rf_validCell _ _ _).mono ?_; rintro e w' ⟨rfl, hb⟩; obtain ⟨hc, hf, hs⟩ := hb.facts))
  all_goals go_ret
  all_goals refine ⟨ret_bool ?_, ?_⟩
  all_goals first | (with_reducible refine Ext.trans (Ext.trans ((Ext.refl _).alloc _) (by assumption)) (by assumption)) | (with_reducible refine Ext.trans ((Ext.refl _).alloc _) (by assumption)) | (with_reducible exact (Ext.refl _).alloc _) | skip
  all_goals simp_all [Chg.ok, pagedB]
  all_goals omega

end Go.Proofs.Ytlbhoepfcedkdaa
