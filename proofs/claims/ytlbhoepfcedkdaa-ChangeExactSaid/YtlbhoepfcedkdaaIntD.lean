/-
  The contract of the choice of a number: it returns some number, and changes the row of choices alone.
-/
import Derived.Test.YtlbhoepfcedkdaaDrawC
import Derived.Test.YtlbhoepfcedkdaaSame
namespace Go.Proofs.Ytlbhoepfcedkdaa
open Go.RowKit
section
variable {P : Program} {cc : Option Nat} {q : CodeRow} {w0 w : World} {l : List (Nat × TypeId × List Value)} {ops : Array Oper} {rest : List Oper} {o : Oper} {a : Act} {Q : Exit → Act → World → Prop}
/-- A slice of literal parts, as a block of the call's own. -/
theorem sx_build (HS : Hid (St cc q w0 w l)) (hw : Region.wanted o (yielded ops a.tmps) = true) (t E : TypeId) (len : Nat) (parts : List (Nat × Operand)) (ho : o.op = .buildSlice t len parts.toArray) (pl : List (Nat × Value)) (hpl : (parts.map fun x => (x.1, a.eval x.2)) = pl) (cs : List Value)
    (hrun : ∀ w : World, (Instr.buildSlice t len pl.toArray).run P w = .ok (.slice (some ⟨w.heap.size, 0, none⟩) len len) (w.alloc (.cells cs.toArray E)))
    (h : ∀ w' b, Hid (St cc q w0 w' ((b, E, cs) :: l)) → wpList P ops Q rest (a.put o.dst (.slice (some ⟨b, 0, none⟩) len len)) w') : wpList P ops Q (o :: rest) a w :=
  wpList_wanted hw fun _ hK => by
    have hm : (parts.toArray.map fun x => (x.1, a.eval x.2)) = pl.toArray := by rw [List.map_toArray, hpl]
    have hr := hrun w
    unfold Oper.wp execOp
    simp only [ho, hm, Sem.run_bind, hr, Result.andThen_ok, Sem.run_pure]
    exact hK _ _ (h _ _ (HS.out.new (NewBox.of w E cs.toArray)))
end
def limits : List Int := [9223372036854775807, -9223372036854775808, 1099511627776, 1099511627777, 1073741824, 1073741825, 64, 63, 16, 15, 256, 255, 4294967296, 65536, 256, 255]
theorem build_limits (w : World) : (Instr.buildSlice 67 16 ([(0, Value.int .i64 9223372036854775807), (1, Value.int .i64 (-9223372036854775808)), (2, Value.int .i64 1099511627776), (3, Value.int .i64 1099511627777), (4, Value.int .i64 1073741824), (5, Value.int .i64 1073741825), (6, Value.int .i64 64), (7, Value.int .i64 63), (8, Value.int .i64 16), (9, Value.int .i64 15), (10, Value.int .i64 256), (11, Value.int .i64 255), (12, Value.int .i64 4294967296), (13, Value.int .i64 65536), (14, Value.int .i64 256), (15, Value.int .i64 255)] : List (Nat × Value)).toArray).run Try.prog w = .ok (.slice (some ⟨w.heap.size, 0, none⟩) 16 16) (w.alloc (.cells (limits.map (Value.int .i64)).toArray 3)) := by
  cases hie : Try.prog.info? 3 with
  | none => have h : (Try.prog.info? 3).isSome = true := by kernel_rfl
            rw [hie] at h; cases h
  | some ie =>
    have hs : ie.size = 1 := by
      have h : (Try.prog.info? 3).map (·.size) = some 1 := by kernel_rfl
      rw [hie] at h; simpa using h
    have hz : ie.zero = some (.int .i64 0) := by
      have h : (Try.prog.info? 3).bind (·.zero) = some (.int .i64 0) := by kernel_rfl
      rw [hie] at h; exact h
    refine run_buildSlice w 67 3 16 _ _ ie _ Try.underlying67 hie hz (by rw [hs]; decide) (by rw [hs]; decide) ?_
    rw [hs]
    kernel_rfl
def IntPost (q : CodeRow) (c : Nat) (w : World) (e : Ending) (w' : World) : Prop := ∃ i : Int, e = .returned (.int .i64 i) ∧ Only c w w' ∧ CodesAt q w' c
set_option maxHeartbeats 2000000 in
set_option maxRecDepth 100000 in
theorem int_any (q : CodeRow) (c : Nat) (w0 : World) (hcd : CodesAt q w0 c) : Calls Try.prog 29 #[.pointer (some ⟨c, 0, none⟩)] w0 (IntPost q c w0) := by
  have HS : Hid (St (some c) q w0 w0 []) := St.startC hcd
  clear hcd
  go_enter Try.func29, Try.ntmps29
  go_wp2_with fail
  refine (next_any q c 10 _ HS.out.code (by omega)).mono ?_
  rintro e w ⟨r, rfl, hr, _, ho, hcd⟩
  replace HS := Lib.hid (HS.out.draws ho hcd)
  clear ho hcd
  by_cases h0 : r = 0
  · subst h0
    go_wp2_with fail
    refine (next_any q c 3 _ HS.out.code (by omega)).mono ?_
    rintro e w ⟨r3, rfl, hr3, _, ho, hcd⟩
    replace HS := Lib.hid (HS.out.draws ho hcd)
    clear ho hcd
    go_wp2_with fail
    go_ret
    exact ⟨_, rfl, HS.out.isOnly, HS.out.code⟩
  · by_cases h1 : r = 1
    · subst h1
      go_wp2_with (refine sx_build HS rfl 67 3 16 ([(0, Operand.const (Value.int .i64 9223372036854775807)), (1, Operand.const (Value.int .i64 (-9223372036854775808))), (2, Operand.const (Value.int .i64 1099511627776)), (3, Operand.const (Value.int .i64 1099511627777)), (4, Operand.const (Value.int .i64 1073741824)), (5, Operand.const (Value.int .i64 1073741825)), (6, Operand.const (Value.int .i64 64)), (7, Operand.const (Value.int .i64 63)), (8, Operand.const (Value.int .i64 16)), (9, Operand.const (Value.int .i64 15)), (10, Operand.const (Value.int .i64 256)), (11, Operand.const (Value.int .i64 255)), (12, Operand.const (Value.int .i64 4294967296)), (13, Operand.const (Value.int .i64 65536)), (14, Operand.const (Value.int .i64 256)), (15, Operand.const (Value.int .i64 255))] : List (Nat × Operand)) rfl [(0, Value.int .i64 9223372036854775807), (1, Value.int .i64 (-9223372036854775808)), (2, Value.int .i64 1099511627776), (3, Value.int .i64 1099511627777), (4, Value.int .i64 1073741824), (5, Value.int .i64 1073741825), (6, Value.int .i64 64), (7, Value.int .i64 63), (8, Value.int .i64 16), (9, Value.int .i64 15), (10, Value.int .i64 256), (11, Value.int .i64 255), (12, Value.int .i64 4294967296), (13, Value.int .i64 65536), (14, Value.int .i64 256), (15, Value.int .i64 255)] rfl (limits.map (Value.int .i64)) build_limits ?_; clear HS; intro w bl HS)
      refine (next_any q c 16 _ HS.out.code (by omega)).mono ?_
      rintro e w ⟨r3, rfl, hr3, _, ho, hcd⟩
      replace HS := Lib.hid (HS.out.draws ho hcd)
      clear ho hcd
      have h16 : r3 < 16 := by have := hr3 (by omega); omega
      obtain ⟨z, hz⟩ : ∃ z : Int, (limits.map (Value.int .i64))[r3]? = some (.int .i64 z) := by
        obtain ⟨z, hz⟩ := list_get_of_lt limits r3 16 rfl h16
        exact ⟨z, by simp [hz]⟩
      have HZ := Lib.hid hz
      clear hz hr3
      go_wp2_with (refine sx_load HS rfl 3 _ rfl 0 _ _ _ rfl r3 rfl _ sh3 (.int .i64 z) HZ.out ?_)
      go_ret
      exact ⟨_, rfl, HS.out.isOnly, HS.out.code⟩
    · go_wp2_with fail
      refine (next_any q c 20 _ HS.out.code (by omega)).mono ?_
      rintro e w ⟨r3, rfl, hr3, _, ho, hcd⟩
      replace HS := Lib.hid (HS.out.draws ho hcd)
      clear ho hcd
      go_wp2_with fail
      go_ret
      exact ⟨_, rfl, HS.out.isOnly, HS.out.code⟩
end Go.Proofs.Ytlbhoepfcedkdaa
