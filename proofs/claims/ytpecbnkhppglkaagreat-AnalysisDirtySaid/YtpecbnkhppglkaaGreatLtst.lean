/-
  checkpoint.Latest at a log of one entry that is no checkpoint: there is none.
-/
import Derived.RangeFuncNested
import Derived.RangeFuncBound
import Derived.RangeFuncCalls
import Derived.RangeFuncLeaves
import Derived.Shelf.Abstract
import Derived.Shelf.RegionOpen
import Derived.WalkKit
import Derived.OwnWalkIn
import Derived.TacticsInMore
import Derived.LoopNIn
import Derived.LoopIn
import Derived.Test.YtpecbnkhppglkaaGreatChecked
set_option linter.unusedVariables false
namespace Go.Proofs.YtpecbnkhppglkaaGreat
open Go.RowKit Go.Shelf
attribute [local go_sem] Oper.semAt_some
/-- the entry -/
def entA : Value := .agg #[.int .i64 1, .int .i64 1, .int .i64 1, .int .i64 0, .int .i64 0, .int .i64 0, .int .i64 2, .int .i64 3, .bool false, .string ⟨#[]⟩, .bool false, .string ⟨#[]⟩, .string ⟨#[]⟩]
/-- the entry's cells -/
def entV : List Value := [.int .i64 1, .int .i64 1, .int .i64 1, .int .i64 0, .int .i64 0, .int .i64 0, .int .i64 2, .int .i64 3, .bool false, .string ⟨#[]⟩, .bool false, .string ⟨#[]⟩, .string ⟨#[]⟩]
set_option maxHeartbeats 1000000 in
theorem back_in (F : Fence) (n : Nat) (h5 : F.fn 356) (hro : F.round = none) (a : Option Addr) (len cap : Nat) (w : World) :
    CallsIn F n Tryz.prog 356 #[.slice a len cap] w fun e w' => e = .returned (.func (.func 414) #[] #[.pointer (some ⟨w.heap.size, 0, none⟩)]) ∧ w' = w.alloc (.cells #[.slice a len cap] 36) := by
  refine callsIn_of_wp Tryz.func356 rfl h5 ?_ hro
  simp only [Tryz.ntmps356, List.size_toArray, List.length_cons, List.length_nil, Nat.reduceAdd, Nat.reduceSub, Array.replicate_succ, Array.replicate_zero, List.push_toArray, List.append_toArray, List.nil_append, List.cons_append]
  gi_wp2
  go_ret
  exact ⟨rfl, rfl⟩
set_option maxRecDepth 100000 in
set_option maxHeartbeats 4000000 in
theorem back1_in (F : Fence) (n : Nat) (h7 : F.fn 414) (hro : F.round = none) (hn : 1 ≤ n) (l Bs n₀ b off cap : Nat) (hb : b < n₀) (J Jx : List Unit → World → Prop)
    (hY : ∀ pre x W, J pre W → pre.length < 1 → YieldAt F (n - 1) Tryz.prog l #[.int .i64 0, entA] W fun e W' =>
      (e = .returned (.bool true) ∧ J (pre ++ [x]) W' ∧ Below n₀ W W') ∨ (e = .returned (.bool false) ∧ Jx (pre ++ [x]) W'))
    (W : World) (hBs : W.cell? ⟨Bs, 0, none⟩ = some (.slice (some ⟨b, off, none⟩) 1 cap)) (hc : ∀ (j : Nat) v, entV[j]? = some v → W.cell? ⟨b, off + j, none⟩ = some v) (h0 : J [] W) :
    CallsIn F n Tryz.prog 414 #[.func (.yield l) #[] #[], .pointer (some ⟨Bs, 0, none⟩)] W fun e W' => (∃ v, e = .returned v) ∧
      ((∃ ys, ys = [()] ∧ J ys W') ∨ (∃ pre, True ∧ Jx pre W')) := by
  refine callsIn_of_wp Tryz.func414 rfl h7 ?_ hro
  simp only [Tryz.ntmps414, List.size_toArray, List.length_cons, List.length_nil, Nat.reduceAdd, Nat.reduceSub, Array.replicate_succ, Array.replicate_zero, List.push_toArray, List.append_toArray, List.nil_append, List.cons_append]
  gi_wp2
  gi_loopw [3] (fun i wr => (i = .int .i64 0 ∧ wr = W) ∨ (i = .int .i64 (-1) ∧ J [()] wr))
    (fun i _ => (intOf i + 1).toNat)
  case atStart => exact .inl ⟨rfl, rfl⟩
  case round =>
    rcases hrel with ⟨rfl, rfl⟩ | ⟨rfl, hJ⟩
    · obtain ⟨fn, tmps, assign, body, hy, hR⟩ := hY [] () wr h0 (by decide)
      dsimp only [entA] at hy
      have c0 : wr.cell? ⟨b, off, none⟩ = some (.int .i64 1) := hc 0 _ rfl
      have c1 : wr.cell? ⟨b, off + 1, none⟩ = some (.int .i64 1) := hc 1 _ rfl
      have c2 : wr.cell? ⟨b, off + 2, none⟩ = some (.int .i64 1) := hc 2 _ rfl
      have c3 : wr.cell? ⟨b, off + 3, none⟩ = some (.int .i64 0) := hc 3 _ rfl
      have c4 : wr.cell? ⟨b, off + 4, none⟩ = some (.int .i64 0) := hc 4 _ rfl
      have c5 : wr.cell? ⟨b, off + 5, none⟩ = some (.int .i64 0) := hc 5 _ rfl
      have c6 : wr.cell? ⟨b, off + 6, none⟩ = some (.int .i64 2) := hc 6 _ rfl
      have c7 : wr.cell? ⟨b, off + 7, none⟩ = some (.int .i64 3) := hc 7 _ rfl
      have c8 : wr.cell? ⟨b, off + 8, none⟩ = some (.bool false) := hc 8 _ rfl
      have c9 : wr.cell? ⟨b, off + 9, none⟩ = some (.string ⟨#[]⟩) := hc 9 _ rfl
      have c10 : wr.cell? ⟨b, off + 10, none⟩ = some (.bool false) := hc 10 _ rfl
      have c11 : wr.cell? ⟨b, off + 11, none⟩ = some (.string ⟨#[]⟩) := hc 11 _ rfl
      have c12 : wr.cell? ⟨b, off + 12, none⟩ = some (.string ⟨#[]⟩) := hc 12 _ rfl
      clear hc
      gi_wp2
      refine hR.mono ?_
      rintro e W3 (⟨rfl, hJ3, hk3⟩ | ⟨rfl, hJx3⟩)
      · gi_wp2
        go_roundw
        case rel => exact .inr ⟨rfl, hJ3⟩
        case measure => simp [intOf]
      · gi_wp2
        refine bodyPost_ret (results_none rfl _ _ _) rfl ?_
        exact ⟨⟨_, rfl⟩, .inr ⟨_, trivial, hJx3⟩⟩
    · gi_wp2
      go_end0
      exact ⟨⟨_, rfl⟩, .inl ⟨_, rfl, hJ⟩⟩
theorem back_stops (F : Fence) (n : Nat) (h7 : F.fn 414) (hro : F.round = none) (hn : 1 ≤ n) (Bs n₀ b off cap : Nat) (hb : b < n₀) (w : World) (hBs : Bs < w.heap.size) (hn₀ : n₀ ≤ w.heap.size)
    (hs : w.cell? ⟨Bs, 0, none⟩ = some (.slice (some ⟨b, off, none⟩) 1 cap)) (hc : ∀ (j : Nat) v, entV[j]? = some v → w.cell? ⟨b, off + j, none⟩ = some v) :
    SeqStopsK F n Tryz.prog 414 #[.pointer (some ⟨Bs, 0, none⟩)] (fun _ : Unit => #[.int .i64 0, entA]) (Below n₀) (fun ys => ys = [()]) (fun _ => True) 1 w := fun l J Jx W hW _ _ hY h0 =>
  back1_in F n h7 hro hn l Bs n₀ b off cap hb J Jx hY W ((hW.cell (p := ⟨Bs, 0, none⟩) hBs).trans hs) (fun j v hv => (hW.cell (p := ⟨b, off + j, none⟩) (by show b < _; omega)).trans (hc j v hv)) h0
theorem four (w : World) (A B C D : Obj) : ((((w.alloc A).alloc B).alloc C).alloc D).heap[w.heap.size]? = some A ∧ ((((w.alloc A).alloc B).alloc C).alloc D).heap[w.heap.size + 1]? = some B ∧ ((((w.alloc A).alloc B).alloc C).alloc D).heap[w.heap.size + 1 + 1]? = some C ∧ ((((w.alloc A).alloc B).alloc C).alloc D).heap[w.heap.size + 1 + 1 + 1]? = some D := by
  have old : ∀ (W : World) (o x : Obj) (k : Nat), W.heap[k]? = some x → (W.alloc o).heap[k]? = some x := fun W o x k h => (Below.heap_alloc W o k (Array.getElem?_eq_some_iff.1 h).1).trans h
  have a1 := World.alloc_heap_new w A
  have a2 := World.alloc_heap_new (w.alloc A) B
  have a3 := World.alloc_heap_new ((w.alloc A).alloc B) C
  have a4 := World.alloc_heap_new (((w.alloc A).alloc B).alloc C) D
  simp only [World.size_alloc] at a2 a3 a4
  exact ⟨old _ _ _ _ (old _ _ _ _ (old _ _ _ _ a1)), old _ _ _ _ (old _ _ _ _ a2), old _ _ _ _ a3, a4⟩
set_option maxRecDepth 100000 in
set_option maxHeartbeats 4000000 in
theorem latest_in (F : Fence) (n : Nat) (hf : ∀ f, F.fn f) (hro : F.round = none) (hn : 3 ≤ n) (b off cap : Nat) (w : World) (hc : ∀ (j : Nat) v, entV[j]? = some v → w.cell? ⟨b, off + j, none⟩ = some v)
    (hV : ∀ W, (∀ (j : Nat) v, entV[j]? = some v → W.cell? ⟨b, off + j, none⟩ = some v) → CallsIn F (n - 1) Tryz.prog 120 #[.agg #[.int .i64 1, .slice (some ⟨b, off, none⟩) 1 cap, .int .i64 1]] W fun e W' => e = .returned (.bool true) ∧ Below W.heap.size W W') :
    CallsIn F n Tryz.prog 261 #[.agg #[.int .i64 1, .slice (some ⟨b, off, none⟩) 1 cap, .int .i64 1]] w fun e W' => e = .returned (.tuple #[.agg #[.int .i64 0, .int .i64 0, .slice none 0 0, .slice none 0 0, .slice none 0 0], .int .i64 0, .bool false]) ∧ Below w.heap.size w W' := by
  have h1 : 1 ≤ n := by omega
  refine callsIn_of_wp_marks Tryz.func261 rfl (hf _) ?_ hro
  simp only [Tryz.ntmps261, List.size_toArray, List.length_cons, List.length_nil, Nat.reduceAdd, Nat.reduceSub, Array.replicate_succ, Array.replicate_zero, List.push_toArray, List.append_toArray, List.nil_append, List.cons_append]
  have hlt : b < w.heap.size := block_lt_of_cell (a := ⟨b, off + 0, none⟩) (hc 0 _ rfl)
  have hcw : ∀ W, Below w.heap.size w W → ∀ (j : Nat) v, entV[j]? = some v → W.cell? ⟨b, off + j, none⟩ = some v := fun W hW j v hv => (hW.cell (p := ⟨b, off + j, none⟩) hlt).trans (hc j v hv)
  have hF := four w (.cells #[.int .i64 1, .slice (some ⟨b, off, none⟩) 1 cap, .int .i64 1] 38) (.cells #[.int .i64 0, .int .i64 0, .slice none 0 0, .slice none 0 0, .slice none 0 0] 313) (.cells #[.int .i64 0] 3) (.cells #[.bool false] 4)
  gi_wp2_with (first
    | (gi_at_call 120; refine (hV _ (hcw _ (((((Below.refl _ w).alloc (Nat.le_refl _) _).alloc (by simp) _).alloc (by simp; omega) _).alloc (by simp; omega) _))).mono ?_; rintro e w1 ⟨rfl, hB1⟩; have hs1 : w1.cell? ⟨w.heap.size, 1, none⟩ = some (.slice (some ⟨b, off, none⟩) 1 cap) := (hB1.cell (p := ⟨w.heap.size, 1, none⟩) (by simp; omega)).trans (cell_of_row _ _ _ _ _ _ hF.1))
    | (gi_at_call 356; refine (back_in F (n - 1) (hf _) hro _ _ _ _).mono ?_; rintro e w2 ⟨rfl, rfl⟩))
  have hszw : w.heap.size + 4 ≤ w1.heap.size := by have := hB1.size; simp at this; omega
  have bN := Boxed.new w1 36 (.slice (some ⟨b, off, none⟩) 1 cap)
  have hBW : Below w.heap.size w w1 := (((((Below.refl _ w).alloc (Nat.le_refl _) _).alloc (by simp) _).alloc (by simp; omega) _).alloc (by simp; omega) _).trans (hB1.mono (by simp; omega))
  have hB0 : Below w.heap.size w (w1.alloc (.cells #[.slice (some ⟨b, off, none⟩) 1 cap] 36)) := hBW.alloc (by omega) _
  have old : ∀ (k : Nat) (x : Obj), k < w.heap.size + 4 → ((((w.alloc (.cells #[.int .i64 1, .slice (some ⟨b, off, none⟩) 1 cap, .int .i64 1] 38)).alloc (.cells #[.int .i64 0, .int .i64 0, .slice none 0 0, .slice none 0 0, .slice none 0 0] 313)).alloc (.cells #[.int .i64 0] 3)).alloc (.cells #[.bool false] 4)).heap[k]? = some x → (w1.alloc (.cells #[.slice (some ⟨b, off, none⟩) 1 cap] 36)).heap[k]? = some x := fun k x hk h => (Below.heap_alloc w1 _ k (by omega)).trans ((hB1.block k (by simp; omega)).trans h)
  have r1 := old _ _ (by omega) hF.2.1
  have r2 := old _ _ (by omega) hF.2.2.1
  have r3 := old _ _ (by omega) hF.2.2.2
  have hsz : (w1.alloc (.cells #[.slice (some ⟨b, off, none⟩) 1 cap] 36)).heap.size = w1.heap.size + 1 := by simp
  obtain ⟨W0, hW0⟩ : ∃ W0, w1.alloc (.cells #[.slice (some ⟨b, off, none⟩) 1 cap] 36) = W0 := ⟨_, rfl⟩
  rw [hW0] at bN hB0 hsz r1 r2 r3 ⊢
  clear hW0 old hF hs1
  refine wpIn_rangeFunc_ownH hro h1 (gf := 414) (lb := #[.pointer (some ⟨w1.heap.size, 0, none⟩)]) rfl (hf _) (enters_of Tryz.func414 (by kernel_rfl) rfl)
    (back_stops F (n - 1) (hf _) hro (by omega) w1.heap.size w.heap.size b off cap hlt W0 (by omega) (by omega) bN.cell (hcw W0 hB0)) belowK_t (belowK_b (by omega)) (Below.refl _ _) (fun _ => rfl)
    (fun pre W => Below W0.heap.size W0 W) (fun _ _ _ => False) (ownFrom_below (Nat.le_refl _) (Nat.le_refl _)) (fun _ => Own.from (fun _ _ _ _ hs _ _ => hs) _) (Below.refl _ _)
    (fun x a' W => ∃ Bx, W.cell? ⟨Bx, 1, none⟩ = some (.int .i64 1) ∧ a' = { tmps := #[.agg #[.int .i64 1, .slice (some ⟨b, off, none⟩) 1 cap, .int .i64 1], .pointer (some ⟨w.heap.size, 0, none⟩), .pointer (some ⟨w.heap.size + 1, 0, none⟩), .pointer (some ⟨w.heap.size + 1 + 1, 0, none⟩), .pointer (some ⟨w.heap.size + 1 + 1 + 1, 0, none⟩), undef, .pointer (some ⟨Bx, 0, none⟩), undef, undef, .agg #[.int .i64 1, .slice (some ⟨b, off, none⟩) 1 cap, .int .i64 1], .bool true, .bool false, undef, .pointer (some ⟨w.heap.size, 1, none⟩), .slice (some ⟨b, off, none⟩) 1 cap, .func (.func 414) #[] #[.pointer (some ⟨w1.heap.size, 0, none⟩)], .int .i64 0, entA, undef, undef, undef, undef, undef, undef, undef, undef, undef, undef, undef, undef, undef, undef, undef], defers := [] })
    (fun x a' => Own.from (fun s A B row hs hg hr => by obtain ⟨Bx, h1, h2⟩ := hs; exact ⟨Bx, cell_kept h1 hg hr, h2⟩) _) ?assign ?body ?done ?stop
  case assign =>
    intro l pre x W K hI hK
    dsimp only [entA]
    gi_wp2
    exact hK _ _ ((KeepsOthers.alloc _ _).from _) ((Below.refl _ W).alloc (by have := hI.size; omega) _) (hI.alloc hI.size _) ⟨W.heap.size, cell_of_row _ _ 1 _ _ _ (World.alloc_heap_new _ _), rfl⟩
  case body =>
    rintro l pre x a' W hl ⟨r, hr⟩ hI ⟨Bx, hBx, rfl⟩ hlt2
    gi_wp2
    exact ⟨KeepsFrom.refl _ _, Below.refl _ _, hI⟩
  case done =>
    rintro D ys W hD rfl hI hK
    have q1 := (hI.block (w.heap.size + 1) (by omega)).trans r1
    have q2 := (hI.block (w.heap.size + 1 + 1) (by omega)).trans r2
    have q3 := (hI.block (w.heap.size + 1 + 1 + 1) (by omega)).trans r3
    have g0 : W.cell? ⟨w.heap.size + 1, 0, none⟩ = some (.int .i64 0) := cell_of_row _ _ 0 _ _ _ q1
    have f0 : W.frozen? ⟨w.heap.size + 1, 0, none⟩ = false := frozen_of_row _ _ 0 _ _ q1
    have g1 : W.cell? ⟨w.heap.size + 1, 1, none⟩ = some (.int .i64 0) := cell_of_row _ _ 1 _ _ _ q1
    have f1 : W.frozen? ⟨w.heap.size + 1, 1, none⟩ = false := frozen_of_row _ _ 1 _ _ q1
    have g2 : W.cell? ⟨w.heap.size + 1, 2, none⟩ = some (.slice none 0 0) := cell_of_row _ _ 2 _ _ _ q1
    have f2 : W.frozen? ⟨w.heap.size + 1, 2, none⟩ = false := frozen_of_row _ _ 2 _ _ q1
    have g3 : W.cell? ⟨w.heap.size + 1, 3, none⟩ = some (.slice none 0 0) := cell_of_row _ _ 3 _ _ _ q1
    have f3 : W.frozen? ⟨w.heap.size + 1, 3, none⟩ = false := frozen_of_row _ _ 3 _ _ q1
    have g4 : W.cell? ⟨w.heap.size + 1, 4, none⟩ = some (.slice none 0 0) := cell_of_row _ _ 4 _ _ _ q1
    have f4 : W.frozen? ⟨w.heap.size + 1, 4, none⟩ = false := frozen_of_row _ _ 4 _ _ q1
    have g5 : W.cell? ⟨w.heap.size + 1 + 1, 0, none⟩ = some (.int .i64 0) := cell_of_row _ _ 0 _ _ _ q2
    have f5 : W.frozen? ⟨w.heap.size + 1 + 1, 0, none⟩ = false := frozen_of_row _ _ 0 _ _ q2
    have g6 : W.cell? ⟨w.heap.size + 1 + 1 + 1, 0, none⟩ = some (.bool false) := cell_of_row _ _ 0 _ _ _ q3
    have f6 : W.frozen? ⟨w.heap.size + 1 + 1 + 1, 0, none⟩ = false := frozen_of_row _ _ 0 _ _ q3
    gi_wp2
    have sc : ∀ (W : World) (q : Addr) (u : Value), W.cell? q = some u → ∀ p, (W.setCell q u).cell? p = W.cell? p := fun W q u h p => by
      by_cases hp : q = p
      · subst hp; rw [World.cell?_setCell_same W q u h, h]
      · exact World.cell?_setCell_other W q p u hp
    have t0 : ∀ p, (W.setCell ⟨w.heap.size + 1, 0, none⟩ (.int .i64 0)).cell? p = W.cell? p := sc W _ _ g0
    have t1 : ∀ p, ((W.setCell ⟨w.heap.size + 1, 0, none⟩ (.int .i64 0)).setCell ⟨w.heap.size + 1, 1, none⟩ (.int .i64 0)).cell? p = W.cell? p := fun p => (sc _ _ _ ((t0 _).trans g1) p).trans (t0 p)
    have t2 : ∀ p, (((W.setCell ⟨w.heap.size + 1, 0, none⟩ (.int .i64 0)).setCell ⟨w.heap.size + 1, 1, none⟩ (.int .i64 0)).setCell ⟨w.heap.size + 1, 2, none⟩ (.slice none 0 0)).cell? p = W.cell? p := fun p => (sc _ _ _ ((t1 _).trans g2) p).trans (t1 p)
    have t3 : ∀ p, ((((W.setCell ⟨w.heap.size + 1, 0, none⟩ (.int .i64 0)).setCell ⟨w.heap.size + 1, 1, none⟩ (.int .i64 0)).setCell ⟨w.heap.size + 1, 2, none⟩ (.slice none 0 0)).setCell ⟨w.heap.size + 1, 3, none⟩ (.slice none 0 0)).cell? p = W.cell? p := fun p => (sc _ _ _ ((t2 _).trans g3) p).trans (t2 p)
    have t4 : ∀ p, (((((W.setCell ⟨w.heap.size + 1, 0, none⟩ (.int .i64 0)).setCell ⟨w.heap.size + 1, 1, none⟩ (.int .i64 0)).setCell ⟨w.heap.size + 1, 2, none⟩ (.slice none 0 0)).setCell ⟨w.heap.size + 1, 3, none⟩ (.slice none 0 0)).setCell ⟨w.heap.size + 1, 4, none⟩ (.slice none 0 0)).cell? p = W.cell? p := fun p => (sc _ _ _ ((t3 _).trans g4) p).trans (t3 p)
    have t5 : ∀ p, ((((((W.setCell ⟨w.heap.size + 1, 0, none⟩ (.int .i64 0)).setCell ⟨w.heap.size + 1, 1, none⟩ (.int .i64 0)).setCell ⟨w.heap.size + 1, 2, none⟩ (.slice none 0 0)).setCell ⟨w.heap.size + 1, 3, none⟩ (.slice none 0 0)).setCell ⟨w.heap.size + 1, 4, none⟩ (.slice none 0 0)).setCell ⟨w.heap.size + 1 + 1, 0, none⟩ (.int .i64 0)).cell? p = W.cell? p := fun p => (sc _ _ _ ((t4 _).trans g5) p).trans (t4 p)
    have t6 : ∀ p, (((((((W.setCell ⟨w.heap.size + 1, 0, none⟩ (.int .i64 0)).setCell ⟨w.heap.size + 1, 1, none⟩ (.int .i64 0)).setCell ⟨w.heap.size + 1, 2, none⟩ (.slice none 0 0)).setCell ⟨w.heap.size + 1, 3, none⟩ (.slice none 0 0)).setCell ⟨w.heap.size + 1, 4, none⟩ (.slice none 0 0)).setCell ⟨w.heap.size + 1 + 1, 0, none⟩ (.int .i64 0)).setCell ⟨w.heap.size + 1 + 1 + 1, 0, none⟩ (.bool false)).cell? p = W.cell? p := fun p => (sc _ _ _ ((t5 _).trans g6) p).trans (t5 p)
    have ko : KeepsOthers W (((((((W.setCell ⟨w.heap.size + 1, 0, none⟩ (.int .i64 0)).setCell ⟨w.heap.size + 1, 1, none⟩ (.int .i64 0)).setCell ⟨w.heap.size + 1, 2, none⟩ (.slice none 0 0)).setCell ⟨w.heap.size + 1, 3, none⟩ (.slice none 0 0)).setCell ⟨w.heap.size + 1, 4, none⟩ (.slice none 0 0)).setCell ⟨w.heap.size + 1 + 1, 0, none⟩ (.int .i64 0)).setCell ⟨w.heap.size + 1 + 1 + 1, 0, none⟩ (.bool false)) := ((((((KeepsOthers.setCell W _ _).trans (KeepsOthers.setCell _ _ _)).trans (KeepsOthers.setCell _ _ _)).trans (KeepsOthers.setCell _ _ _)).trans (KeepsOthers.setCell _ _ _)).trans (KeepsOthers.setCell _ _ _)).trans (KeepsOthers.setCell _ _ _)
    have kb : Below w.heap.size w (((((((W.setCell ⟨w.heap.size + 1, 0, none⟩ (.int .i64 0)).setCell ⟨w.heap.size + 1, 1, none⟩ (.int .i64 0)).setCell ⟨w.heap.size + 1, 2, none⟩ (.slice none 0 0)).setCell ⟨w.heap.size + 1, 3, none⟩ (.slice none 0 0)).setCell ⟨w.heap.size + 1, 4, none⟩ (.slice none 0 0)).setCell ⟨w.heap.size + 1 + 1, 0, none⟩ (.int .i64 0)).setCell ⟨w.heap.size + 1 + 1 + 1, 0, none⟩ (.bool false)) := (((((((hB0.trans (hI.mono (by omega))).setCell (p := ⟨w.heap.size + 1, 0, none⟩) (by simp only; omega) _).setCell (p := ⟨w.heap.size + 1, 1, none⟩) (by simp only; omega) _).setCell (p := ⟨w.heap.size + 1, 2, none⟩) (by simp only; omega) _).setCell (p := ⟨w.heap.size + 1, 3, none⟩) (by simp only; omega) _).setCell (p := ⟨w.heap.size + 1, 4, none⟩) (by simp only; omega) _).setCell (p := ⟨w.heap.size + 1 + 1, 0, none⟩) (by simp only; omega) _).setCell (p := ⟨w.heap.size + 1 + 1 + 1, 0, none⟩) (by simp only; omega) _
    generalize (((((((W.setCell ⟨w.heap.size + 1, 0, none⟩ (.int .i64 0)).setCell ⟨w.heap.size + 1, 1, none⟩ (.int .i64 0)).setCell ⟨w.heap.size + 1, 2, none⟩ (.slice none 0 0)).setCell ⟨w.heap.size + 1, 3, none⟩ (.slice none 0 0)).setCell ⟨w.heap.size + 1, 4, none⟩ (.slice none 0 0)).setCell ⟨w.heap.size + 1 + 1, 0, none⟩ (.int .i64 0)).setCell ⟨w.heap.size + 1 + 1 + 1, 0, none⟩ (.bool false)) = WW at t6 ko kb ⊢
    have hK2 := ko.same D _ hK rfl
    have z0 := cell_kept ((t6 ⟨w.heap.size + 1, 0, none⟩).trans g0) (grownBy_putObj' _ D (.deferred none)) (fun r e => by cases e; exact ⟨_, hK2, rfl⟩)
    have z1 := cell_kept ((t6 ⟨w.heap.size + 1, 1, none⟩).trans g1) (grownBy_putObj' _ D (.deferred none)) (fun r e => by cases e; exact ⟨_, hK2, rfl⟩)
    have z2 := cell_kept ((t6 ⟨w.heap.size + 1, 2, none⟩).trans g2) (grownBy_putObj' _ D (.deferred none)) (fun r e => by cases e; exact ⟨_, hK2, rfl⟩)
    have z3 := cell_kept ((t6 ⟨w.heap.size + 1, 3, none⟩).trans g3) (grownBy_putObj' _ D (.deferred none)) (fun r e => by cases e; exact ⟨_, hK2, rfl⟩)
    have z4 := cell_kept ((t6 ⟨w.heap.size + 1, 4, none⟩).trans g4) (grownBy_putObj' _ D (.deferred none)) (fun r e => by cases e; exact ⟨_, hK2, rfl⟩)
    have z5 := cell_kept ((t6 ⟨w.heap.size + 1 + 1, 0, none⟩).trans g5) (grownBy_putObj' _ D (.deferred none)) (fun r e => by cases e; exact ⟨_, hK2, rfl⟩)
    have z6 := cell_kept ((t6 ⟨w.heap.size + 1 + 1 + 1, 0, none⟩).trans g6) (grownBy_putObj' _ D (.deferred none)) (fun r e => by cases e; exact ⟨_, hK2, rfl⟩)
    refine ⟨by simp, .inl ⟨_, _, rfl, run_takeDeferred hK2, ?_⟩⟩
    refine ⟨.tuple #[.agg #[.int .i64 0, .int .i64 0, .slice none 0 0, .slice none 0 0, .slice none 0 0], .int .i64 0, .bool false], ?_, rfl, kb.trans (belowK_b (w := w) (Nat.le_refl _) _ D _ _ (by omega) hK2 rfl rfl)⟩
    simp [results, Tryz.f261, go_sem, z0, z1, z2, z3, z4, z5, z6]
  case stop =>
    rintro D c pre W _ _ h _
    exact h.elim
end Go.Proofs.YtpecbnkhppglkaaGreat
