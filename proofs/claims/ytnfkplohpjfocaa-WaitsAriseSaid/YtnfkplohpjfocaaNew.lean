/-
  The choices of a law: 'New'; a call's own blocks become the caller's; blocks from before.
-/
import Derived.Test.YtnfkplohpjfocaaDraw
import Derived.Test.YtnfkplohpjfocaaLit
set_option linter.unusedVariables false
set_option linter.unusedSimpArgs false
namespace Go.Proofs.Ytnfkplohpjfocaa
open Go.RowKit

/-- A slice of bytes that came in. -/
def BytesIn (w : World) (a : Option Addr) (len : Nat) : Prop := 0 < len → ∃ blk off, a = some ⟨blk, off, none⟩ ∧ ∀ i, i < len → ∃ n : Nat, n < 256 ∧ w.cell? ⟨blk, off + i, none⟩ = some (.int .u8 n)
/-- What 'New' comes to. -/
def NewPost (w : World) (e : Ending) (w' : World) : Prop :=
  ∃ (c : Nat) (q : CodeRow), e = .returned (.pointer (some ⟨c, 0, none⟩)) ∧ w.heap.size ≤ c ∧ Ext w w' ∧ CodesAt q w' c

theorem codes_new {w w' : World} {a : Option Addr} {n len cap c : Nat} {T : TypeId} (h : BytesIn w a len) (hn : n ≤ len) (hn2 : n ≤ 65536) (k : NewBox w w' c T #[.slice a n cap, .int .i64 0]) : CodesAt ⟨a, n, cap, []⟩ w' c := by
  refine ⟨0, T, k.box, Nat.zero_le _, hn2, fun h0 => ?_⟩
  obtain ⟨blk, off, ha, hi⟩ := h (by simp only at h0; omega)
  refine ⟨blk, off, ha, ?_, fun i hl => ?_⟩
  · obtain ⟨x, _, hx⟩ := hi 0 (by simp only at h0; omega)
    have := block_lt_of_cell (a := ⟨blk, off + 0, none⟩) hx
    have := k.at_
    simp only at *
    omega
  · obtain ⟨x, hx1, hx2⟩ := hi i (by simp only at hl; omega)
    exact ⟨x, hx1, (Below.cell (p := ⟨blk, off + i, none⟩) k.ext (block_lt_of_cell (a := ⟨blk, off + i, none⟩) hx2)).trans hx2⟩

set_option maxHeartbeats 1000000 in
theorem new_any (a : Option Addr) (len cap most : Nat) (w : World) (h : BytesIn w a len) (hlc : len ≤ cap) (hm : most ≤ 65536) (h0 : 0 < most) (hmax : cap ≤ maxLen) :
    Calls Try.prog 7 #[.slice a len cap, .int .i64 most] w (NewPost w) := by
  unfold maxLen at hmax
  have H := Lib.hid h
  by_cases hl : most < len
  · obtain ⟨blk, off, rfl, _⟩ := h (by omega)
    clear h
    go_enter Try.func7, Try.ntmps7
    go_wp2
    go_ret
    exact ⟨w.heap.size, ⟨_, most, cap, []⟩, rfl, Nat.le_refl _, (Ext.refl w).alloc _, codes_new H.out (by omega) hm (NewBox.of w _ _)⟩
  · clear h
    go_enter Try.func7, Try.ntmps7
    go_wp2
    go_ret
    exact ⟨w.heap.size, ⟨_, len, cap, []⟩, rfl, Nat.le_refl _, (Ext.refl w).alloc _, codes_new H.out (Nat.le_refl _) (by omega) (NewBox.of w _ _)⟩

/-- A call's own blocks become the caller's. -/
theorem St.call {cc : Option Nat} {q q' : CodeRow} {w0 w w' : World} {l lr : List (Nat × TypeId × List Value)} (h : St cc q w0 w l) (k : St none q' w w' lr) : St cc q w0 w' (lr ++ l) := by
  have h1 := h.ext k.isExt
  refine ⟨h1.fr, h1.codes, Bx_iff.2 ⟨?_, ?_⟩, h1.maps⟩
  · intro x hx
    rcases List.mem_append.1 hx with hx | hx
    · have := (Bx_iff.1 k.own).1 x hx
      exact ⟨Nat.le_trans h.size this.1, this.2⟩
    · exact (Bx_iff.1 h1.own).1 x hx
  · rw [List.pairwise_append]
    refine ⟨(Bx_iff.1 k.own).2, (Bx_iff.1 h1.own).2, fun x hx y hy => ?_⟩
    have h2 := ((Bx_iff.1 k.own).1 x hx).1
    have h3 := ((Bx_iff.1 h.own).1 y hy).2.lt
    omega
/-- The same where the call drew choices. -/
theorem St.callC {c : Nat} {q : CodeRow} {w0 w w' : World} {l lr : List (Nat × TypeId × List Value)} (h : St (some c) q w0 w l) (k : St (some c) q w w' lr) : St (some c) q w0 w' (lr ++ l) := by
  have h1 := h.draws k.isOnly k.code
  refine ⟨h1.fr, h1.codes, Bx_iff.2 ⟨?_, ?_⟩, h1.maps⟩
  · intro x hx
    rcases List.mem_append.1 hx with hx | hx
    · have := (Bx_iff.1 k.own).1 x hx
      exact ⟨Nat.le_trans h.size this.1, this.2⟩
    · exact (Bx_iff.1 h1.own).1 x hx
  · rw [List.pairwise_append]
    refine ⟨(Bx_iff.1 k.own).2, (Bx_iff.1 h1.own).2, fun x hx y hy => ?_⟩
    have h2 := ((Bx_iff.1 k.own).1 x hx).1
    have h3 := ((Bx_iff.1 h.own).1 y hy).2.lt
    omega
theorem BytesIn.ext {w w' : World} {a : Option Addr} {len : Nat} (h : BytesIn w a len) (k : Ext w w') : BytesIn w' a len := fun h0 => by
  obtain ⟨blk, off, ha, hi⟩ := h h0
  refine ⟨blk, off, ha, fun i hl => ?_⟩
  obtain ⟨n, hn, hc⟩ := hi i hl
  exact ⟨n, hn, (Below.cell (p := ⟨blk, off + i, none⟩) k (block_lt_of_cell (a := ⟨blk, off + i, none⟩) hc)).trans hc⟩
/-- A block from before, other than the choices. -/
structure Old (w : World) (c b : Nat) (T : TypeId) (cs : List Value) : Prop where
  box : PBox w b T cs
  ne : some c ≠ some b
theorem Old.of {w w' : World} {c b : Nat} {T : TypeId} {cs : List Value} (h : PBox w' b T cs) (hl : b < w.heap.size) (hc : w.heap.size ≤ c) : Old w' c b T cs := ⟨h, by simp; omega⟩
theorem St.atOld {w w0 : World} {c b : Nat} {q : CodeRow} {T : TypeId} {cs : List Value} {l : List (Nat × TypeId × List Value)} (h : St (some c) q w0 w l) (k : Old w0 c b T cs) : PBox w b T cs := h.old k.box k.ne
end Go.Proofs.Ytnfkplohpjfocaa
