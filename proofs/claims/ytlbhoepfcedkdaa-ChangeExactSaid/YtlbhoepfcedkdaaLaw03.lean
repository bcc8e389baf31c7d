/-
  The choices of a law: 'New', and the sanity check of chapter 3.
-/
import Derived.Test.YtlbhoepfcedkdaaDrawC
import Derived.Test.YtlbhoepfcedkdaaChgB
import Derived.Test.YtlbhoepfcedkdaaChgC
namespace Go.Proofs.Ytlbhoepfcedkdaa
open Go.RowKit

/-- A slice of bytes that came in. -/
def BytesIn (w : World) (a : Option Addr) (len : Nat) : Prop := 0 < len → ∃ blk off, a = some ⟨blk, off, none⟩ ∧ ∀ i, i < len → ∃ n : Nat, n < 256 ∧ w.cell? ⟨blk, off + i, none⟩ = some (.int .u8 n)
/-- What 'New' comes to. -/
def NewPost (w : World) (e : Ending) (w' : World) : Prop :=
  ∃ (c : Nat) (q : CodeRow), e = .returned (.pointer (some ⟨c, 0, none⟩)) ∧ w.heap.size ≤ c ∧ Ext w w' ∧ CodesAt q w' c

theorem codes_new {w w' : World} {a : Option Addr} {n len cap c : Nat} {T : TypeId} (h : BytesIn w a len) (hn : n ≤ len) (hn2 : n ≤ 65536) (k : NewBox w w' c T #[.slice a n cap, .int .i64 0]) : CodesAt ⟨a, n, cap⟩ w' c := by
  refine ⟨0, T, k.box, Nat.zero_le _, hn2, fun h0 => ?_⟩
  obtain ⟨blk, off, ha, hi⟩ := h (by simp only at h0; omega)
  refine ⟨blk, off, ha, ?_, fun i hl => ?_⟩
  · obtain ⟨x, _, hx⟩ := hi 0 (by simp only at h0; omega)
    have := block_lt_of_cell (a := ⟨blk, off + 0, none⟩) hx
    have := k.at_
    simp only at *
    omega
  · obtain ⟨x, hx1, hx2⟩ := hi i (by simp only at hl; omega)
    exact ⟨x, hx1, (Below.cell (p := ⟨blk, off + i, none⟩) k.ext (block_lt_of_cell (a := ⟨blk, off + i, none⟩) hx2)).trans hx2⟩

set_option maxHeartbeats 1000000 in
theorem new_any (a : Option Addr) (len cap most : Nat) (w : World) (h : BytesIn w a len) (hlc : len ≤ cap) (hm : most ≤ 65536) (h0 : 0 < most) (hmax : cap ≤ maxLen) :
    Calls Try.prog 8 #[.slice a len cap, .int .i64 most] w (NewPost w) := by
  unfold maxLen at hmax
  have H := Lib.hid h
  by_cases hl : most < len
  · obtain ⟨blk, off, rfl, _⟩ := h (by omega)
    clear h
    go_enter Try.func8, Try.ntmps8
    go_wp2
    go_ret
    exact ⟨w.heap.size, ⟨_, most, cap⟩, rfl, Nat.le_refl _, (Ext.refl w).alloc _, codes_new H.out (by omega) hm (NewBox.of w _ _)⟩
  · clear h
    go_enter Try.func8, Try.ntmps8
    go_wp2
    go_ret
    exact ⟨w.heap.size, ⟨_, len, cap⟩, rfl, Nat.le_refl _, (Ext.refl w).alloc _, codes_new H.out (Nat.le_refl _) (by omega) (NewBox.of w _ _)⟩

set_option maxHeartbeats 2000000 in
theorem awake_any (w0 : World) : Calls Try.prog 7 #[] w0 fun e w' => e = .returned (.bool true) ∧ Ext w0 w' := by
  have hi := Lib.hid (fun w => ch_inverse ⟨0, 0, false, ⟨#[]⟩, true, ⟨#[120]⟩⟩ w)
  have hv := Lib.hid (fun w => ch_valid ⟨0, 0, true, ⟨#[120]⟩, false, ⟨#[]⟩⟩ w)
  have hok : Chg.ok ⟨0, 0, true, ⟨#[120]⟩, false, ⟨#[]⟩⟩ = true := by simp [Chg.ok, pagedB, cellOkB, ByteArray.size]
  rw [hok] at hv
  clear hok
  unfold Chg.arr inverseF at hi
  unfold Chg.arr at hv
  dsimp only at hi hv
  have HS : Hid (St none default w0 w0 []) := St.start w0
  go_enter Try.func7, Try.ntmps7
  go_wp2_with (first | (first | (refine is_load rfl ?_; first | (refine sx_load HS rfl _ _ rfl 0 _ _ _ rfl _ rfl _ (by first | with_reducible exact sh3 | with_reducible exact sh4 | with_reducible exact sh9 | with_reducible exact sh39) _ rfl ?_) | (refine sx_loads HS rfl 24 _ rfl 0 _ _ _ rfl _ rfl 2 sh24 [_, _] rfl ⟨rfl, rfl, trivial⟩ ?_) | (refine sx_loads HS rfl 29 _ rfl 0 _ _ _ rfl _ rfl 6 sh29 [_, _, _, _, _, _] rfl ⟨rfl, rfl, rfl, rfl, rfl, rfl, trivial⟩ ?_)) | (refine is_store rfl ?_; first | (refine sx_store HS rfl _ _ _ rfl rfl 0 _ _ _ rfl _ rfl (by first | with_reducible exact sh3 | with_reducible exact sh4 | with_reducible exact sh9 | with_reducible exact sh39) _ rfl rfl rfl ?_; clear HS; intro w HS) | (refine sx_stores HS rfl 24 _ _ rfl rfl 0 _ _ _ rfl _ rfl 2 sh24 [_, _] rfl rfl rfl rfl ?_; clear HS; intro w HS) | (refine sx_stores HS rfl 29 _ _ rfl rfl 0 _ _ _ rfl _ rfl 6 sh29 [_, _, _, _, _, _] rfl rfl rfl rfl ?_; clear HS; intro w HS)) | (refine sx_box HS rfl _ _ rfl _ rfl ?_; clear HS; intro w bk HS) | (refine is_alloc rfl ?_; first | (refine sx_alloc HS rfl 24 rfl _ zr24 ?_; clear HS; intro w bk HS) | (refine sx_alloc HS rfl 29 rfl _ zr29 ?_; clear HS; intro w bk HS))) | (go_at_call 17; refine (hi.out _).mono ?_; rintro e w ⟨rfl, hx⟩; replace HS := Lib.hid (HS.out.ext hx); clear hx) | (go_at_call 15; refine (hv.out _).mono ?_; rintro e w ⟨rfl, hx⟩; replace HS := Lib.hid (HS.out.ext hx); clear hx))
  go_ret
  exact ⟨rfl, HS.out.isExt⟩
end Go.Proofs.Ytlbhoepfcedkdaa
