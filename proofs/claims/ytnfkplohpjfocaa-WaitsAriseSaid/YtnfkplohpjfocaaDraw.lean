/-
  Contracts of the choices (pagemenddraw.Codes): each returns, changes the row of choices alone, and what it makes is in its range.
-/
import Derived.Test.YtnfkplohpjfocaaRows
import Derived.Test.YtnfkplohpjfocaaBase
import Derived.Outline
set_option linter.unusedVariables false
set_option linter.unusedSimpArgs false
namespace Go.Proofs.Ytnfkplohpjfocaa
open Go.RowKit

/-- What 'Next' comes to. -/
def NextPost (q : CodeRow) (c : Nat) (n : Int) (w : World) (e : Ending) (w' : World) : Prop :=
  ∃ r : Nat, e = .returned (.int .i64 r) ∧ (1 ≤ n → (r : Int) < n) ∧ (n < 1 → r = 0) ∧ Only c w w' ∧ CodesAt q w' c

set_option maxHeartbeats 400000 in
theorem next_end (q : CodeRow) (c : Nat) (n : Int) (w : World) (hcd : CodesAt q w c) (a : Option Addr) (len cap pos : Nat) (T : TypeId) (hh : w.heap[c]? = some (.cells #[.slice a len cap, .int .i64 pos] T (0, 0))) (hp : pos ≤ len) (hl : len ≤ 65536) (hz : len ≤ pos ∨ n < 1) :
    Calls Try.prog 10 #[.pointer (some ⟨c, 0, none⟩), .int .i64 n] w (NextPost q c n w) := by
  have c0 : w.cell? ⟨c, 0, none⟩ = some (.slice a len cap) := by rw [cell_of_row w c 0 _ T _ hh]; rfl
  have c1 : w.cell? ⟨c, 1, none⟩ = some (.int .i64 pos) := by rw [cell_of_row w c 1 _ T _ hh]; rfl
  have HC := Lib.hid hcd
  have fin : ∀ k, NextPost q c n w (.returned (.int .i64 0)) (w.drewN k) := fun k => ⟨0, rfl, fun h => by simpa using (by omega : 0 < n), fun _ => rfl, (Only.refl c w).drewN k, hcd.drewN k⟩
  have HF := Lib.hid fin
  clear hh hcd fin
  by_cases hz1 : len ≤ pos
  · have d1 : decide ((len : Int) ≤ (pos : Int)) = true := by simp; omega
    clear hz
    go_enter Try.func10, Try.ntmps10
    go_wp2
    go_quiet (fail)
    go_wp2
    go_ret
    exact HF.out _
  · have d1 : decide ((len : Int) ≤ (pos : Int)) = false := by simp; omega
    have hn : n < 1 := by omega
    have d2 : decide (n < 1) = true := by simpa using hn
    clear hz
    go_enter Try.func10, Try.ntmps10
    go_wp2
    go_quiet (fail)
    go_wp2
    go_ret
    exact HF.out _

theorem tmod_range (x n : Nat) (h : 1 ≤ n) : ∃ r : Nat, ((x : Int) % (n : Int)) = (r : Int) ∧ r < n := ⟨x % n, by simp, Nat.mod_lt _ (by omega)⟩

set_option maxHeartbeats 400000 in
theorem next_small (q : CodeRow) (c : Nat) (n : Nat) (w : World) (hcd : CodesAt q w c) (blk off : Nat) (len cap pos x : Nat) (T : TypeId) (hh : w.heap[c]? = some (.cells #[.slice (some ⟨blk, off, none⟩) len cap, .int .i64 pos] T (0, 0))) (hp : pos < len) (hl : len ≤ 65536)
    (hx : x < 256) (hcell : w.cell? ⟨blk, off + pos, none⟩ = some (.int .u8 x)) (hadv : CodesAt q (w.setCell ⟨c, 1, none⟩ (.int .i64 ((pos : Int) + 1))) c) (hn : 1 ≤ n) (hn2 : n ≤ 256) :
    Calls Try.prog 10 #[.pointer (some ⟨c, 0, none⟩), .int .i64 n] w (NextPost q c n w) := by
  have c0 : w.cell? ⟨c, 0, none⟩ = some (.slice (some ⟨blk, off, none⟩) len cap) := by rw [cell_of_row w c 0 _ T _ hh]; rfl
  have c1 : w.cell? ⟨c, 1, none⟩ = some (.int .i64 pos) := by rw [cell_of_row w c 1 _ T _ hh]; rfl
  have f1 : w.frozen? ⟨c, 1, none⟩ = false := frozen_of_row w c 1 _ T hh
  have fin : ∀ k, NextPost q c n w (.returned (.int .i64 ((x : Int) % (n : Int)))) ((w.setCell ⟨c, 1, none⟩ (.int .i64 ((pos : Int) + 1))).drewN k) := fun k => by
    obtain ⟨r, hr, hlt⟩ := tmod_range x n hn
    exact ⟨r, by rw [hr], fun _ => by omega, fun h => by omega, ((Only.refl c w).setCell (.inl rfl) _).drewN k, hadv.drewN k⟩
  have HF := Lib.hid fin
  clear hh hcd fin hadv
  have d1 : decide ((len : Int) ≤ (pos : Int)) = false := by simp; omega
  have d2 : decide ((n : Int) < 1) = false := by simp; omega
  have d3 : decide (256 < (n : Int)) = false := by simp; omega
  go_enter Try.func10, Try.ntmps10
  go_wp2
  go_quiet (fail)
  go_wp2
  go_quiet (fail)
  go_wp2
  go_ret
  exact HF.out _

set_option maxHeartbeats 400000 in
theorem next_large (q : CodeRow) (c : Nat) (n : Nat) (w : World) (hcd : CodesAt q w c) (blk off : Nat) (len cap pos x : Nat) (T : TypeId) (hh : w.heap[c]? = some (.cells #[.slice (some ⟨blk, off, none⟩) len cap, .int .i64 pos] T (0, 0))) (hp : pos < len) (hl : len ≤ 65536)
    (hx : x < 256) (hcell : w.cell? ⟨blk, off + pos, none⟩ = some (.int .u8 x)) (hadv : CodesAt q (w.setCell ⟨c, 1, none⟩ (.int .i64 ((pos : Int) + 1))) c) (hn : 256 < n) (hn2 : n ≤ 1000000000000)
    (hrec : ∀ w : World, CodesAt q w c → Calls Try.prog 10 #[.pointer (some ⟨c, 0, none⟩), .int .i64 256] w (NextPost q c 256 w)) :
    Calls Try.prog 10 #[.pointer (some ⟨c, 0, none⟩), .int .i64 n] w (NextPost q c n w) := by
  have c0 : w.cell? ⟨c, 0, none⟩ = some (.slice (some ⟨blk, off, none⟩) len cap) := by rw [cell_of_row w c 0 _ T _ hh]; rfl
  have c1 : w.cell? ⟨c, 1, none⟩ = some (.int .i64 pos) := by rw [cell_of_row w c 1 _ T _ hh]; rfl
  have f1 : w.frozen? ⟨c, 1, none⟩ = false := frozen_of_row w c 1 _ T hh
  have HA := Lib.hid hadv
  have HR := Lib.hid hrec
  clear hh hcd hadv hrec
  have d1 : decide ((len : Int) ≤ (pos : Int)) = false := by simp; omega
  have d2 : decide ((n : Int) < 1) = false := by simp; omega
  have d3 : decide (256 < (n : Int)) = true := by simp; omega
  go_enter Try.func10, Try.ntmps10
  go_wp2_with fail
  go_quiet (fail)
  go_wp2_with fail
  go_quiet (fail)
  go_wp2_with fail
  refine (HR.out _ (HA.out.drewN _)).mono ?_
  rintro e w1 ⟨r, rfl, hr, _, ho, hcd1⟩
  have hr2 : r < 256 := by have := hr (by omega); omega
  have HO := Lib.hid ho
  have HD := Lib.hid hcd1
  clear hr ho hcd1
  go_wp2_with fail
  go_ret
  obtain ⟨q, hq, hlt⟩ := tmod_range (256 * x + r) n (by omega)
  refine ⟨q, ?_, fun _ => by omega, fun h => by omega, Only.trans (((Only.refl c w).setCell (.inl rfl) _).drewN _) HO.out, HD.out⟩
  rw [← hq]; simp

/-- 'Next': a choice from 0 to n - 1 (0 if n is less than 1). -/
theorem next_any (q : CodeRow) (c : Nat) (n : Int) (w : World) (hcd : CodesAt q w c) (hn2 : n ≤ 1000000000000) :
    Calls Try.prog 10 #[.pointer (some ⟨c, 0, none⟩), .int .i64 n] w (NextPost q c n w) := by
  obtain ⟨a, len, cap, mps⟩ := q
  have hc0 := hcd
  have small : ∀ (n : Nat), n ≤ 256 → ∀ w : World, CodesAt ⟨a, len, cap, mps⟩ w c → Calls Try.prog 10 #[.pointer (some ⟨c, 0, none⟩), .int .i64 n] w (NextPost ⟨a, len, cap, mps⟩ c n w) := fun n hn w hcd => by
    have hc0 := hcd
    obtain ⟨pos, T, hh, hp, hl, hd⟩ := hcd
    by_cases hz : len ≤ pos ∨ (n : Int) < 1
    · exact next_end _ c n w hc0 a len cap pos T hh hp hl hz
    · obtain ⟨blk, off, ha, hnb, hi⟩ := hd (by simp only; omega)
      simp only at ha; subst ha
      obtain ⟨x, hx, hcell⟩ := hi pos (by simp only; omega)
      exact next_small _ c n w hc0 blk off len cap pos x T hh (by omega) hl hx hcell (CodesAt.advance hh (by simp only; omega) hl hd) (by omega) hn
  obtain ⟨pos, T, hh, hp, hl, hd⟩ := hcd
  by_cases hz : len ≤ pos ∨ n < 1
  · exact next_end _ c n w hc0 a len cap pos T hh hp hl hz
  · obtain ⟨m, rfl⟩ := Int.eq_ofNat_of_zero_le (show 0 ≤ n by omega)
    by_cases hm : m ≤ 256
    · exact small m hm w hc0
    · obtain ⟨blk, off, ha, hnb, hi⟩ := hd (by simp only; omega)
      simp only at ha; subst ha
      obtain ⟨x, hx, hcell⟩ := hi pos (by simp only; omega)
      exact next_large _ c m w hc0 blk off len cap pos x T hh (by omega) hl hx hcell (CodesAt.advance hh (by simp only; omega) hl hd) (by omega) (by omega) (fun w h => small 256 (Nat.le_refl _) w h)
end Go.Proofs.Ytnfkplohpjfocaa
