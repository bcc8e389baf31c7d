/-
  Rows of equal rows: arrays and slices that are written out with structs as their parts; and loads of blocks that were there before. No function of the program is named here.
-/
import Derived.Test.YtnfkplohpjfocaaGreatSxA
import Derived.Great.BuildSlice
import Derived.Test.YtnfkplohpjfocaaGreatRows
import Derived.Test.YtnfkplohpjfocaaGreatBaA
import Derived.Outline
set_option linter.unusedVariables false
set_option linter.unusedSimpArgs false
namespace Go.Proofs.YtnfkplohpjfocaaGreat
open Go.RowKit
theorem cellsAt_of {cs : List Value} : ∀ {vs : List Value} {off : Nat}, (∀ (j : Nat) (v : Value), vs[j]? = some v → cs[off + j]? = some v) → cellsAt cs off vs
  | [], _, _ => trivial
  | v :: vs, off, h => ⟨h 0 v rfl, cellsAt_of fun j u hj => by
    have := h (j + 1) u (by simpa using hj)
    rw [show off + 1 + j = off + (j + 1) by omega]
    exact this⟩
theorem flatten_at {s : Nat} : ∀ {rows : List (List Value)}, (∀ r ∈ rows, r.length = s) → ∀ {k : Nat} {r : List Value}, rows[k]? = some r → ∀ j v, r[j]? = some v → rows.flatten[k * s + j]? = some v
  | [], _, k, r, h, _, _, _ => by simp at h
  | x :: rows, hl, 0, r, h, j, v, hj => by
    simp at h
    subst h
    have hx := hl x (by simp)
    have hlt := (List.getElem?_eq_some_iff.1 hj).1
    simp only [List.flatten_cons]
    rw [List.getElem?_append_left (by omega), show 0 * s + j = j by omega]
    exact hj
  | x :: rows, hl, k + 1, r, h, j, v, hj => by
    have hx := hl x (by simp)
    have ih := flatten_at (rows := rows) (fun y hy => hl y (List.mem_cons_of_mem _ hy)) (k := k) (by simpa using h) j v hj
    simp only [List.flatten_cons]
    have e : (k + 1) * s + j = x.length + (k * s + j) := by rw [hx, Nat.succ_mul]; omega
    rw [e, List.getElem?_append_right (by omega), Nat.add_sub_cancel_left]
    exact ih
theorem cellsAt_flat {s : Nat} {rows : List (List Value)} (hl : ∀ r ∈ rows, r.length = s) {k : Nat} {r : List Value} (h : rows[k]? = some r) : cellsAt rows.flatten (k * s) r :=
  cellsAt_of (flatten_at hl h)
theorem flatten_len {s : Nat} : ∀ {rows : List (List Value)}, (∀ r ∈ rows, r.length = s) → rows.flatten.length = rows.length * s
  | [], _ => by simp
  | x :: rows, hl => by
    have ih := flatten_len (rows := rows) (fun y hy => hl y (List.mem_cons_of_mem _ hy))
    simp only [List.flatten_cons, List.length_append, ih, hl x (by simp), List.length_cons, Nat.succ_mul]
    omega
/-- The parts of a literal: one after the other. -/
def partsOf (rows : List (List Value)) : List (Nat × Value) := ((rows.map fun r => Value.agg r.toArray).zipIdx 0).map fun x => (x.2, x.1)
theorem flat_cells (rows : List (List Value)) : ((rows.map fun r => Value.agg r.toArray).flatMap fun v => v.cells.toList) = rows.flatten := by
  induction rows with
  | nil => rfl
  | cons x rows ih => simp only [List.map_cons, List.flatMap_cons, List.flatten_cons, ih]; rfl
section
variable {P : Program}
theorem built_rows (t e : TypeId) (n s : Nat) (hs : 0 < s) (hu : P.underlying t = some (.array n e)) (hz : ((P.info? t).bind (·.zero)).map (·.cells.size) = some (n * s)) (he : (P.info? e).map (·.size) = some s)
    (rows : List (List Value)) (hn : rows.length = n) (hr : ∀ r ∈ rows, r.length = s) : P.built t (partsOf rows) = some rows.flatten.toArray := by
  unfold Program.built
  cases hit : P.info? t with
  | none => rw [hit] at hz; cases hz
  | some it =>
    rw [hit] at hz
    cases hzz : it.zero with
    | none => simp [hzz] at hz
    | some z =>
      simp [hzz] at hz
      cases hie : P.info? e with
      | none => rw [hie] at he; cases he
      | some ie =>
        rw [hie] at he
        simp at he
        subst he
        simp only [hu, hzz, hie]
        have := Great.fill_whole hs (rows.map fun r => Value.agg r.toArray) z.cells (fun v hv => by
          obtain ⟨r, hr', rfl⟩ := List.mem_map.1 hv
          show r.toArray.size = ie.size
          simpa using hr r hr') (by rw [List.length_map, hn, hz])
        rw [flat_cells] at this
        exact this
theorem run_slice_rows (t e : TypeId) (n s : Nat) (hs : 0 < s) (hns : 0 < n) (hsm : n * s ≤ 16777216) (hu : P.underlying t = some (.slice e)) (he : (P.info? e).map (fun i => (i.size, i.zero.isSome)) = some (s, true))
    (rows : List (List Value)) (hn : rows.length = n) (hr : ∀ r ∈ rows, r.length = s) (w : World) :
    (Instr.buildSlice t n (partsOf rows).toArray).run P w = .ok (.slice (some ⟨w.heap.size, 0, none⟩) n n) (w.alloc (.cells rows.flatten.toArray e)) := by
  cases hie : P.info? e with
  | none => rw [hie] at he; cases he
  | some ie =>
    rw [hie] at he
    simp at he
    obtain ⟨rfl, hzs⟩ := he
    obtain ⟨z, hz⟩ := Option.isSome_iff_exists.1 hzs
    have hpos : 0 < n * ie.size := Nat.mul_pos hns hs
    refine run_buildSlice w t e n _ _ ie z hu hie hz (by omega) (by omega) ?_
    have := Great.fill_whole hs (rows.map fun r => Value.agg r.toArray) ((Array.range (n * ie.size)).map (z.cells[· % z.cells.size]!)) (fun v hv => by
      obtain ⟨r, hr', rfl⟩ := List.mem_map.1 hv
      show r.toArray.size = ie.size
      simpa using hr r hr') (by simp [hn])
    rw [flat_cells] at this
    exact this
theorem run_buildop {o : Oper} {a : Act} {w : World} {t : TypeId} {parts : List (Nat × Operand)} (ho : o.op = .build t parts.toArray) {pl : List (Nat × Value)} (hpl : (parts.map fun x => (x.1, a.eval x.2)) = pl) {cells : Array Value} (hb : P.built t pl = some cells) :
    (execOp a.eval o).run P w = .ok (.value (.agg cells)) w := by
  have hm : (parts.toArray.map fun x => (x.1, a.eval x.2)) = pl.toArray := by rw [List.map_toArray, hpl]
  have hr := run_build (P := P) w t pl.toArray cells hb
  unfold execOp
  simp only [ho, hm, Sem.run_bind, hr, Result.andThen_ok, Sem.run_pure]
end
section
variable {P : Program} {ops : Array Oper} {Q : Exit → Act → World → Prop} {a : Act} {w : World} {cc : Option Nat} {q : CodeRow} {w0 : World} {l L : List (Nat × TypeId × List Value)} {fuel : Nat} {listed : Array Bool} {o : Oper} {rest : List Oper}
/-- A block that was there when the call's own began. -/
theorem St.old (h : St cc q w0 w l) {b : Nat} {T : TypeId} {cs : List Value} (hb : PBox w0 b T cs) (hc : cc ≠ some b) : PBox w b T cs :=
  hb.same (h.fr.block b hb.lt (fun e => hc e.symm))
/-- A struct is read out of a block that the class of worlds knows. -/
theorem hg_loadsW (i : Nat) (d : Option Tmp) (hd0 : (ops[i]?).bind (·.dst) = d) (hi : ops[i]? = some o) (hs : Region.noSelect ops = true) (hf : Region.free .any ops listed i = true) (hr : (Region.ready .any ops listed).contains i = true)
    (hQ : ∀ v c a w, Q (.panic c) (a.put o.dst v) w → Q (.panic c) a w) (HS : Hid (St cc q w0 w L)) (hk : l.Sublist L) (hw : Region.wanted o (yielded ops a.tmps) = true)
    (ty : TypeId) (x : Operand) (ho : o.op = .load ty x) (b : Nat) (T : TypeId) (cs : List Value) (hB : ∀ w', St cc q w0 w' l → PBox w' b T cs) (off : Nat) (hx : a.eval x = .pointer (some ⟨b, off, none⟩)) (n : Nat) (hsh : shapeOf P ty = some (true, n)) (vs : List Value) (hn : vs.length = n) (hv : cellsAt cs off vs)
    (h : wpAnyH P .any ops Q (InSt cc q w0 l) fuel (listed.setIfInBounds i true) (a.put d (.agg vs.toArray)) w) : wpAnyH P .any ops Q (InSt cc q w0 l) (fuel + 1) listed a w :=
  have hd : o.dst = d := by rw [hi] at hd0; exact hd0
  wpAnyH_take (v := .agg vs.toArray) hi hs hf hr (hQ _) (.inl ⟨hw, fun w hS => by
    unfold execOp
    simp only [ho, hx, Instr.loadAt, Instr.sureAddr, Sem.run_bind, Sem.run_pure, Result.andThen_ok, run_load_agg (P := P) (hB w hS) hsh hn hv]⟩) (HS.out.sub hk) (by rw [hd]; exact h)
/-- A whole struct goes into a block of the call's own that the region does not read. -/
theorem hg_store_all (i : Nat) (hi : ops[i]? = some o) (hw : Region.wanted o (yielded ops a.tmps) = true) (HS : Hid (St cc q w0 w L)) (ty : TypeId) (x y : Operand) (ho : o.op = .store ty x y) (hd : o.dst = none) (j b : Nat) (T : TypeId) (cs : List Value) (hl : L[j]? = some (b, T, cs))
    (hx : a.eval x = .pointer (some ⟨b, 0, none⟩)) (cells : List Value) (hy : a.eval y = .agg cells.toArray) (n : Nat) (hsh : shapeOf P ty = some (true, n)) (hn : cells.length = n) (hold : cs.length = cells.length) (h1 : cells.all (·.oneCell') = true) (hk : l.Sublist (L.set j (b, T, cells)))
    (h : ∀ w', Hid (St cc q w0 w' (L.set j (b, T, cells))) → wpAnyH P .any ops Q (InSt cc q w0 l) fuel (listed.setIfInBounds i true) a w') : HkX P ops Q (InSt cc q w0 l) fuel listed a w i := by
  have e := putCells_all [] cs cells hold
  simp only [List.nil_append, List.length_nil] at e
  refine hg_stores i hi hw HS ty x y ho hd j b T cs hl 0 hx cells hy n hsh hn (Nat.ble_eq_true_of_le (by omega)) h1 (by rw [e]; exact hk) ?_
  rw [e]
  exact h
theorem sx_loadsW (hw : Region.wanted o (yielded ops a.tmps) = true) (ty : TypeId) (x : Operand) (ho : o.op = .load ty x) (b : Nat) (T : TypeId) (cs : List Value) (hB : PBox w b T cs)
    (off : Nat) (hx : a.eval x = .pointer (some ⟨b, off, none⟩)) (n : Nat) (hs : shapeOf P ty = some (true, n)) (vs : List Value) (hn : vs.length = n) (hv : cellsAt cs off vs)
    (h : wpList P ops Q rest (a.put o.dst (.agg vs.toArray)) w) : wpList P ops Q (o :: rest) a w :=
  wpList_wanted hw fun _ hK => by
    unfold Oper.wp execOp
    simp only [ho, hx, Instr.loadAt, Instr.sureAddr, Sem.run_bind, Sem.run_pure, Result.andThen_ok, run_load_agg (P := P) hB hs hn hv]
    exact hK _ _ h
end
end Go.Proofs.YtnfkplohpjfocaaGreat

namespace Go.Proofs.YtnfkplohpjfocaaGreat
open Go.RowKit

/-- What 'Next' comes to. -/
def NextPost (q : CodeRow) (c : Nat) (n : Int) (w : World) (e : Ending) (w' : World) : Prop :=
  ∃ r : Nat, e = .returned (.int .i64 r) ∧ (1 ≤ n → (r : Int) < n) ∧ (n < 1 → r = 0) ∧ Only c w w' ∧ CodesAt q w' c

set_option maxHeartbeats 400000 in
theorem next_end (q : CodeRow) (c : Nat) (n : Int) (w : World) (hcd : CodesAt q w c) (a : Option Addr) (len cap pos : Nat) (T : TypeId) (hh : w.heap[c]? = some (.cells #[.slice a len cap, .int .i64 pos] T (0, 0))) (hp : pos ≤ len) (hl : len ≤ 65536) (hz : len ≤ pos ∨ n < 1) :
    Calls Tryz.prog 17 #[.pointer (some ⟨c, 0, none⟩), .int .i64 n] w (NextPost q c n w) := by
  have c0 : w.cell? ⟨c, 0, none⟩ = some (.slice a len cap) := by rw [cell_of_row w c 0 _ T _ hh]; rfl
  have c1 : w.cell? ⟨c, 1, none⟩ = some (.int .i64 pos) := by rw [cell_of_row w c 1 _ T _ hh]; rfl
  have HC := Lib.hid hcd
  have fin : ∀ k, NextPost q c n w (.returned (.int .i64 0)) (w.drewN k) := fun k => ⟨0, rfl, fun h => by simpa using (by omega : 0 < n), fun _ => rfl, (Only.refl c w).drewN k, hcd.drewN k⟩
  have HF := Lib.hid fin
  clear hh hcd fin
  by_cases hz1 : len ≤ pos
  · have d1 : decide ((len : Int) ≤ (pos : Int)) = true := by simp; omega
    clear hz
    go_enter Tryz.func17, Tryz.ntmps17
    go_wp2
    go_quiet (fail)
    go_wp2
    go_ret
    exact HF.out _
  · have d1 : decide ((len : Int) ≤ (pos : Int)) = false := by simp; omega
    have hn : n < 1 := by omega
    have d2 : decide (n < 1) = true := by simpa using hn
    clear hz
    go_enter Tryz.func17, Tryz.ntmps17
    go_wp2
    go_quiet (fail)
    go_wp2
    go_ret
    exact HF.out _

theorem tmod_range (x n : Nat) (h : 1 ≤ n) : ∃ r : Nat, ((x : Int) % (n : Int)) = (r : Int) ∧ r < n := ⟨x % n, by simp, Nat.mod_lt _ (by omega)⟩

set_option maxHeartbeats 400000 in
theorem next_small (q : CodeRow) (c : Nat) (n : Nat) (w : World) (hcd : CodesAt q w c) (blk off : Nat) (len cap pos x : Nat) (T : TypeId) (hh : w.heap[c]? = some (.cells #[.slice (some ⟨blk, off, none⟩) len cap, .int .i64 pos] T (0, 0))) (hp : pos < len) (hl : len ≤ 65536)
    (hx : x < 256) (hcell : w.cell? ⟨blk, off + pos, none⟩ = some (.int .u8 x)) (hadv : CodesAt q (w.setCell ⟨c, 1, none⟩ (.int .i64 ((pos : Int) + 1))) c) (hn : 1 ≤ n) (hn2 : n ≤ 256) :
    Calls Tryz.prog 17 #[.pointer (some ⟨c, 0, none⟩), .int .i64 n] w (NextPost q c n w) := by
  have c0 : w.cell? ⟨c, 0, none⟩ = some (.slice (some ⟨blk, off, none⟩) len cap) := by rw [cell_of_row w c 0 _ T _ hh]; rfl
  have c1 : w.cell? ⟨c, 1, none⟩ = some (.int .i64 pos) := by rw [cell_of_row w c 1 _ T _ hh]; rfl
  have f1 : w.frozen? ⟨c, 1, none⟩ = false := frozen_of_row w c 1 _ T hh
  have fin : ∀ k, NextPost q c n w (.returned (.int .i64 ((x : Int) % (n : Int)))) ((w.setCell ⟨c, 1, none⟩ (.int .i64 ((pos : Int) + 1))).drewN k) := fun k => by
    obtain ⟨r, hr, hlt⟩ := tmod_range x n hn
    exact ⟨r, by rw [hr], fun _ => by omega, fun h => by omega, ((Only.refl c w).setCell (.inl rfl) _).drewN k, hadv.drewN k⟩
  have HF := Lib.hid fin
  clear hh hcd fin hadv
  have d1 : decide ((len : Int) ≤ (pos : Int)) = false := by simp; omega
  have d2 : decide ((n : Int) < 1) = false := by simp; omega
  have d3 : decide (256 < (n : Int)) = false := by simp; omega
  go_enter Tryz.func17, Tryz.ntmps17
  go_wp2
  go_quiet (fail)
  go_wp2
  go_quiet (fail)
  go_wp2
  go_ret
  exact HF.out _

set_option maxHeartbeats 400000 in
theorem next_large (q : CodeRow) (c : Nat) (n : Nat) (w : World) (hcd : CodesAt q w c) (blk off : Nat) (len cap pos x : Nat) (T : TypeId) (hh : w.heap[c]? = some (.cells #[.slice (some ⟨blk, off, none⟩) len cap, .int .i64 pos] T (0, 0))) (hp : pos < len) (hl : len ≤ 65536)
    (hx : x < 256) (hcell : w.cell? ⟨blk, off + pos, none⟩ = some (.int .u8 x)) (hadv : CodesAt q (w.setCell ⟨c, 1, none⟩ (.int .i64 ((pos : Int) + 1))) c) (hn : 256 < n) (hn2 : n ≤ 1000000000000)
    (hrec : ∀ w : World, CodesAt q w c → Calls Tryz.prog 17 #[.pointer (some ⟨c, 0, none⟩), .int .i64 256] w (NextPost q c 256 w)) :
    Calls Tryz.prog 17 #[.pointer (some ⟨c, 0, none⟩), .int .i64 n] w (NextPost q c n w) := by
  have c0 : w.cell? ⟨c, 0, none⟩ = some (.slice (some ⟨blk, off, none⟩) len cap) := by rw [cell_of_row w c 0 _ T _ hh]; rfl
  have c1 : w.cell? ⟨c, 1, none⟩ = some (.int .i64 pos) := by rw [cell_of_row w c 1 _ T _ hh]; rfl
  have f1 : w.frozen? ⟨c, 1, none⟩ = false := frozen_of_row w c 1 _ T hh
  have HA := Lib.hid hadv
  have HR := Lib.hid hrec
  clear hh hcd hadv hrec
  have d1 : decide ((len : Int) ≤ (pos : Int)) = false := by simp; omega
  have d2 : decide ((n : Int) < 1) = false := by simp; omega
  have d3 : decide (256 < (n : Int)) = true := by simp; omega
  go_enter Tryz.func17, Tryz.ntmps17
  go_wp2_with fail
  go_quiet (fail)
  go_wp2_with fail
  go_quiet (fail)
  go_wp2_with fail
  refine (HR.out _ (HA.out.drewN _)).mono ?_
  rintro e w1 ⟨r, rfl, hr, _, ho, hcd1⟩
  have hr2 : r < 256 := by have := hr (by omega); omega
  have HO := Lib.hid ho
  have HD := Lib.hid hcd1
  clear hr ho hcd1
  go_wp2_with fail
  go_ret
  obtain ⟨q, hq, hlt⟩ := tmod_range (256 * x + r) n (by omega)
  refine ⟨q, ?_, fun _ => by omega, fun h => by omega, Only.trans (((Only.refl c w).setCell (.inl rfl) _).drewN _) HO.out, HD.out⟩
  rw [← hq]; simp

/-- 'Next': a choice from 0 to n - 1 (0 if n is less than 1). -/
theorem next_any (q : CodeRow) (c : Nat) (n : Int) (w : World) (hcd : CodesAt q w c) (hn2 : n ≤ 1000000000000) :
    Calls Tryz.prog 17 #[.pointer (some ⟨c, 0, none⟩), .int .i64 n] w (NextPost q c n w) := by
  obtain ⟨a, len, cap, mps⟩ := q
  have hc0 := hcd
  have small : ∀ (n : Nat), n ≤ 256 → ∀ w : World, CodesAt ⟨a, len, cap, mps⟩ w c → Calls Tryz.prog 17 #[.pointer (some ⟨c, 0, none⟩), .int .i64 n] w (NextPost ⟨a, len, cap, mps⟩ c n w) := fun n hn w hcd => by
    have hc0 := hcd
    obtain ⟨pos, T, hh, hp, hl, hd⟩ := hcd
    by_cases hz : len ≤ pos ∨ (n : Int) < 1
    · exact next_end _ c n w hc0 a len cap pos T hh hp hl hz
    · obtain ⟨blk, off, ha, hnb, hi⟩ := hd (by simp only; omega)
      simp only at ha; subst ha
      obtain ⟨x, hx, hcell⟩ := hi pos (by simp only; omega)
      exact next_small _ c n w hc0 blk off len cap pos x T hh (by omega) hl hx hcell (CodesAt.advance hh (by simp only; omega) hl hd) (by omega) hn
  obtain ⟨pos, T, hh, hp, hl, hd⟩ := hcd
  by_cases hz : len ≤ pos ∨ n < 1
  · exact next_end _ c n w hc0 a len cap pos T hh hp hl hz
  · obtain ⟨m, rfl⟩ := Int.eq_ofNat_of_zero_le (show 0 ≤ n by omega)
    by_cases hm : m ≤ 256
    · exact small m hm w hc0
    · obtain ⟨blk, off, ha, hnb, hi⟩ := hd (by simp only; omega)
      simp only at ha; subst ha
      obtain ⟨x, hx, hcell⟩ := hi pos (by simp only; omega)
      exact next_large _ c m w hc0 blk off len cap pos x T hh (by omega) hl hx hcell (CodesAt.advance hh (by simp only; omega) hl hd) (by omega) (by omega) (fun w h => small 256 (Nat.le_refl _) w h)
end Go.Proofs.YtnfkplohpjfocaaGreat

namespace Go.Proofs.YtnfkplohpjfocaaGreat
open Go.RowKit

/-- A slice of bytes that came in. -/
def BytesIn (w : World) (a : Option Addr) (len : Nat) : Prop := 0 < len → ∃ blk off, a = some ⟨blk, off, none⟩ ∧ ∀ i, i < len → ∃ n : Nat, n < 256 ∧ w.cell? ⟨blk, off + i, none⟩ = some (.int .u8 n)
/-- What 'New' comes to. -/
def NewPost (w : World) (e : Ending) (w' : World) : Prop :=
  ∃ (c : Nat) (q : CodeRow), e = .returned (.pointer (some ⟨c, 0, none⟩)) ∧ w.heap.size ≤ c ∧ Ext w w' ∧ CodesAt q w' c

theorem codes_new {w w' : World} {a : Option Addr} {n len cap c : Nat} {T : TypeId} (h : BytesIn w a len) (hn : n ≤ len) (hn2 : n ≤ 65536) (k : NewBox w w' c T #[.slice a n cap, .int .i64 0]) : CodesAt ⟨a, n, cap, []⟩ w' c := by
  refine ⟨0, T, k.box, Nat.zero_le _, hn2, fun h0 => ?_⟩
  obtain ⟨blk, off, ha, hi⟩ := h (by simp only at h0; omega)
  refine ⟨blk, off, ha, ?_, fun i hl => ?_⟩
  · obtain ⟨x, _, hx⟩ := hi 0 (by simp only at h0; omega)
    have := block_lt_of_cell (a := ⟨blk, off + 0, none⟩) hx
    have := k.at_
    simp only at *
    omega
  · obtain ⟨x, hx1, hx2⟩ := hi i (by simp only at hl; omega)
    exact ⟨x, hx1, (Below.cell (p := ⟨blk, off + i, none⟩) k.ext (block_lt_of_cell (a := ⟨blk, off + i, none⟩) hx2)).trans hx2⟩

set_option maxHeartbeats 1000000 in
theorem new_any (a : Option Addr) (len cap most : Nat) (w : World) (h : BytesIn w a len) (hlc : len ≤ cap) (hm : most ≤ 65536) (h0 : 0 < most) (hmax : cap ≤ maxLen) :
    Calls Tryz.prog 5 #[.slice a len cap, .int .i64 most] w (NewPost w) := by
  unfold maxLen at hmax
  have H := Lib.hid h
  by_cases hl : most < len
  · obtain ⟨blk, off, rfl, _⟩ := h (by omega)
    clear h
    go_enter Tryz.func5, Tryz.ntmps5
    go_wp2
    go_ret
    exact ⟨w.heap.size, ⟨_, most, cap, []⟩, rfl, Nat.le_refl _, (Ext.refl w).alloc _, codes_new H.out (by omega) hm (NewBox.of w _ _)⟩
  · clear h
    go_enter Tryz.func5, Tryz.ntmps5
    go_wp2
    go_ret
    exact ⟨w.heap.size, ⟨_, len, cap, []⟩, rfl, Nat.le_refl _, (Ext.refl w).alloc _, codes_new H.out (Nat.le_refl _) (by omega) (NewBox.of w _ _)⟩

/-- A call's own blocks become the caller's. -/
theorem St.call {cc : Option Nat} {q q' : CodeRow} {w0 w w' : World} {l lr : List (Nat × TypeId × List Value)} (h : St cc q w0 w l) (k : St none q' w w' lr) : St cc q w0 w' (lr ++ l) := by
  have h1 := h.ext k.isExt
  refine ⟨h1.fr, h1.codes, Bx_iff.2 ⟨?_, ?_⟩, h1.maps⟩
  · intro x hx
    rcases List.mem_append.1 hx with hx | hx
    · have := (Bx_iff.1 k.own).1 x hx
      exact ⟨Nat.le_trans h.size this.1, this.2⟩
    · exact (Bx_iff.1 h1.own).1 x hx
  · rw [List.pairwise_append]
    refine ⟨(Bx_iff.1 k.own).2, (Bx_iff.1 h1.own).2, fun x hx y hy => ?_⟩
    have h2 := ((Bx_iff.1 k.own).1 x hx).1
    have h3 := ((Bx_iff.1 h.own).1 y hy).2.lt
    omega
/-- The same where the call drew choices. -/
theorem St.callC {c : Nat} {q : CodeRow} {w0 w w' : World} {l lr : List (Nat × TypeId × List Value)} (h : St (some c) q w0 w l) (k : St (some c) q w w' lr) : St (some c) q w0 w' (lr ++ l) := by
  have h1 := h.draws k.isOnly k.code
  refine ⟨h1.fr, h1.codes, Bx_iff.2 ⟨?_, ?_⟩, h1.maps⟩
  · intro x hx
    rcases List.mem_append.1 hx with hx | hx
    · have := (Bx_iff.1 k.own).1 x hx
      exact ⟨Nat.le_trans h.size this.1, this.2⟩
    · exact (Bx_iff.1 h1.own).1 x hx
  · rw [List.pairwise_append]
    refine ⟨(Bx_iff.1 k.own).2, (Bx_iff.1 h1.own).2, fun x hx y hy => ?_⟩
    have h2 := ((Bx_iff.1 k.own).1 x hx).1
    have h3 := ((Bx_iff.1 h.own).1 y hy).2.lt
    omega
theorem BytesIn.ext {w w' : World} {a : Option Addr} {len : Nat} (h : BytesIn w a len) (k : Ext w w') : BytesIn w' a len := fun h0 => by
  obtain ⟨blk, off, ha, hi⟩ := h h0
  refine ⟨blk, off, ha, fun i hl => ?_⟩
  obtain ⟨n, hn, hc⟩ := hi i hl
  exact ⟨n, hn, (Below.cell (p := ⟨blk, off + i, none⟩) k (block_lt_of_cell (a := ⟨blk, off + i, none⟩) hc)).trans hc⟩
/-- A block from before, other than the choices. -/
structure Old (w : World) (c b : Nat) (T : TypeId) (cs : List Value) : Prop where
  box : PBox w b T cs
  ne : some c ≠ some b
theorem Old.of {w w' : World} {c b : Nat} {T : TypeId} {cs : List Value} (h : PBox w' b T cs) (hl : b < w.heap.size) (hc : w.heap.size ≤ c) : Old w' c b T cs := ⟨h, by simp; omega⟩
theorem St.atOld {w w0 : World} {c b : Nat} {q : CodeRow} {T : TypeId} {cs : List Value} {l : List (Nat × TypeId × List Value)} (h : St (some c) q w0 w l) (k : Old w0 c b T cs) : PBox w b T cs := h.old k.box k.ne
end Go.Proofs.YtnfkplohpjfocaaGreat
