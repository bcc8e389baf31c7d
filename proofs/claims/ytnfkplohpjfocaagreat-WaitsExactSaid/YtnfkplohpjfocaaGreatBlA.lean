/-
  Small literal slices; a row of numbers that a call has made.
-/
import Derived.Test.YtnfkplohpjfocaaGreatAppA
import Derived.Test.YtnfkplohpjfocaaGreatGrant
set_option linter.unusedVariables false
set_option linter.unusedSimpArgs false
namespace Go.Proofs.YtnfkplohpjfocaaGreat
open Go.RowKit
section
variable {P : Program}
theorem run_slice_cells (t e : TypeId) (n : Nat) (hns : 0 < n) (hsm : n ≤ 16777216) (hu : P.underlying t = some (.slice e)) (he : (P.info? e).map (fun i => (i.size, i.zero.isSome)) = some (1, true))
    (vs : List Value) (hn : vs.length = n) (h1 : ∀ v ∈ vs, v.cells = #[v]) (w : World) :
    (Instr.buildSlice t n ((vs.zipIdx 0).map fun x => (x.2, x.1)).toArray).run P w = .ok (.slice (some ⟨w.heap.size, 0, none⟩) n n) (w.alloc (.cells vs.toArray e)) := by
  cases hie : P.info? e with
  | none => rw [hie] at he; cases he
  | some ie =>
    rw [hie] at he
    simp at he
    obtain ⟨hs, hzs⟩ := he
    obtain ⟨z, hz⟩ := Option.isSome_iff_exists.1 hzs
    refine run_buildSlice w t e n _ _ ie z hu hie hz (by rw [hs]; omega) (by rw [hs]; omega) ?_
    rw [hs]
    have := Great.fill_flat vs ((Array.range (n * 1)).map (z.cells[· % z.cells.size]!)) h1 (by simp [hn])
    exact this
end
theorem build_int (n : Int) (w : World) : (Instr.buildSlice 38 1 ([(0, .int .i64 n)] : List (Nat × Value)).toArray).run Tryz.prog w = .ok (.slice (some ⟨w.heap.size, 0, none⟩) 1 1) (w.alloc (.cells [.int .i64 n].toArray 3)) :=
  run_slice_cells 38 3 1 (by omega) (by omega) Tryz.underlying38 (by kernel_rfl) [.int .i64 n] rfl (by intro v hv; simp at hv; subst hv; rfl) w
theorem build_gss (a b : Option Addr) (n m c d : Nat) (w : World) : (Instr.buildSlice 74 2 ([(0, .slice a n c), (1, .slice b m d)] : List (Nat × Value)).toArray).run Tryz.prog w = .ok (.slice (some ⟨w.heap.size, 0, none⟩) 2 2) (w.alloc (.cells [.slice a n c, .slice b m d].toArray 23)) :=
  run_slice_cells 74 23 2 (by omega) (by omega) Tryz.underlying74 (by kernel_rfl) [.slice a n c, .slice b m d] rfl (by intro v hv; simp at hv; rcases hv with rfl | rfl <;> rfl) w
section
variable {P : Program} {ops : Array Oper} {Q : Exit → Act → World → Prop} {a : Act} {w : World} {o : Oper} {rest : List Oper}
/-- One cell of memory that is known is read. -/
theorem sx_load1 (hw : Region.wanted o (yielded ops a.tmps) = true) (ty : TypeId) (x : Operand) (ho : o.op = .load ty x) (b off : Nat) (hx : a.eval x = .pointer (some ⟨b, off, none⟩)) (n : Nat) (hs : shapeOf P ty = some (false, n)) (v : Value) (hc : w.cell? ⟨b, off, none⟩ = some v)
    (h : wpList P ops Q rest (a.put o.dst v) w) : wpList P ops Q (o :: rest) a w :=
  sx_run hw v (by
    unfold execOp
    have hl : (loadVar ty ⟨b, off, none⟩).run P w = .ok v w := by simp [loadVar, (shape_one hs w).1, hc, load, Sem.run]
    simp only [ho, hx, Instr.loadAt, Instr.sureAddr, Sem.run_bind, Sem.run_pure, Result.andThen_ok, hl]) h
theorem St_nilR {cc : Option Nat} {q : CodeRow} {w0 w : World} {front lr : List (Nat × TypeId × List Value)} (h : Hid (St cc q w0 w (front ++ lr))) : Hid (St cc q w0 w (front ++ (lr ++ []))) := Lib.hid (by rw [List.append_nil]; exact h.out)
theorem St_nilL {cc : Option Nat} {q : CodeRow} {w0 w : World} {front lr : List (Nat × TypeId × List Value)} (h : Hid (St cc q w0 w (front ++ (lr ++ [])))) : Hid (St cc q w0 w (front ++ lr)) := Lib.hid (by have h1 := h.out; rw [List.append_nil] at h1; exact h1)
end
def IntsNew (ns : List Int) (w0 : World) (v : Value) (w' : World) : Prop := ∃ lr, St none default w0 w' lr ∧ OwnRow 3 1 lr v ns.length (ns.map iV)
end Go.Proofs.YtnfkplohpjfocaaGreat

namespace Go.Proofs.YtnfkplohpjfocaaGreat
def withF (n : Int) : List Int → List Int
  | [] => [n]
  | x :: l => if n ≤ x then (if x = n then n :: l else n :: x :: l) else x :: withF n l
theorem withF_mem {n y : Int} : ∀ {l : List Int}, y ∈ withF n l ↔ y = n ∨ y ∈ l
  | [] => by simp [withF]
  | x :: l => by
    unfold withF
    split
    · split
      · rename_i e; subst e; simp
      · simp
    · simp only [List.mem_cons, withF_mem (l := l)]
      constructor
      · rintro (h | h | h) <;> simp [h]
      · rintro (h | h | h) <;> simp [h]
theorem withF_srt {n : Int} : ∀ {l : List Int}, l.Pairwise (· < ·) → (withF n l).Pairwise (· < ·)
  | [], _ => by simp [withF]
  | x :: l, h => by
    obtain ⟨h1, h2⟩ := List.pairwise_cons.1 h
    unfold withF
    split
    · rename_i hle
      split
      · rename_i e; subst e; exact h
      · rename_i e
        exact List.pairwise_cons.2 ⟨fun y hy => by
          rcases List.mem_cons.1 hy with rfl | hy
          · omega
          · have := h1 y hy; omega, h⟩
    · exact List.pairwise_cons.2 ⟨fun y hy => by
        rcases withF_mem.1 hy with rfl | hy
        · omega
        · exact h1 y hy, withF_srt h2⟩
def foldW (ns acc : List Int) : List Int := ns.foldl (fun l n => withF n l) acc
theorem foldW_srt : ∀ (ns acc : List Int), acc.Pairwise (· < ·) → (foldW ns acc).Pairwise (· < ·)
  | [], _, h => h
  | n :: ns, acc, h => foldW_srt ns (withF n acc) (withF_srt h)
theorem withF_len {n : Int} : ∀ {l : List Int}, (withF n l).length ≤ l.length + 1
  | [] => by simp [withF]
  | x :: l => by
    have := withF_len (n := n) (l := l)
    unfold withF
    split
    · split <;> simp
    · simpa using this
theorem take_nx {α : Type} {rs : List α} {j : Nat} {r : α} (h : rs[j]? = some r) : rs.take (j + 1) = rs.take j ++ [r] := by
  obtain ⟨hj, rfl⟩ := List.getElem?_eq_some_iff.1 h
  rw [List.take_succ_eq_append_getElem hj]
def outsR (ys : List G) (g : G) : List Int := (ys.filter fun x => conflictB x g).map G.tx
def accF (ys : List G) (g : G) : List Int := foldW (outsR ys g) []
theorem accF_srt (ys : List G) (g : G) : (accF ys g).Pairwise (· < ·) := foldW_srt _ _ .nil
theorem accF_yes {ys : List G} {x g : G} (h : conflictB x g = true) : accF (ys ++ [x]) g = withF x.tx (accF ys g) := by simp [accF, outsR, foldW, h]
theorem accF_no {ys : List G} {x g : G} (h : conflictB x g = false) : accF (ys ++ [x]) g = accF ys g := by simp [accF, outsR, h]
theorem foldW_len : ∀ (ns acc : List Int), (foldW ns acc).length ≤ ns.length + acc.length
  | [], acc => by simp [foldW]
  | n :: ns, acc => by
    have h1 := foldW_len ns (withF n acc)
    have h2 := withF_len (n := n) (l := acc)
    unfold foldW at h1 ⊢
    rw [List.foldl_cons, List.length_cons]
    omega
theorem accF_len (ys : List G) (g : G) : (accF ys g).length ≤ ys.length := by
  have h1 := foldW_len (outsR ys g) []
  have h2 := List.length_filter_le (fun x => conflictB x g) ys
  unfold accF
  unfold outsR at h1
  rw [List.length_map] at h1
  simp only [List.length_nil] at h1
  unfold outsR
  omega
/-- those before the one of tx -/
def upto (ws : List G) (tx : Int) : List G := ws.takeWhile fun x => !(x.tx == tx)
structure Upto (ws : List G) (tx : Int) (i : Nat) : Prop where
  eq : upto ws tx = ws.take i ++ upto (ws.drop i) tx
theorem Upto.zero (ws : List G) (tx : Int) : Upto ws tx 0 := ⟨by simp⟩
theorem Upto.next {ws : List G} {tx : Int} {i : Nat} {x : G} (h : Upto ws tx i) (hx : ws[i]? = some x) (hne : (x.tx == tx) = false) : Upto ws tx (i + 1) := by
  obtain ⟨hi, rfl⟩ := List.getElem?_eq_some_iff.1 hx
  refine ⟨?_⟩
  rw [h.eq, take_nx (List.getElem?_eq_getElem hi), List.append_assoc]
  congr 1
  unfold upto
  rw [← List.getElem_cons_drop (h := hi), List.takeWhile_cons, hne]
  rfl
theorem Upto.stop {ws : List G} {tx : Int} {i : Nat} {x : G} (h : Upto ws tx i) (hx : ws[i]? = some x) (he : (x.tx == tx) = true) : upto ws tx = ws.take i := by
  obtain ⟨hi, rfl⟩ := List.getElem?_eq_some_iff.1 hx
  rw [h.eq]
  unfold upto
  rw [← List.getElem_cons_drop (h := hi), List.takeWhile_cons, he]
  simp
theorem Upto.end {ws : List G} {tx : Int} {i : Nat} (h : Upto ws tx i) (hi : ws.length ≤ i) : upto ws tx = ws.take i := by
  rw [h.eq, List.drop_eq_nil_of_le hi]
  simp [upto]
end Go.Proofs.YtnfkplohpjfocaaGreat
