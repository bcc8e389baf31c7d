/-
  ExposureSums: what its walk needs beside the contracts.
-/
import Derived.Test.YtmipkjgilikcnaaAwk42
namespace Go.Proofs.Ytmipkjgilikcnaa
open Go.RowKit
theorem St.perm {cc : Option Nat} {q : CodeRow} {w0 w : World} {l L : List (Nat × TypeId × List Value)} (h : St cc q w0 w L) (p : l.Perm L) : St cc q w0 w l :=
  ⟨h.fr, h.codes, Bx_iff.2 ⟨fun x hx => (Bx_iff.1 h.own).1 x (p.subset hx), (p.pairwise_iff (fun {x y} hxy => fun e => hxy e.symm)).2 (Bx_iff.1 h.own).2⟩⟩
section
variable {P : Program} {ops : Array Oper} {Q : Exit → Act → World → Prop} {a : Act} {w : World} {cc : Option Nat} {q : CodeRow} {w0 : World} {l L : List (Nat × TypeId × List Value)} {fuel : Nat} {listed : Array Bool} {o : Oper} {rest : List Oper}
/-- A cell is read that the region writes later. -/
theorem hx_load (i : Nat) (d : Option Tmp) (hd0 : (ops[i]?).bind (·.dst) = d) (hi : ops[i]? = some o) (hw : Region.wanted o (yielded ops a.tmps) = true) (HS : Hid (St cc q w0 w L)) (hk : l.Sublist L) (ty : TypeId) (x : Operand) (ho : o.op = .load ty x) (j b : Nat) (T : TypeId) (cs : List Value) (hl : L[j]? = some (b, T, cs))
    (off : Nat) (hx : a.eval x = .pointer (some ⟨b, off, none⟩)) (n : Nat) (hsh : shapeOf P ty = some (false, n)) (v : Value) (hv : cs[off]? = some v)
    (h : wpAnyH P .any ops Q (InSt cc q w0 l) fuel (listed.setIfInBounds i true) (a.put d v) w) : HkX P ops Q (InSt cc q w0 l) fuel listed a w i := by
  have hd : o.dst = d := by rw [hi] at hd0; exact hd0
  refine ⟨o, hi, hw, ?_⟩
  unfold Oper.wp execOp
  simp only [ho, hx, Instr.loadAt, Instr.sureAddr, Sem.run_bind, Sem.run_pure, Result.andThen_ok, run_load_box (P := P) (HS.out.box hl) hsh hv, Oper.upon]
  rw [hd]
  exact ⟨HS.out.sub hk, h⟩
/-- A cell of a block that the class does not speak of is written. -/
theorem hg_store1 (i : Nat) (hi : ops[i]? = some o) (hw : Region.wanted o (yielded ops a.tmps) = true) (HS : Hid (St cc q w0 w L)) (ty : TypeId) (x y : Operand) (ho : o.op = .store ty x y) (hd : o.dst = none) (j b : Nat) (T : TypeId) (cs : List Value) (hl : L[j]? = some (b, T, cs))
    (off : Nat) (hx : a.eval x = .pointer (some ⟨b, off, none⟩)) (v : Value) (hy : a.eval y = v) (hsh : shapeOf P ty = some (false, 1)) (h1 : v.oneCell' = true) (hoff : Nat.ble (off + 1) cs.length = true) (hk : l.Sublist (L.set j (b, T, cs.set off v)))
    (h : ∀ w', Hid (St cc q w0 w' (L.set j (b, T, cs.set off v))) → wpAnyH P .any ops Q (InSt cc q w0 l) fuel (listed.setIfInBounds i true) a w') : HkX P ops Q (InSt cc q w0 l) fuel listed a w i := by
  refine ⟨o, hi, hw, ?_⟩
  have hB := HS.out.box hl
  obtain ⟨w', hr, hB', hko, _⟩ := run_storeCells_box (P := P) b T [v] 0 off cs w hB (by have := Nat.le_of_ble_eq_true hoff; simp; omega) (fun u hu => by simp at hu; subst hu; exact h1)
  have hc : v.cells = #[v] := by cases v <;> first | rfl | cases h1
  have HS' : Hid (St cc q w0 w' (L.set j (b, T, cs.set off v))) := HS.out.set hl hko hB'
  unfold Oper.wp execOp
  have hrun : (storeVar ty ⟨b, off, none⟩ v).run P w = .ok () w' := by
    unfold storeVar
    rw [Sem.run_bind, (shape_one hsh w).2, Result.andThen_ok, hc]
    simp [hr]
  simp only [ho, hx, hy, Instr.storeAt, Instr.sureAddr, Sem.run_bind, Sem.run_pure, Result.andThen_ok, hrun, Oper.upon, hd, Act.put]
  exact ⟨HS'.out.sub hk, h _ HS'⟩
end
theorem hg_load {P : Program} {ops : Array Oper} {Q : Exit → Act → World → Prop} {a : Act} {w : World} {cc : Option Nat} {q : CodeRow} {w0 : World} {l L : List (Nat × TypeId × List Value)} {fuel : Nat} {listed : Array Bool} {o : Oper} (i : Nat) (d : Option Tmp) (hd0 : (ops[i]?).bind (·.dst) = d) (hi : ops[i]? = some o) (hs : Region.noSelect ops = true) (hf : Region.free .any ops listed i = true) (hr : (Region.ready .any ops listed).contains i = true)
    (hQ : ∀ v c a w, Q (.panic c) (a.put o.dst v) w → Q (.panic c) a w) (HS : Hid (St cc q w0 w L)) (hk : l.Sublist L) (hw : Region.wanted o (yielded ops a.tmps) = true)
    (ty : TypeId) (x : Operand) (ho : o.op = .load ty x) (j b : Nat) (T : TypeId) (cs : List Value) (hl : l[j]? = some (b, T, cs)) (off : Nat) (hx : a.eval x = .pointer (some ⟨b, off, none⟩)) (n : Nat) (hsh : shapeOf P ty = some (false, n)) (v : Value) (hv : cs[off]? = some v)
    (h : wpAnyH P .any ops Q (InSt cc q w0 l) fuel (listed.setIfInBounds i true) (a.put d v) w) : wpAnyH P .any ops Q (InSt cc q w0 l) (fuel + 1) listed a w :=
  have hd : o.dst = d := by rw [hi] at hd0; exact hd0
  wpAnyH_take (v := v) hi hs hf hr (hQ _) (.inl ⟨hw, fun w hS => by
    have hB : PBox w b T cs := St.box hS hl
    unfold execOp
    simp only [ho, hx, Instr.loadAt, Instr.sureAddr, Sem.run_bind, Sem.run_pure, Result.andThen_ok, run_load_box (P := P) hB hsh hv]⟩) (HS.out.sub hk) (by rw [hd]; exact h)
/-- The values of a row are slices of these reasons. -/
def Link (L : List (Nat × TypeId × List Value)) (vals : List Value) (rss : List (List Rsn)) : Prop :=
  vals.length = rss.length ∧ ∀ (i : Nat) (rs : List Rsn), rss[i]? = some rs → ∃ u lr, vals[i]? = some u ∧ (∀ e ∈ lr, e ∈ L) ∧ RowEnt 43 2 lr u (rs.map rL).length (rs.map rL).flatten
theorem Link.nil (L : List (Nat × TypeId × List Value)) : Link L [] [] := ⟨rfl, fun i rs h => by simp at h⟩
theorem Link.mono {L L' : List (Nat × TypeId × List Value)} {vals : List Value} {rss : List (List Rsn)} (h : Link L vals rss) (hs : ∀ e ∈ L, e ∈ L') : Link L' vals rss :=
  ⟨h.1, fun i rs hi => by obtain ⟨u, lr, h1, h2, h3⟩ := h.2 i rs hi; exact ⟨u, lr, h1, fun e he => hs e (h2 e he), h3⟩⟩
theorem Link.append {L : List (Nat × TypeId × List Value)} {vals vals2 : List Value} {rss rss2 : List (List Rsn)} (h : Link L vals rss) (h2 : Link L vals2 rss2) : Link L (vals ++ vals2) (rss ++ rss2) := by
  refine ⟨by rw [List.length_append, List.length_append, h.1, h2.1], fun i rs hi => ?_⟩
  by_cases hlt : i < rss.length
  · rw [List.getElem?_append_left hlt] at hi
    obtain ⟨u, lr, k1, k2, k3⟩ := h.2 i rs hi
    exact ⟨u, lr, by rw [List.getElem?_append_left (by rw [h.1]; exact hlt)]; exact k1, k2, k3⟩
  · rw [List.getElem?_append_right (by omega)] at hi
    obtain ⟨u, lr, k1, k2, k3⟩ := h2.2 _ rs hi
    exact ⟨u, lr, by rw [List.getElem?_append_right (by rw [h.1]; omega), h.1]; exact k1, k2, k3⟩
theorem Link.one {L lr : List (Nat × TypeId × List Value)} {v : Value} {rs : List Rsn} (hm : ∀ e ∈ lr, e ∈ L) (h : RowEnt 43 2 lr v (rs.map rL).length (rs.map rL).flatten) : Link L [v] [rs] := by
  refine ⟨rfl, fun i x hi => ?_⟩
  match i, hi with
  | 0, hi => simp at hi; subst hi; exact ⟨v, lr, rfl, hm, h⟩
theorem Link.take {L : List (Nat × TypeId × List Value)} {vals : List Value} {rss : List (List Rsn)} (h : Link L vals rss) (k : Nat) : Link L (vals.take k) (rss.take k) := by
  refine ⟨by rw [List.length_take, List.length_take, h.1], fun i rs hi => ?_⟩
  rw [List.getElem?_take] at hi
  by_cases hk : i < k
  · rw [if_pos hk] at hi
    obtain ⟨u, lr, k1, k2, k3⟩ := h.2 i rs hi
    exact ⟨u, lr, by rw [List.getElem?_take, if_pos hk]; exact k1, k2, k3⟩
  · rw [if_neg hk] at hi; cases hi
theorem Link.drop {L : List (Nat × TypeId × List Value)} {vals : List Value} {rss : List (List Rsn)} (h : Link L vals rss) (k : Nat) : Link L (vals.drop k) (rss.drop k) := by
  refine ⟨by rw [List.length_drop, List.length_drop, h.1], fun i rs hi => ?_⟩
  rw [List.getElem?_drop] at hi
  obtain ⟨u, lr, k1, k2, k3⟩ := h.2 _ rs hi
  exact ⟨u, lr, by rw [List.getElem?_drop]; exact k1, k2, k3⟩
theorem repL_len (v : Value) : (repL v).length = 7 := rfl
theorem reps_len (vals : List Value) : ∀ r ∈ vals.map repL, r.length = 7 := fun r hr => by obtain ⟨v, _, rfl⟩ := List.mem_map.1 hr; rfl
theorem rsn_len (rs : List Rsn) : ∀ r ∈ rs.map rL, r.length = 2 := fun r hr => by obtain ⟨v, _, rfl⟩ := List.mem_map.1 hr; rfl
theorem Link.sum {cc : Option Nat} {q : CodeRow} {w0 w : World} {L : List (Nat × TypeId × List Value)} {vals : List Value} {rss : List (List Rsn)} (h : Link L vals rss) (hs : St cc q w0 w L) : ∀ (i : Nat) (rs : List Rsn), rss[i]? = some rs → ∃ u, vals[i]? = some u ∧ SlAt w 2 u (rs.map rL) := fun i rs hi => by
  obtain ⟨u, lr, k1, k2, k3⟩ := h.2 i rs hi
  exact ⟨u, k1, RowEnt.at hs k2 (rsn_len rs) k3⟩
theorem take_flatten {s : Nat} : ∀ {rows : List (List Value)}, (∀ r ∈ rows, r.length = s) → ∀ k, k ≤ rows.length → rows.flatten.take (k * s) = (rows.take k).flatten ∧ rows.flatten.drop (k * s) = (rows.drop k).flatten
  | rows, _, 0, _ => by simp
  | [], _, k + 1, h => by simp at h
  | x :: rows, hl, k + 1, h => by
    have hx := hl x (by simp)
    have ih := take_flatten (rows := rows) (fun y hy => hl y (List.mem_cons_of_mem _ hy)) k (by simpa using h)
    have e : (k + 1) * s = x.length + k * s := by rw [hx, Nat.succ_mul]; omega
    simp only [List.flatten_cons, List.take_succ_cons, List.drop_succ_cons]
    rw [e, List.take_length_add_append, List.drop_length_add_append, ih.1, ih.2]
    exact ⟨rfl, rfl⟩
theorem oneCells_take {xs : List Value} (h : xs.all (·.oneCell') = true) (k : Nat) : (xs.take k).all (·.oneCell') = true ∧ (xs.drop k).all (·.oneCell') = true := by
  rw [List.all_eq_true] at h
  constructor <;> rw [List.all_eq_true] <;> intro v hv
  · exact h v (List.mem_of_mem_take hv)
  · exact h v (List.mem_of_mem_drop hv)
/-- The first k of a row of the call's own, and the others. -/
theorem src_parts {cc : Option Nat} {q : CodeRow} {w0 w : World} {L lr : List (Nat × TypeId × List Value)} {E : TypeId} {size n k cap : Nat} {ao : Option Addr} {xs : List Value} (h : St cc q w0 w L) (hm : ∀ e ∈ lr, e ∈ L) (hr : RowEnt E size lr (.slice ao n cap) n xs) (h1 : xs.all (·.oneCell') = true) (hk : k ≤ n) :
    SrcAt w size (sliced ao 0 k cap size) k (xs.take (k * size)) ∧ SrcAt w size (sliced ao k n cap size) (n - k) (xs.drop (k * size)) := by
  have hl := hr.1
  have hks : k * size ≤ n * size := Nat.mul_le_mul_right _ hk
  have hl1 : (xs.take (k * size)).length = k * size := by rw [List.length_take]; omega
  have hl2 : (xs.drop (k * size)).length = (n - k) * size := by rw [List.length_drop, hl, Nat.sub_mul]
  have ho := oneCells_take h1 (k * size)
  rcases hr.2 with ⟨_, hv, hn⟩ | ⟨g, cap2, junk, rfl, hv, hnc, _, hcz⟩
  · cases hv
    have hk0 : k = 0 := by omega
    subst hk0
    refine ⟨⟨hl1, ho.1, .inr ⟨by simp [sliced], rfl⟩⟩, ⟨hl2, ho.2, .inr ⟨by simp [sliced], by omega⟩⟩⟩
  · cases hv
    have hb : PBox w g E (xs ++ junk) := ((Bx_iff.1 h.own).1 (g, E, xs ++ junk) (hm _ (by simp))).2
    refine ⟨⟨hl1, ho.1, .inl ⟨⟨g, 0, none⟩, cap, ?_, fun j u hj => ?_⟩⟩, ⟨hl2, ho.2, ?_⟩⟩
    · unfold sliced
      split
      · simp
      · simp [addr_add]
    · rw [addr_add]
      refine hb.cell ?_
      rw [Nat.zero_add]
      have hj2 := (List.getElem?_eq_some_iff.1 hj).1
      rw [hl1] at hj2
      rw [List.getElem?_take, if_pos hj2] at hj
      rw [List.getElem?_append_left (List.getElem?_eq_some_iff.1 hj).1]
      exact hj
    · by_cases hck : cap = k
      · refine .inl ⟨⟨g, 0, none⟩, cap - k, ?_, fun j u hj => ?_⟩
        · unfold sliced
          rw [if_pos hck]
        · have := (List.getElem?_eq_some_iff.1 hj).1
          rw [hl2, show n - k = 0 by omega] at this
          omega
      · refine .inl ⟨⟨g, k * size, none⟩, cap - k, ?_, fun j u hj => ?_⟩
        · unfold sliced
          rw [if_neg hck]
          simp [addr_add]
        · rw [addr_add]
          refine hb.cell ?_
          rw [List.getElem?_drop] at hj
          rw [List.getElem?_append_left (List.getElem?_eq_some_iff.1 hj).1]
          exact hj
/-- While the sums are added. -/
def mixV (P rs : List Rsn) (i : Nat) : List Value := (List.range 7).map fun k => Value.int .i64 ((if k < i then cntN (P ++ rs) k else cntN P k : Nat) : Int)
theorem mixV_len (P rs : List Rsn) (i : Nat) : (mixV P rs i).length = 7 := by simp [mixV]
theorem mixV_get (P rs : List Rsn) {i : Nat} (h : i < 7) : (mixV P rs i)[i]? = some (.int .i64 (cntN P i : Int)) := by simp [mixV, h]
theorem mixV_zero (P rs : List Rsn) : mixV P rs 0 = cntV P := by simp [mixV, cntV]
theorem mixV_end (P rs : List Rsn) : mixV P rs 7 = cntV (P ++ rs) := by
  unfold mixV cntV
  apply List.map_congr_left
  intro k hk
  have : k < 7 := by simpa using hk
  simp [this]
theorem mixV_set (P rs : List Rsn) {i : Nat} (h : i < 7) : (mixV P rs i).set i (.int .i64 ((cntN P i : Int) + (cntN rs i : Int))) = mixV P rs (i + 1) := by
  apply List.ext_getElem?
  intro k
  by_cases hk : k < 7
  · by_cases e : i = k
    · subst e
      rw [List.getElem?_set_self (by rw [mixV_len]; exact hk)]
      simp [mixV, hk, cntN_append]
    · rw [List.getElem?_set_ne e]
      have : (k < i) ↔ (k < i + 1) := by omega
      simp [mixV, hk, this]
  · rw [List.getElem?_eq_none (by rw [List.length_set, mixV_len]; omega), List.getElem?_eq_none (by rw [mixV_len]; omega)]
def allN (rs : List Rsn) : Nat → Nat
  | 0 => 0
  | i + 1 => allN rs i + cntN rs i
theorem allN_end (rs : List Rsn) : allN rs 7 = rs.length := by
  have := cnt_all rs
  simp only [allN]
  omega
theorem allN_le (rs : List Rsn) : ∀ i, allN rs i ≤ i * rs.length
  | 0 => by simp [allN]
  | i + 1 => by
    have h1 := allN_le rs i
    have h2 := cntN_le rs i
    simp only [allN, Nat.succ_mul]
    omega
theorem turn_perm {tss rss : List (List Rsn)} (h : tss.Perm rss) (k : Nat) (rs : List Rsn) : ((tss.take k ++ [rs]) ++ tss.drop k).Perm (rss ++ [rs]) := by
  have h1 : ((tss.take k ++ [rs]) ++ tss.drop k).Perm ([rs] ++ (tss.take k ++ tss.drop k)) := by
    rw [List.append_assoc]
    exact List.perm_append_comm_assoc _ _ _
  rw [List.take_append_drop] at h1
  exact h1.trans ((h.append_left [rs]).trans List.perm_append_comm)
theorem loop_stays {P : Program} {β : Type} (w : World) (g : Nat → β → Sem (ForInStep β)) (s : β) : ∀ (l : List Nat), (∀ i ∈ l, (g i s).run P w = .ok (.yield s) w) → (forIn l s g).run P w = .ok s w
  | [], _ => by simp
  | i :: l, h => by
    simp only [List.forIn_cons, Sem.run_bind, h i (by simp), Result.andThen_ok]
    exact loop_stays w g s l (fun j hj => h j (by simp [hj]))
theorem part_int (cs : List Value) (i : Nat) (n : Int) (h : cs[i]? = some (.int .i64 n)) (w : World) : (part 3 cs.toArray i).run Try.prog w = .ok (.int .i64 n) w := by
  unfold part
  rw [Sem.run_bind, (shape_one sh3 w).1, Result.andThen_ok]
  simp [h]
theorem eq_int (d : Nat) (n : Int) (w : World) : (Op.equalIn (d + 1) 3 (.int .i64 n) (.int .i64 n)).run Try.prog w = .ok true w := by
  simp [go_sem, Try.underlying3]
theorem eq7 (xs : List Rsn) (d : Nat) (w : World) : (Op.equalIn (d + 2) 27 (.agg (cntV xs).toArray) (.agg (cntV xs).toArray)).run Try.prog w = .ok true w := by
  have hu : Try.prog.underlying 27 = some (.array 7 3) := Try.underlying27
  unfold Op.equalIn
  simp only [Sem.run_bind, run_underlying hu, Result.andThen_ok, (shape_one sh3 w).2]
  rw [Std.Legacy.Range.forIn_eq_forIn_range', loop_stays w _ _ _ (fun i hi => by
    have hi' : i < 7 := by simp [List.mem_range'] at hi; omega
    have hx := cntV_get xs hi'
    rw [← Nat.mul_one i] at hx
    simp only [Sem.run_bind, part_int _ _ _ hx w, Result.andThen_ok, eq_int]
    rfl)]
  rfl
theorem eql7 (xs : List Rsn) (w : World) : (binOp .eql 27 (.agg (cntV xs).toArray) (.agg (cntV xs).toArray)).run Try.prog w = .ok (.bool true) w := by
  rw [run_eql_struct, eq7 xs 9998 w]
  rfl
theorem guard7 (op : BinOp) (x y : Operand) (xs ys : Array Value) (w : World) : (eqGuard op 27 x y (.agg xs) (.agg ys)).run Try.prog w = .ok () w := run_eqGuard_agg w op 27 x y xs ys (by kernel_rfl)
theorem info_rep : ∃ ie, Try.prog.info? 37 = some ie ∧ ie.zero = some (.agg (repL (.slice none 0 0)).toArray) ∧ ie.size = 7 ∧ ie.bytes ≤ 1000000 := info_of _ _ _ zr37 (by kernel_rfl)
theorem build_rep (v : Value) (w : World) : (Instr.buildSlice 26 1 ([(0, .agg (repL v).toArray)] : List (Nat × Value)).toArray).run Try.prog w = .ok (.slice (some ⟨w.heap.size, 0, none⟩) 1 1) (w.alloc (.cells (repL v).toArray 37)) := by
  have := run_slice_rows (P := Try.prog) 26 37 1 7 (by omega) (by omega) (by omega) Try.underlying26 (by kernel_rfl) [repL v] rfl (by intro x hx; simp at hx; subst hx; rfl) w
  simpa [partsOf, repL] using this
theorem one_slat {w : World} {b : Nat} {T : TypeId} {v : Value} (h : PBox w b T (repL v)) : SlAt w 7 (.slice (some ⟨b, 0, none⟩) 1 1) ([v].map repL) :=
  ⟨_, 1, rfl, by simp, by unfold maxLen; omega, fun _ => ⟨b, 0, rfl, fun i r hi j u hj => by
    match i, hi with
    | 0, hi =>
      simp at hi
      subst hi
      exact h.cell (by simpa using hj)⟩⟩
theorem reps_one {vals : List Value} (h : ∀ v ∈ vals, v.oneCell' = true) : (vals.map repL).flatten.all (·.oneCell') = true := by
  rw [List.all_eq_true]
  intro x hx
  obtain ⟨r, hr, hxr⟩ := List.mem_flatten.1 hx
  obtain ⟨v, hv, rfl⟩ := List.mem_map.1 hr
  simp only [repL, List.mem_cons, List.not_mem_nil, or_false] at hxr
  rcases hxr with rfl | rfl | rfl | rfl | rfl | rfl | rfl
  any_goals rfl
  exact h _ hv
theorem row_oneCell {E : TypeId} {size n : Nat} {lr : List (Nat × TypeId × List Value)} {v : Value} {xs : List Value} (h : RowEnt E size lr v n xs) : v.oneCell' = true := by
  rcases h.2 with ⟨_, rfl, _⟩ | ⟨g, cap, junk, _, rfl, _⟩ <;> rfl
theorem flat_len_le {rss : List (List Rsn)} (h : ∀ rs ∈ rss, rs.length ≤ 4) : rss.flatten.length ≤ 4 * rss.length := by
  induction rss with
  | nil => simp
  | cons x rss ih =>
    have h1 := h x (by simp)
    have h2 := ih (fun y hy => h y (List.mem_cons_of_mem _ hy))
    simp only [List.flatten_cons, List.length_append, List.length_cons]
    omega
theorem row_form {E : TypeId} {size n : Nat} {lr : List (Nat × TypeId × List Value)} {v : Value} {xs : List Value} (h : RowEnt E size lr v n xs) : ∃ ao cap, v = .slice ao n cap ∧ n ≤ cap ∧ cap ≤ maxLen := by
  rcases h.2 with ⟨_, rfl, rfl⟩ | ⟨g, cap, junk, _, rfl, h1, h2, _⟩
  · exact ⟨none, 0, rfl, Nat.le_refl _, Nat.zero_le _⟩
  · exact ⟨_, cap, rfl, h1, h2⟩
section
variable {P : Program}
theorem run_sl_hi {o : Oper} {a : Act} {w : World} {t E : TypeId} {x y : Operand} {ao : Option Addr} {n cap k s : Nat} {sv : Value} (ho : o.op = .slice t x none (some y) none) (hu : P.underlying t = some (.slice E)) (hs : (P.info? E).map (·.size) = some s) (hx : a.eval x = .slice ao n cap) (hy : a.eval y = .int .i64 (k : Int)) (hk : k ≤ cap) (hv : sv = sliced ao 0 k cap s) :
    (execOp a.eval o).run P w = .ok (.value sv) w := by
  cases hi : P.info? E with
  | none => rw [hi] at hs; cases hs
  | some i =>
    rw [hi] at hs
    simp at hs
    subst hs hv
    unfold execOp
    simp [ho, hx, hy, Instr.sliceAt, Instr.slice, run_underlying hu, Instr.sliceBounds, run_sliceBound, hk, sizeOf, typeInfo, hi, sliced]
theorem run_sl_lo {o : Oper} {a : Act} {w : World} {t E : TypeId} {x y : Operand} {ao : Option Addr} {n cap k s : Nat} {sv : Value} (ho : o.op = .slice t x (some y) none none) (hu : P.underlying t = some (.slice E)) (hs : (P.info? E).map (·.size) = some s) (hx : a.eval x = .slice ao n cap) (hy : a.eval y = .int .i64 (k : Int)) (hk : k ≤ n) (hv : sv = sliced ao k n cap s) :
    (execOp a.eval o).run P w = .ok (.value sv) w := by
  cases hi : P.info? E with
  | none => rw [hi] at hs; cases hs
  | some i =>
    rw [hi] at hs
    simp at hs
    subst hs hv
    unfold execOp
    simp [ho, hx, hy, Instr.sliceAt, Instr.slice, run_underlying hu, Instr.sliceBounds, run_sliceBound, hk, sizeOf, typeInfo, hi, sliced]
end
theorem built_rep (ao : Option Addr) (m cp : Nat) : Try.prog.built 37 [(1, .slice ao m cp)] = some (repL (.slice ao m cp)).toArray := by kernel_rfl
theorem turn_flat {tvals : List Value} {k : Nat} (hk : k ≤ tvals.length) (vr : Value) : (([] ++ (tvals.map repL).flatten.take (k * 7)) ++ repL vr) ++ (tvals.map repL).flatten.drop (k * 7) = (((tvals.take k ++ [vr]) ++ tvals.drop k).map repL).flatten := by
  have := take_flatten (reps_len tvals) k (by rw [List.length_map]; exact hk)
  rw [this.1, this.2]
  simp [List.map_take, List.map_drop]
theorem turn_len {tvals : List Value} {k : Nat} (hk : k ≤ tvals.length) (vr : Value) : (((0 + k) + 1) + (tvals.length - k)) = ((tvals.take k ++ [vr]) ++ tvals.drop k).length := by
  simp
  omega
section
variable {α : Type} {x y z : α} {A B C D E : List α}
/-- The last one comes to the front. -/
theorem bring_perm : (x :: y :: (A ++ (z :: (B ++ (C ++ (D ++ E)))))).Perm (y :: (A ++ (z :: (B ++ (C ++ (D ++ (E ++ [x]))))))) := by
  have e : (y :: (A ++ (z :: (B ++ (C ++ (D ++ (E ++ [x]))))))) = (y :: (A ++ (z :: (B ++ (C ++ (D ++ E)))))) ++ [x] := by simp
  rw [e]
  exact (List.perm_append_singleton x _).symm
end
theorem St.give {cc : Option Nat} {q : CodeRow} {w0 w : World} {x y z : Nat × TypeId × List Value} {A B C D E : List (Nat × TypeId × List Value)} (h : St cc q w0 w (x :: y :: (A ++ (z :: (B ++ (C ++ (D ++ E))))))) : St cc q w0 w (A ++ (D ++ ((B ++ E) ++ [x]))) := by
  have h1 : St cc q w0 w (x :: (A ++ (B ++ (D ++ E)))) := h.sub (List.Sublist.cons_cons _ (List.Sublist.cons _ (List.Sublist.append_left (List.Sublist.cons _ (List.Sublist.append_left (List.sublist_append_right C _) B)) A)))
  refine h1.perm ?_
  have e : A ++ (D ++ ((B ++ E) ++ [x])) = (A ++ (D ++ (B ++ E))) ++ [x] := by simp
  rw [e]
  exact (List.perm_append_singleton x _).trans (List.Perm.cons x ((List.perm_append_comm_assoc D B E).append_left A))
theorem ones_turn {tvals tv2 : List Value} {k : Nat} {vr : Value} (h : ∀ v ∈ tvals, v.oneCell' = true) (h2 : tv2 = ((tvals.take k ++ [vr]) ++ tvals.drop k)) (h3 : vr.oneCell' = true) : ∀ v ∈ tv2, v.oneCell' = true := fun v hv => by
  rw [h2] at hv
  simp only [List.mem_append, List.mem_singleton] at hv
  rcases hv with (hv | rfl) | hv
  · exact h v (List.mem_of_mem_take hv)
  · exact h3
  · exact h v (List.mem_of_mem_drop hv)
theorem four_more {rss : List (List Rsn)} {rs : List Rsn} (h : ∀ x ∈ rss, x.length ≤ 4) (h2 : rs.length ≤ 4) : ∀ x ∈ rss ++ [rs], x.length ≤ 4 := fun x hx => by
  rcases List.mem_append.1 hx with hx | hx
  · exact h x hx
  · simp at hx; subst hx; exact h2
theorem rep_at {cc : Option Nat} {q : CodeRow} {w0 w : World} {L lr : List (Nat × TypeId × List Value)} {v : Value} {vals : List Value} {n : Nat} (h : St cc q w0 w L) (hm : ∀ e ∈ lr, e ∈ L) (hn : n = vals.length) (hr : RowEnt 37 7 lr v n (vals.map repL).flatten) : SlAt w 7 v (vals.map repL) :=
  RowEnt.at h hm (reps_len vals) (by rw [List.length_map, ← hn]; exact hr)
end Go.Proofs.Ytmipkjgilikcnaa
