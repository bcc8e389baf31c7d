/-
  A slice that the call builds by append, as one of its own blocks; and laws for a region that draws its order and holds such an append. No function of the program is named here.
-/
import Derived.Test.YtnfkplohpjfocaaHk
import Derived.Maps.AppendAt
set_option linter.unusedVariables false
set_option linter.unusedSimpArgs false
namespace Go.Proofs.Ytnfkplohpjfocaa
open Go.RowKit
section
variable {base : Nat} {w : World} {l : List (Nat × TypeId × List Value)}
theorem Bx_iff : ∀ {l : List (Nat × TypeId × List Value)}, Bx base w l ↔ (∀ x ∈ l, base ≤ x.1 ∧ PBox w x.1 x.2.1 x.2.2) ∧ l.Pairwise (fun x y => y.1 ≠ x.1)
  | [] => by simp [Bx]
  | x :: l => by
    simp only [Bx, Bx_iff (l := l), List.mem_cons, forall_eq_or_imp, List.pairwise_cons]
    constructor
    · rintro ⟨h1, h2, h3, h4, h5⟩
      exact ⟨⟨⟨h1, h2⟩, h4⟩, h3, h5⟩
    · rintro ⟨⟨⟨h1, h2⟩, h4⟩, h3, h5⟩
      exact ⟨h1, h2, h3, h4, h5⟩
end
section
variable {cc : Option Nat} {q : CodeRow} {w0 w w' : World} {l L lr front : List (Nat × TypeId × List Value)} {E : TypeId} {size n m : Nat} {v v' : Value} {xs news : List Value}
theorem St.sub (h : St cc q w0 w L) (hs : l.Sublist L) : St cc q w0 w l :=
  ⟨h.fr, h.codes, Bx_iff.2 ⟨fun x hx => (Bx_iff.1 h.own).1 x (hs.subset hx), (Bx_iff.1 h.own).2.sublist hs⟩, h.maps⟩
/-- A row of the call's own: nothing yet, or one entry. -/
def RowEnt (E : TypeId) (size : Nat) (lr : List (Nat × TypeId × List Value)) (v : Value) (n : Nat) (xs : List Value) : Prop :=
  xs.length = n * size ∧ ((lr = [] ∧ v = .slice none 0 0 ∧ n = 0) ∨ ∃ g cap junk, lr = [(g, E, xs ++ junk)] ∧ v = .slice (some ⟨g, 0, none⟩) n cap ∧ n ≤ cap ∧ cap ≤ maxLen ∧ (xs ++ junk).length = cap * size)
theorem RowEnt.nil : RowEnt E size [] (.slice none 0 0) 0 [] := ⟨by simp, .inl ⟨rfl, rfl, rfl⟩⟩
theorem RowEnt.pos (h : RowEnt E size lr v n xs) (hn : 0 < n) : ∃ g cap junk, lr = [(g, E, xs ++ junk)] ∧ v = .slice (some ⟨g, 0, none⟩) n cap ∧ n ≤ cap ∧ cap ≤ maxLen := by
  rcases h.2 with ⟨_, _, h3⟩ | ⟨g, cap, junk, h1, h2, h3, h4, _⟩
  · omega
  · exact ⟨g, cap, junk, h1, h2, h3, h4⟩
theorem RowEnt.owns (h : St cc q w0 w (front ++ (lr ++ l))) (hr : RowEnt E size lr v n xs) : w.ownsRow w0.heap.size E size v n xs := by
  refine ⟨hr.1, ?_⟩
  rcases hr.2 with ⟨_, h2, h3⟩ | ⟨g, cap, junk, rfl, rfl, h1, h2, h3⟩
  · exact .inl ⟨h2, h3⟩
  · have hb := (Bx_iff.1 h.own).1 (g, E, xs ++ junk) (by simp)
    refine .inr ⟨g, cap, (xs ++ junk).toArray, rfl, hb.1, hb.2, h1, h2, by simpa using h3, ?_⟩
    rw [← hr.1]
    simp
theorem St.append (h : St cc q w0 w (front ++ (lr ++ l))) (hr : RowEnt E size lr v n xs) (hown : w'.ownsRow w0.heap.size E size v' (n + m) (xs ++ news)) (hg : w.grownBy w' v.ownBlock) (hat : v'.ownBlock = v.ownBlock ∨ v'.ownBlock = some w.heap.size) :
    ∃ lr', St cc q w0 w' (front ++ (lr' ++ l)) ∧ RowEnt E size lr' v' (n + m) (xs ++ news) := by
  obtain ⟨hm, hp⟩ := Bx_iff.1 h.own
  have hsz := h.size
  have hge : ∀ g, v.ownBlock = some g → w0.heap.size ≤ g ∧ ∀ x ∈ front ++ l, x.1 ≠ g := by
    intro g hv
    rcases hr.2 with ⟨_, rfl, _⟩ | ⟨g', cap, junk, rfl, rfl, _⟩
    · simp [Value.ownBlock] at hv
    · simp [Value.ownBlock] at hv
      subst hv
      refine ⟨(hm (g', E, xs ++ junk) (by simp)).1, ?_⟩
      intro x hx
      simp only [List.pairwise_append, List.pairwise_cons, List.mem_append, List.mem_cons, List.not_mem_nil, or_false, List.singleton_append] at hp
      rcases List.mem_append.1 hx with hx | hx
      · exact fun e => hp.2.2 x hx _ (.inl rfl) e.symm
      · exact hp.2.1.1 x hx
  have hfr : w0.grownBy w' cc := ⟨hg.os.trans h.fr.os, hg.tape.trans h.fr.tape, hg.output.trans h.fr.output, Nat.le_trans h.fr.size hg.size, fun i hi hn => (hg.block i (Nat.lt_of_lt_of_le hi h.fr.size) (fun e => by have := (hge i e.symm).1; omega)).trans (h.fr.block i hi hn)⟩
  have hcd : ∀ c, cc = some c → CodesAt q w0 c ∧ CodesAt q w' c := fun c e => ⟨(h.codes c e).1, (h.codes c e).1.kept (h.codes c e).2 hg (fun i hi => (hge i hi).1)⟩
  have hmaps : cc = none → ∀ x ∈ q.maps, w0.heap.size ≤ x.1 ∧ MapAt w' x.1 x.2 := fun e x hx => by
    have hx' := h.maps e x hx
    refine ⟨hx'.1, hx'.2.same (hg.block x.1 hx'.2.lt (fun e2 => ?_))⟩
    rcases hr.2 with ⟨_, rfl, _⟩ | ⟨g', cap, junk, rfl, rfl, _⟩
    · simp [Value.ownBlock] at e2
    · simp [Value.ownBlock] at e2
      exact hx'.2.ne (hm (g', E, xs ++ junk) (by simp)).2 e2
  have hold : ∀ x ∈ front ++ l, w0.heap.size ≤ x.1 ∧ PBox w' x.1 x.2.1 x.2.2 := fun x hx => by
    have hx' := hm x (by simp only [List.mem_append] at hx ⊢; rcases hx with hx | hx <;> simp [hx])
    exact ⟨hx'.1, hx'.2.same (hg.block x.1 hx'.2.lt (fun e => (hge x.1 e.symm).2 x hx rfl))⟩
  have hlt : ∀ x ∈ front ++ l, x.1 < w.heap.size := fun x hx => (hm x (by simp only [List.mem_append] at hx ⊢; rcases hx with hx | hx <;> simp [hx])).2.lt
  have hpo : (front ++ l).Pairwise (fun x y => y.1 ≠ x.1) := by
    refine hp.sublist ?_
    exact List.Sublist.append_left (List.sublist_append_right lr l) front
  rcases hown.2 with ⟨hv, hn⟩ | ⟨g, cap, cur, hv, hb, hgg, h1, h2, h3, h4⟩
  · exact ⟨[], ⟨hfr, hcd, Bx_iff.2 ⟨by simpa using hold, by simpa using hpo⟩, hmaps⟩, hown.1, .inl ⟨rfl, hv, hn⟩⟩
  · have hne : ∀ x ∈ front ++ l, x.1 ≠ g := fun x hx => by
      rw [hv] at hat
      rcases hat with e | e
      · exact (hge g (by rw [← e]; rfl)).2 x hx
      · have := hlt x hx
        simp [Value.ownBlock] at e
        omega
    have hcur : cur.toList = (xs ++ news) ++ cur.toList.drop ((n + m) * size) := by rw [← h4, List.take_append_drop]
    refine ⟨[(g, E, (xs ++ news) ++ cur.toList.drop ((n + m) * size))], ⟨hfr, hcd, Bx_iff.2 ⟨?_, ?_⟩, hmaps⟩, hown.1, .inr ⟨g, cap, _, rfl, hv, h1, h2, ?_⟩⟩
    · intro x hx
      simp only [List.mem_append, List.mem_singleton] at hx
      rcases hx with hx | rfl | hx
      · exact hold x (by simp [hx])
      · refine ⟨hb, ?_⟩
        unfold PBox
        rw [← hcur]
        simpa using hgg
      · exact hold x (by simp [hx])
    · rw [List.pairwise_append] at hpo ⊢
      refine ⟨hpo.1, ?_, ?_⟩
      · simp only [List.singleton_append, List.pairwise_cons]
        exact ⟨fun y hy => hne y (by simp [hy]), hpo.2.1⟩
      · intro x hx y hy
        simp only [List.singleton_append, List.mem_cons] at hy
        rcases hy with rfl | hy
        · exact fun e => hne x (by simp [hx]) e.symm
        · exact hpo.2.2 x hx y hy
    · rw [← hcur, Array.length_toList, h3]
end
section
variable {P : Program} {ops : Array Oper} {Q : Exit → Act → World → Prop} {a : Act} {w : World} {cc : Option Nat} {q : CodeRow} {w0 : World} {l L : List (Nat × TypeId × List Value)} {fuel : Nat} {listed : Array Bool} {o : Oper}
theorem hg_begin (l : List (Nat × TypeId × List Value)) {id : Nat} (HS : Hid (St cc q w0 w L)) (hm : P.follows .mixedOrders = true)
    (h : ∀ w', Hid (St cc q w0 w' L) → wpAnyH P .any ops Q (InSt cc q w0 l) ops.size (Array.replicate ops.size false) a w') : (Code.region id ops true).wp P Q a w :=
  wp_region_held hm (h _ HS.out.drew)
/-- An operation that yields its value in whatever world. -/
theorem hg_reg (i : Nat) (d : Option Tmp) (hd0 : (ops[i]?).bind (·.dst) = d) (hi : ops[i]? = some o) (hs : Region.noSelect ops = true) (hf : Region.free .any ops listed i = true) (hr : (Region.ready .any ops listed).contains i = true)
    (hQ : ∀ v c a w, Q (.panic c) (a.put o.dst v) w → Q (.panic c) a w) (HS : Hid (St cc q w0 w L)) (hk : l.Sublist L) (v : Value) (hw : Region.wanted o (yielded ops a.tmps) = true)
    (hrun : ∀ w, (execOp a.eval o).run P w = .ok (.value v) w) (h : wpAnyH P .any ops Q (InSt cc q w0 l) fuel (listed.setIfInBounds i true) (a.put d v) w) : wpAnyH P .any ops Q (InSt cc q w0 l) (fuel + 1) listed a w :=
  have hd : o.dst = d := by rw [hi] at hd0; exact hd0
  wpAnyH_take (v := v) hi hs hf hr (hQ v) (.inl ⟨hw, fun w _ => hrun w⟩) (HS.out.sub hk) (by rw [hd]; exact h)
/-- A struct of the call's own is read. -/
theorem hg_loads (i : Nat) (d : Option Tmp) (hd0 : (ops[i]?).bind (·.dst) = d) (hi : ops[i]? = some o) (hs : Region.noSelect ops = true) (hf : Region.free .any ops listed i = true) (hr : (Region.ready .any ops listed).contains i = true)
    (hQ : ∀ v c a w, Q (.panic c) (a.put o.dst v) w → Q (.panic c) a w) (HS : Hid (St cc q w0 w L)) (hk : l.Sublist L) (hw : Region.wanted o (yielded ops a.tmps) = true)
    (ty : TypeId) (x : Operand) (ho : o.op = .load ty x) (j b : Nat) (T : TypeId) (cs : List Value) (hl : l[j]? = some (b, T, cs)) (off : Nat) (hx : a.eval x = .pointer (some ⟨b, off, none⟩)) (n : Nat) (hsh : shapeOf P ty = some (true, n)) (vs : List Value) (hn : vs.length = n) (hv : cellsAt cs off vs)
    (h : wpAnyH P .any ops Q (InSt cc q w0 l) fuel (listed.setIfInBounds i true) (a.put d (.agg vs.toArray)) w) : wpAnyH P .any ops Q (InSt cc q w0 l) (fuel + 1) listed a w :=
  have hd : o.dst = d := by rw [hi] at hd0; exact hd0
  wpAnyH_take (v := .agg vs.toArray) hi hs hf hr (hQ _) (.inl ⟨hw, fun w hS => by
    have hB : PBox w b T cs := St.box hS hl
    unfold execOp
    simp only [ho, hx, Instr.loadAt, Instr.sureAddr, Sem.run_bind, Sem.run_pure, Result.andThen_ok, run_load_agg (P := P) hB hsh hn hv]⟩) (HS.out.sub hk) (by rw [hd]; exact h)
/-- A call that leaves the call's own blocks as they are. -/
theorem hg_call (i : Nat) (d : Option Tmp) (hd0 : (ops[i]?).bind (·.dst) = d) (hi : ops[i]? = some o) (hw : Region.wanted o (yielded ops a.tmps) = true) (_HS : Hid (St cc q w0 w L)) (hk : l.Sublist L) (f : FuncId) (as : List Operand) (ts : Array TypeId)
    (ho : o.op = .call { callee := .value (.func f), args := as.toArray, argTypes := ts }) {fn : Func} (hf : P.funcs[f]? = some fn) (hname : (fn.name == "runtime.NumGoroutine") = false) {c : Code} (hb : fn.body = some c)
    (al : List Value) (R : Value → Prop) (hc : Calls P f al.toArray w (fun e w' => ∃ v, e = .returned v ∧ R v ∧ St cc q w0 w' L)) (hargs : as.map a.eval = al)
    (h : ∀ v w', R v → Hid (St cc q w0 w' L) → wpAnyH P .any ops Q (InSt cc q w0 l) fuel (listed.setIfInBounds i true) (a.put d v) w') : HkX P ops Q (InSt cc q w0 l) fuel listed a w i := by
  have hd : o.dst = d := by rw [hi] at hd0; exact hd0
  refine ⟨o, hi, hw, ?_⟩
  unfold Oper.wp execOp
  have hrun : (callFunc f al.toArray).run P w = .ok (.enter f al.toArray) w := by
    have h1 : fn.name ≠ "runtime.NumGoroutine" := by simpa using hname
    simp [callFunc, hf, h1, hb]
  have hfv : a.eval (.func f) = .func (.func f) #[] #[] := rfl
  have hm : as.toArray.map a.eval = al.toArray := by rw [List.map_toArray, hargs]
  simp only [ho, resolve, Deferred.ofValue, invoke, hfv, hm, Sem.run_bind, Sem.run_pure, Result.andThen_ok, Array.empty_append, Array.append_empty, hrun, Oper.upon]
  refine hc.mono fun e w' he => ?_
  obtain ⟨v, rfl, hv, hx⟩ := he
  rw [hd]
  exact ⟨St.sub hx hk, h v w' hv hx⟩
theorem hg_alloc (i : Nat) (d : Option Tmp) (hd0 : (ops[i]?).bind (·.dst) = d) (hi : ops[i]? = some o) (hw : Region.wanted o (yielded ops a.tmps) = true) (HS : Hid (St cc q w0 w L)) (hk : l.Sublist L) (ty : TypeId) (ho : o.op = .alloc ty) (cs : List Value) (hz : (P.info? ty).bind (·.zero) = some (.agg cs.toArray))
    (h : ∀ w' b, Hid (St cc q w0 w' ((b, ty, cs) :: L)) → wpAnyH P .any ops Q (InSt cc q w0 l) fuel (listed.setIfInBounds i true) (a.put d (.pointer (some ⟨b, 0, none⟩))) w') : HkX P ops Q (InSt cc q w0 l) fuel listed a w i := by
  have hd : o.dst = d := by rw [hi] at hd0; exact hd0
  refine ⟨o, hi, hw, ?_⟩
  obtain ⟨z, hzz⟩ : ∃ z, z = Value.agg cs.toArray := ⟨_, rfl⟩
  rw [← hzz] at hz
  have hcs : z.cells = cs.toArray := by rw [hzz]; rfl
  cases hinf : P.info? ty with
  | none => simp [hinf] at hz
  | some inf =>
    have hz' : inf.zero = some z := by simpa [hinf] using hz
    unfold Oper.wp execOp
    have hr : (Instr.alloc ty true (.tuple #[])).run P w = .ok (.pointer (some ⟨w.heap.size, 0, none⟩)) (w.alloc (.cells z.cells ty)) := by
      simp [Instr.alloc, zeroValue, typeInfo, hinf, hz', newVar, newRow]
    simp only [ho, Sem.run_bind, hr, Result.andThen_ok, Sem.run_pure, Oper.upon]
    have HS' : Hid (St cc q w0 (w.alloc (.cells z.cells ty)) ((w.heap.size, ty, cs) :: L)) := HS.out.new (by have := NewBox.of w ty z.cells; rw [hcs] at this ⊢; exact this)
    rw [hd]
    exact ⟨HS'.out.sub (hk.cons _), h _ _ HS'⟩
/-- A struct goes into a block of the call's own that the region does not read. -/
theorem hg_stores (i : Nat) (hi : ops[i]? = some o) (hw : Region.wanted o (yielded ops a.tmps) = true) (HS : Hid (St cc q w0 w L)) (ty : TypeId) (x y : Operand) (ho : o.op = .store ty x y) (hd : o.dst = none) (j b : Nat) (T : TypeId) (cs : List Value) (hl : L[j]? = some (b, T, cs))
    (off : Nat) (hx : a.eval x = .pointer (some ⟨b, off, none⟩)) (cells : List Value) (hy : a.eval y = .agg cells.toArray) (n : Nat) (hsh : shapeOf P ty = some (true, n)) (hn : cells.length = n) (hoff : Nat.ble (off + n) cs.length = true) (h1 : cells.all (·.oneCell') = true) (hk : l.Sublist (L.set j (b, T, putCells cs off cells)))
    (h : ∀ w', Hid (St cc q w0 w' (L.set j (b, T, putCells cs off cells))) → wpAnyH P .any ops Q (InSt cc q w0 l) fuel (listed.setIfInBounds i true) a w') : HkX P ops Q (InSt cc q w0 l) fuel listed a w i := by
  refine ⟨o, hi, hw, ?_⟩
  have hB := HS.out.box hl
  obtain ⟨w', hr, hB', hko, _⟩ := run_storeCells_box (P := P) b T cells 0 off cs w hB (by have := Nat.le_of_ble_eq_true hoff; omega) (fun u hu => (List.all_eq_true.1 h1) u hu)
  simp only [Nat.add_zero] at hB'
  have HS' : Hid (St cc q w0 w' (L.set j (b, T, putCells cs off cells))) := HS.out.set hl hko hB'
  unfold Oper.wp execOp
  have hrun : (storeVar ty ⟨b, off, none⟩ (.agg cells.toArray)).run P w = .ok () w' := by
    unfold storeVar
    rw [Sem.run_bind, (shape_agg hsh w).2, Result.andThen_ok]
    simp [Value.cells, hn, hr]
  simp only [ho, hx, hy, Instr.storeAt, Instr.sureAddr, Sem.run_bind, Sem.run_pure, Result.andThen_ok, hrun, Oper.upon, hd, Act.put]
  exact ⟨HS'.out.sub hk, h _ HS'⟩
/-- A slice of literal parts. -/
theorem hg_build (i : Nat) (d : Option Tmp) (hd0 : (ops[i]?).bind (·.dst) = d) (hi : ops[i]? = some o) (hw : Region.wanted o (yielded ops a.tmps) = true) (HS : Hid (St cc q w0 w L)) (hk : l.Sublist L) (t E : TypeId) (len : Nat) (parts : List (Nat × Operand)) (ho : o.op = .buildSlice t len parts.toArray) (pl : List (Nat × Value)) (hpl : (parts.map fun x => (x.1, a.eval x.2)) = pl) (cs : List Value)
    (hrun : ∀ w : World, (Instr.buildSlice t len pl.toArray).run P w = .ok (.slice (some ⟨w.heap.size, 0, none⟩) len len) (w.alloc (.cells cs.toArray E)))
    (h : ∀ w' b, Hid (St cc q w0 w' ((b, E, cs) :: L)) → wpAnyH P .any ops Q (InSt cc q w0 l) fuel (listed.setIfInBounds i true) (a.put d (.slice (some ⟨b, 0, none⟩) len len)) w') : HkX P ops Q (InSt cc q w0 l) fuel listed a w i := by
  have hd : o.dst = d := by rw [hi] at hd0; exact hd0
  refine ⟨o, hi, hw, ?_⟩
  unfold Oper.wp execOp
  have HS' : Hid (St cc q w0 (w.alloc (.cells cs.toArray E)) ((w.heap.size, E, cs) :: L)) := HS.out.new (NewBox.of w E cs.toArray)
  have hm : (parts.toArray.map fun x => (x.1, a.eval x.2)) = pl.toArray := by rw [List.map_toArray, hpl]
  have hr := hrun w
  simp only [ho, hm, Sem.run_bind, hr, Result.andThen_ok, Sem.run_pure, Oper.upon]
  rw [hd]
  exact ⟨HS'.out.sub (hk.cons _), h _ _ HS'⟩
/-- A slice of the call's own grows by what another block of its own holds. -/
theorem hg_append (i : Nat) (d : Option Tmp) (hd0 : (ops[i]?).bind (·.dst) = d) (hi : ops[i]? = some o) (hw : Region.wanted o (yielded ops a.tmps) = true) {front lr ll : List (Nat × TypeId × List Value)} (HS : Hid (St cc q w0 w (front ++ (lr ++ ll)))) (hk : ∀ lr' : List (Nat × TypeId × List Value), l.Sublist (front ++ (lr' ++ ll)))
    (s x : Operand) (t : TypeId) (ho : o.op = .call { callee := .builtin .append, args := #[s, x], argTypes := #[t, t] })
    (E : TypeId) (ie : TypeInfo) (z : Value) (size bytes : Nat) (ht : P.underlying t = some (.slice E)) (hie : P.info? E = some ie) (hz : ie.zero = some z) (hsize : ie.size = size) (hby : ie.bytes = bytes) (hzs : z.cells.size = size) (hsz : 0 < size)
    (v : Value) (n : Nat) (xs : List Value) (hs : a.eval s = v) (hr : RowEnt E size lr v n xs) (j b m : Nat) (T : TypeId) (c : Nat) (news : List Value) (hl : (front ++ (lr ++ ll))[j]? = some (b, T, news)) (hx : a.eval x = .slice (some ⟨b, 0, none⟩) m c) (hlen : news.length = m * size) (h1 : news.all (·.oneCell') = true)
    (h63 : n + m ≤ maxLen) (hbytes : (n + m) * bytes ≤ 140737488355328)
    (h : ∀ v' w' lr', Hid (St cc q w0 w' (front ++ (lr' ++ ll))) → Hid (RowEnt E size lr' v' (n + m) (xs ++ news)) → wpAnyH P .any ops Q (InSt cc q w0 l) fuel (listed.setIfInBounds i true) (a.put d v') w') : HkX P ops Q (InSt cc q w0 l) fuel listed a w i := by
  have hd : o.dst = d := by rw [hi] at hd0; exact hd0
  refine ⟨o, hi, hw, ?_⟩
  have hB := HS.out.box hl
  obtain ⟨v', w', hrun, h2, h3, _, h5⟩ := run_append_own_at (P := P) w w0.heap.size t o.type E ie z size bytes ht hie hz hsize hby hzs hsz v n xs (RowEnt.owns HS.out hr) ⟨b, 0, none⟩ m c news hlen (fun j u hj => by rw [addr_add]; exact hB.cell (by simpa using hj)) (fun u hu => (List.all_eq_true.1 h1) u hu) h63 hbytes HS.out.size
  obtain ⟨lr', h6, h7⟩ := St.append HS.out hr h2 h3 h5
  unfold Oper.wp execOp
  simp only [ho, resolve, invoke, builtin, Sem.run_bind, Sem.run_pure, Result.andThen_ok, List.map_toArray, List.map_cons, List.map_nil, hs, hx, hrun, Oper.upon]
  rw [hd]
  exact ⟨St.sub h6 (hk lr'), h v' w' lr' h6 h7⟩
/-- An operation whose run is known. -/
theorem sx_run {rest : List Oper} (hw : Region.wanted o (yielded ops a.tmps) = true) (v : Value) (hrun : (execOp a.eval o).run P w = .ok (.value v) w) (h : wpList P ops Q rest (a.put o.dst v) w) : wpList P ops Q (o :: rest) a w :=
  wpList_wanted hw fun _ hK => by
    unfold Oper.wp
    rw [hrun]
    exact hK _ _ h
end
end Go.Proofs.Ytnfkplohpjfocaa
