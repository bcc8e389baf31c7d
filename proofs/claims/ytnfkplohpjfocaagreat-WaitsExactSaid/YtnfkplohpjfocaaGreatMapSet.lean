/-
  A set of numbers as a map of the call's own: it is made, asked, and grows. No function of the program is named here.
-/
import Derived.Test.YtnfkplohpjfocaaGreatAppA
set_option linter.unusedVariables false
set_option linter.unusedSimpArgs false
namespace Go.Proofs.YtnfkplohpjfocaaGreat
open Go.RowKit
section
variable {P : Program} {q : CodeRow} {w0 w : World} {l : List (Nat × TypeId × List Value)} {b : Nat} {ks : List Int} {rest : List (Nat × List Int)}
/-- The same with other sets. -/
def CodeRow.withMaps (q : CodeRow) (m : List (Nat × List Int)) : CodeRow := ⟨q.a, q.len, q.cap, m⟩
theorem St.newMap (h : St none q w0 w l) : St none (q.withMaps ((w.heap.size, []) :: q.maps)) w0 (w.alloc (.map #[] 0)) l := by
  have h1 := h.ext ((Ext.refl w).alloc (.map #[] 0))
  refine ⟨h1.fr, (fun c e => by cases e), h1.own, fun _ x hx => ?_⟩
  rcases List.mem_cons.1 hx with rfl | hx
  · exact ⟨h.fr.size, #[], 0, by show (w.heap.push _)[w.heap.size]? = _; simp, rfl⟩
  · exact h1.maps rfl x hx
theorem findNow_int (k : Int) : ∀ (es : List MapEntry) (ks : List Int) (i : Nat), es.map (fun e => (e.key, e.val)) = ks.map (fun k => (Value.int .i64 k, Value.bool true)) →
    (k ∈ ks → ∃ j, Instr.findNow (.int .i64) (.int .i64 k) es i = some (some (j, .bool true))) ∧ (k ∉ ks → Instr.findNow (.int .i64) (.int .i64 k) es i = some none)
  | [], [], i, _ => ⟨fun h => by simp at h, fun _ => rfl⟩
  | [], _ :: _, i, h => by simp at h
  | _ :: _, [], i, h => by simp at h
  | e :: es, x :: ks, i, h => by
    simp only [List.map_cons, List.cons.injEq, Prod.mk.injEq] at h
    obtain ⟨⟨h1, h2⟩, h3⟩ := h
    have ih := findNow_int k es ks (i + 1) h3
    by_cases hk : k = x
    · subst hk
      refine ⟨fun _ => ⟨i, ?_⟩, fun hn => by simp at hn⟩
      simp [Instr.findNow, Instr.sameNow, h1, h2]
    · have hs : Instr.sameNow (.int .i64) (.int .i64 k) e.key = some false := by rw [h1]; simp [Instr.sameNow, hk]
      have hf : Instr.findNow (.int .i64) (.int .i64 k) (e :: es) i = Instr.findNow (.int .i64) (.int .i64 k) es (i + 1) := by simp [Instr.findNow, hs]
      rw [hf]
      refine ⟨fun hm => ih.1 ?_, fun hn => ih.2 ?_⟩
      · rcases List.mem_cons.1 hm with e2 | hm
        · exact absurd e2 hk
        · exact hm
      · exact fun hm => hn (List.mem_cons_of_mem _ hm)
theorem run_setObj_set {w : World} {r : Nat} {es : Array MapEntry} {clock : Nat} (o : Obj) (hb : w.heap[r]? = some (.map es clock)) : (setObj r o).run P w = .ok () { w with heap := w.heap.setIfInBounds r o } := by simp [setObj, Sem.run, hb]
theorem run_checkKey_int (w : World) (e : Bool) (n : Nat) (kt : TypeId) (v : Value) (hk : P.underlying kt = some (.int .i64)) : (Instr.checkKey e (n + 1) kt v).run P w = .ok () w := by
  unfold Instr.checkKey
  simp [run_underlying hk]
theorem run_lookup_set (w : World) (T kt et : TypeId) (hT : P.underlying T = some (.map kt et)) (hk : P.underlying kt = some (.int .i64)) (hz : ∀ w, (zeroValue et).run P w = .ok (.bool false) w) (hm : MapAt w b ks) (k : Int) :
    (Instr.lookup T (.map (some b)) (.int .i64 k) false).run P w = .ok (.bool (ks.contains k)) w := by
  obtain ⟨es, clock, hh, he⟩ := hm
  have hf := findNow_int k es.toList ks 0 he
  have hg : (getObj b).run P w = .ok (.map es clock) w := by simp [getObj, Sem.run, hh]
  unfold Instr.lookup
  simp only [Sem.run_bind, run_underlying hT, Result.andThen_ok, hg, Sem.run_pure, run_checkKey_int w es.isEmpty 9999 kt (.int .i64 k) hk, Instr.findKey, run_underlying hk]
  by_cases hc : k ∈ ks
  · obtain ⟨j, hj⟩ := hf.1 hc
    rw [hj]
    simp [hc]
  · rw [hf.2 hc]
    simp [hz w, hc]
theorem run_put_set (w : World) (T kt et : TypeId) (hT : P.underlying T = some (.map kt et)) (hk : P.underlying kt = some (.int .i64)) (hm : MapAt w b ks) (k : Int) (hn : k ∉ ks) :
    ∃ w', (Instr.mapUpdate T (.map (some b)) (.int .i64 k) (.bool true)).run P w = .ok () w' ∧ MapAt w' b (ks ++ [k]) ∧ Only b w w' ∧ w'.heap.size = w.heap.size := by
  obtain ⟨es, clock, hh, he⟩ := hm
  have hf := (findNow_int k es.toList ks 0 he).2 hn
  have hg : (getObj b).run P w = .ok (.map es clock) w := by simp [getObj, Sem.run, hh]
  have hlt := (Array.getElem?_eq_some_iff.1 hh).1
  refine ⟨{ w with heap := w.heap.setIfInBounds b (.map (es.push { key := .int .i64 k, val := .bool true, born := clock }) (clock + 1)) }, ?_, ⟨es.push { key := .int .i64 k, val := .bool true, born := clock }, clock + 1, ?_, ?_⟩, ⟨rfl, rfl, rfl, by simp, fun i hi hne => ?_⟩, by simp⟩
  · unfold Instr.mapUpdate
    simp only [Sem.run_bind, run_underlying hT, Result.andThen_ok, hg, run_checkKey_int w false 9999 kt (.int .i64 k) hk, Instr.findKey, run_underlying hk, hf, Sem.run_pure]
    exact run_setObj_set _ hh
  · simp [Array.getElem?_setIfInBounds, hlt]
  · simp [he]
  · have : ¬ b = i := fun e => hne (by rw [e])
    simp [Array.getElem?_setIfInBounds, this]
theorem St.putMap (h : St none q w0 w l) {w' : World} (hq : q.maps = (b, ks) :: rest) {ks' : List Int} (hm' : MapAt w' b ks') (ho : Only b w w') (hne : ∀ x ∈ rest, x.1 ≠ b) : St none (q.withMaps ((b, ks') :: rest)) w0 w' l := by
  have hb := h.maps rfl (b, ks) (by rw [hq]; simp)
  refine ⟨⟨ho.os.trans h.fr.os, ho.tape.trans h.fr.tape, ho.output.trans h.fr.output, Nat.le_trans h.fr.size ho.size, fun i hi hn => (ho.block i (Nat.lt_of_lt_of_le hi h.fr.size) (fun e => by have := hb.1; simp at e; omega)).trans (h.fr.block i hi hn)⟩, (fun c e => by cases e), ?_, fun _ x hx => ?_⟩
  · rw [Bx_iff]
    refine ⟨fun x hx => ?_, (Bx_iff.1 h.own).2⟩
    have hx' := (Bx_iff.1 h.own).1 x hx
    exact ⟨hx'.1, hx'.2.same (ho.block x.1 hx'.2.lt (fun e => hb.2.ne hx'.2 (by simpa using e.symm)))⟩
  · rcases List.mem_cons.1 hx with rfl | hx
    · exact ⟨hb.1, hm'⟩
    · have hx' := h.maps rfl x (by rw [hq]; exact List.mem_cons_of_mem _ hx)
      exact ⟨hx'.1, hx'.2.same (ho.block x.1 hx'.2.lt (fun e => hne x hx (by simpa using e)))⟩
end
section
variable {P : Program} {ops : Array Oper} {Q : Exit → Act → World → Prop} {a : Act} {w : World} {q : CodeRow} {w0 : World} {l : List (Nat × TypeId × List Value)} {o : Oper} {rest : List Oper}
theorem sx_makeMap (HS : Hid (St none q w0 w l)) (hw : Region.wanted o (yielded ops a.tmps) = true) (T : TypeId) (ho : o.op = .makeMap T none)
    (h : ∀ w' b, Hid (St none (q.withMaps ((b, []) :: q.maps)) w0 w' l) → wpList P ops Q rest (a.put o.dst (.map (some b))) w') : wpList P ops Q (o :: rest) a w :=
  wpList_wanted hw fun _ hK => by
    unfold Oper.wp execOp
    have hr : (Instr.makeMap T none).run P w = .ok (.map (some w.heap.size)) (w.alloc (.map #[] 0)) := by simp [Instr.makeMap]
    simp only [ho, Option.map_none, Sem.run_bind, hr, Result.andThen_ok, Sem.run_pure]
    exact hK _ _ (h _ _ (St.newMap HS.out))
theorem sx_putMap (HS : Hid (St none q w0 w l)) (hw : Region.wanted o (yielded ops a.tmps) = true) (T kt et : TypeId) (m kx vx : Operand) (ho : o.op = .mapUpdate T m kx vx ∨ o.op = .insert T m kx vx) (hd : o.dst = none) (hT : P.underlying T = some (.map kt et)) (hkt : P.underlying kt = some (.int .i64)) (b : Nat) (ks : List Int) (mr : List (Nat × List Int)) (hq : q.maps = (b, ks) :: mr) (hne : ∀ x ∈ mr, x.1 ≠ b)
    (hm : a.eval m = .map (some b)) (k : Int) (hk : a.eval kx = .int .i64 k) (hv : a.eval vx = .bool true) (hn : k ∉ ks)
    (h : ∀ w', Hid (St none (q.withMaps ((b, ks ++ [k]) :: mr)) w0 w' l) → wpList P ops Q rest a w') : wpList P ops Q (o :: rest) a w :=
  wpList_wanted hw fun _ hK => by
    have hma := (HS.out.maps rfl (b, ks) (by rw [hq]; simp)).2
    obtain ⟨w', hr, hm', hO, _⟩ := run_put_set (P := P) w T kt et hT hkt hma k hn
    unfold Oper.wp execOp
    have := hK _ _ (h w' (HS.out.putMap hq hm' hO hne))
    rcases ho with ho | ho
    all_goals
      simp only [ho, hm, hk, hv, Sem.run_bind, hr, Result.andThen_ok, Sem.run_pure, Oper.upon, hd, Act.put]
      exact this
theorem sx_lookMap (HS : Hid (St none q w0 w l)) (hw : Region.wanted o (yielded ops a.tmps) = true) (T kt et : TypeId) (m kx : Operand) (ho : o.op = .lookup T m kx false) (hT : P.underlying T = some (.map kt et)) (hkt : P.underlying kt = some (.int .i64)) (hz : ∀ w, (zeroValue et).run P w = .ok (.bool false) w) (b : Nat) (ks : List Int) (hq : (b, ks) ∈ q.maps)
    (hm : a.eval m = .map (some b)) (k : Int) (hk : a.eval kx = .int .i64 k) (c : Bool) (hc : ks.contains k = c)
    (h : wpList P ops Q rest (a.put o.dst (.bool c)) w) : wpList P ops Q (o :: rest) a w :=
  wpList_wanted hw fun _ hK => by
    have hma := (HS.out.maps rfl (b, ks) hq).2
    have hr := run_lookup_set (P := P) w T kt et hT hkt hz hma k
    rw [hc] at hr
    unfold Oper.wp execOp
    simp only [ho, hm, hk, Sem.run_bind, hr, Result.andThen_ok, Sem.run_pure]
    exact hK _ _ h
end
end Go.Proofs.YtnfkplohpjfocaaGreat
