/-
  What locks.Request gives, plainly; the comparison of grants; a region's loads of what it writes at its end.
-/
import Derived.Test.YtnfkplohpjfocaaGreatSetW
import Derived.Test.YtnfkplohpjfocaaGreatPlA
set_option linter.unusedVariables false
set_option linter.unusedSimpArgs false
namespace Go.Proofs.YtnfkplohpjfocaaGreat
open Go.RowKit
def reqE (hs ws : List G) (g : G) : Int :=
  if validT hs ws = false then 17 else if validG g = false then 1 else
    match ws.find? (fun x => x.tx == g.tx) with
    | some w => if sameG w g then 0 else 15
    | none => if g.mode ≤ modeF hs g then 0 else if hs.length + ws.length = 1024 then 21 else 0
section
variable {hs ws : List G} {g x : G}
theorem req_bad1 (h : validT hs ws = false) : reqF hs ws g = none ∧ reqE hs ws g = 17 := by unfold reqF reqE; simp [h]
theorem req_bad2 (h : validT hs ws = true) (h2 : validG g = false) : reqF hs ws g = none ∧ reqE hs ws g = 1 := by unfold reqF reqE; simp [h, h2]
theorem req_bad3 (h : validT hs ws = true) (h2 : validG g = true) (h3 : ws.find? (fun x => x.tx == g.tx) = some x) (h4 : sameG x g = false) : reqF hs ws g = none ∧ reqE hs ws g = 15 := by unfold reqF reqE; simp [h, h2, h3, h4]
theorem req_same (h : validT hs ws = true) (h2 : validG g = true) (h3 : ws.find? (fun x => x.tx == g.tx) = some x) (h4 : sameG x g = true) : reqF hs ws g = some (hs, ws, false) ∧ reqE hs ws g = 0 := by unfold reqF reqE; simp [h, h2, h3, h4]
theorem req_has (h : validT hs ws = true) (h2 : validG g = true) (h3 : ws.find? (fun x => x.tx == g.tx) = none) (h4 : g.mode ≤ modeF hs g) : reqF hs ws g = some (hs, ws, true) ∧ reqE hs ws g = 0 := by unfold reqF reqE; simp [h, h2, h3, h4]
theorem req_full (h : validT hs ws = true) (h2 : validG g = true) (h3 : ws.find? (fun x => x.tx == g.tx) = none) (h4 : ¬ g.mode ≤ modeF hs g) (h5 : hs.length + ws.length = 1024) : reqF hs ws g = none ∧ reqE hs ws g = 21 := by unfold reqF reqE; simp [h, h2, h3, h4, h5]
def insW (hs ws : List G) (g : G) : List G := ws.take (placeF hs ws g) ++ g :: ws.drop (placeF hs ws g)
theorem req_new (h : validT hs ws = true) (h2 : validG g = true) (h3 : ws.find? (fun x => x.tx == g.tx) = none) (h4 : ¬ g.mode ≤ modeF hs g) (h5 : ¬ hs.length + ws.length = 1024) : reqF hs ws g = some ((settle hs (insW hs ws g)).1, (settle hs (insW hs ws g)).2, decide (g.mode ≤ modeF (settle hs (insW hs ws g)).1 g)) ∧ reqE hs ws g = 0 := by unfold reqF reqE insW; simp [h, h2, h3, h4, h5]
theorem waitF_yes (h : validT hs ws = true) (tx : Int) : waitF hs ws tx = ws.find? (fun x => x.tx == tx) := by unfold waitF; rw [h]; rfl
end
theorem neq_grant (a b : G) (w : World) : (binOp .neq 29 (.agg a.arr) (.agg b.arr)).run Tryz.prog w = .ok (.bool (!sameG a b)) w := by
  obtain ⟨a1, a2, a3, a4⟩ := a
  obtain ⟨b1, b2, b3, b4⟩ := b
  unfold G.arr G.lst sameG sameLock
  dsimp only
  cases h1 : (a1 == b1) <;> cases h2 : (a2 == b2) <;> cases h3 : (a3 == b3) <;> cases h4 : (a4 == b4) <;> simp [go_sem, h1, h2, h3, h4, Tryz.underlying29, Tryz.underlying27]
theorem settle_srt {hs ws : List G} (h : sortedG hs) : sortedG (settle hs ws).1 := by
  have st := settle_sts hs ws
  have gen : ∀ {a b c d : List G}, Sts a b c d → sortedG a → sortedG c := by
    intro a b c d t
    induction t with
    | refl => exact id
    | step _ _ ih => exact fun k => ih (put_srt k)
  exact gen st h
theorem settle_len (hs ws : List G) : (settle hs ws).1.length + (settle hs ws).2.length ≤ hs.length + ws.length := by
  have gen : ∀ {a b c d : List G}, Sts a b c d → c.length + d.length ≤ a.length + b.length := by
    intro a b c d t
    induction t with
    | refl => exact Nat.le_refl _
    | @step a p s c d g _ _ ih =>
      have := putF_len g a
      simp only [List.length_append, List.length_cons] at ih ⊢
      omega
  exact gen (settle_sts hs ws)
section
variable {P : Program} {ops : Array Oper} {Q : Exit → Act → World → Prop} {a : Act} {w : World} {cc : Option Nat} {q : CodeRow} {w0 : World} {l L : List (Nat × TypeId × List Value)} {fuel : Nat} {listed : Array Bool} {o : Oper}
theorem hx_loads (i : Nat) (d : Option Tmp) (hd0 : (ops[i]?).bind (·.dst) = d) (hi : ops[i]? = some o) (hw : Region.wanted o (yielded ops a.tmps) = true) (HS : Hid (St cc q w0 w L)) (hk : l.Sublist L) (ty : TypeId) (x : Operand) (ho : o.op = .load ty x) (j b : Nat) (T : TypeId) (cs : List Value) (hl : L[j]? = some (b, T, cs))
    (off : Nat) (hx : a.eval x = .pointer (some ⟨b, off, none⟩)) (n : Nat) (hsh : shapeOf P ty = some (true, n)) (vs : List Value) (hn : vs.length = n) (hv : cellsAt cs off vs)
    (h : wpAnyH P .any ops Q (InSt cc q w0 l) fuel (listed.setIfInBounds i true) (a.put d (.agg vs.toArray)) w) : HkX P ops Q (InSt cc q w0 l) fuel listed a w i := by
  have hd : o.dst = d := by rw [hi] at hd0; exact hd0
  refine ⟨o, hi, hw, ?_⟩
  unfold Oper.wp execOp
  simp only [ho, hx, Instr.loadAt, Instr.sureAddr, Sem.run_bind, Sem.run_pure, Result.andThen_ok, run_load_agg (P := P) (HS.out.box hl) hsh hn hv, Oper.upon]
  rw [hd]
  exact ⟨HS.out.sub hk, h⟩
theorem hk_x3 {S : World → Prop} (i j k : Nat) (hr : Region.ready .any ops listed = [i, j, k]) (h : HkX P ops Q S fuel listed a w i) (h2 : HkX P ops Q S fuel listed a w j) (h3 : HkX P ops Q S fuel listed a w k) : wpAnyH P .any ops Q S (fuel + 1) listed a w :=
  wpAnyH_all hr (by simp) fun m hm => by
    simp at hm
    rcases hm with rfl | rfl | rfl
    · exact h.wpOp
    · exact h2.wpOp
    · exact h3.wpOp
/-- A call that changes what is the caller's own. -/
theorem hg_callT (i : Nat) (d : Option Tmp) (hd0 : (ops[i]?).bind (·.dst) = d) (hi : ops[i]? = some o) (hw : Region.wanted o (yielded ops a.tmps) = true) (f : FuncId) (xs : List Operand) (ts : Array TypeId)
    (ho : o.op = .call { callee := .value (.func f), args := xs.toArray, argTypes := ts }) {fn : Func} (hf : P.funcs[f]? = some fn) (hname : (fn.name == "runtime.NumGoroutine") = false) {c : Code} (hb : fn.body = some c)
    (al : List Value) (T : Value → World → Prop) (hc : Calls P f al.toArray w (fun e w' => ∃ v, e = .returned v ∧ T v w')) (hS : ∀ v w', T v w' → St cc q w0 w' l) (hargs : xs.map a.eval = al)
    (h : ∀ v w', T v w' → wpAnyH P .any ops Q (InSt cc q w0 l) fuel (listed.setIfInBounds i true) (a.put d v) w') : HkX P ops Q (InSt cc q w0 l) fuel listed a w i := by
  have hd : o.dst = d := by rw [hi] at hd0; exact hd0
  refine ⟨o, hi, hw, ?_⟩
  unfold Oper.wp execOp
  have hrun : (callFunc f al.toArray).run P w = .ok (.enter f al.toArray) w := by
    have h1 : fn.name ≠ "runtime.NumGoroutine" := by simpa using hname
    simp [callFunc, hf, h1, hb]
  have hfv : a.eval (.func f) = .func (.func f) #[] #[] := rfl
  have hm : xs.toArray.map a.eval = al.toArray := by rw [List.map_toArray, hargs]
  simp only [ho, resolve, Deferred.ofValue, invoke, hfv, hm, Sem.run_bind, Sem.run_pure, Result.andThen_ok, Array.empty_append, Array.append_empty, hrun, Oper.upon]
  refine hc.mono fun e w' he => ?_
  obtain ⟨v, rfl, hv⟩ := he
  rw [hd]
  exact ⟨hS v w' hv, h v w' hv⟩
/-- A cell in the middle is written, in a region. -/
theorem hg_storeM (i : Nat) (hi : ops[i]? = some o) (hw : Region.wanted o (yielded ops a.tmps) = true) {front ll : List (Nat × TypeId × List Value)} {g : Nat} {E : TypeId} {cs : List Value} (HS : Hid (St cc q w0 w (front ++ ([(g, E, cs)] ++ ll)))) (ty : TypeId) (x y : Operand) (ho : o.op = .store ty x y) (hd : o.dst = none)
    (off : Nat) (hx : a.eval x = .pointer (some ⟨g, off, none⟩)) (v : Value) (hy : a.eval y = v) (hsh : shapeOf P ty = some (false, 1)) (h1 : v.oneCell' = true) (hoff : off + 1 ≤ cs.length) (cs' : List Value) (hcs : cs.set off v = cs') (hk : l.Sublist (front ++ ([(g, E, cs')] ++ ll)))
    (h : ∀ w', Hid (St cc q w0 w' (front ++ ([(g, E, cs')] ++ ll))) → wpAnyH P .any ops Q (InSt cc q w0 l) fuel (listed.setIfInBounds i true) a w') : HkX P ops Q (InSt cc q w0 l) fuel listed a w i := by
  have hset : (front ++ ([(g, E, cs)] ++ ll)).set front.length (g, E, cs') = front ++ ([(g, E, cs')] ++ ll) := by
    rw [List.set_append_right _ _ (Nat.le_refl _)]
    simp
  refine hg_store1 i hi hw HS ty x y ho hd front.length g E cs (by simp) off hx v hy hsh h1 (Nat.ble_eq_true_of_le hoff) ?_ ?_
  · rw [hcs, hset]; exact hk
  · intro w' HS'
    rw [hcs, hset] at HS'
    exact h w' HS'
end
end Go.Proofs.YtnfkplohpjfocaaGreat
