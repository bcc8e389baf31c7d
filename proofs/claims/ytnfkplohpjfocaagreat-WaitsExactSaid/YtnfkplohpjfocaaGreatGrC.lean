/-
  Rows of grants of the call's own; Clone of grants.
-/
import Derived.Test.YtnfkplohpjfocaaGreatIntC
import Derived.Lib.SliceRun
set_option linter.unusedVariables false
set_option linter.unusedSimpArgs false
namespace Go.Proofs.YtnfkplohpjfocaaGreat
open Go.RowKit
def gL (gs : List G) : List Value := (gs.map G.lst).flatten
theorem gL_len (gs : List G) : (gL gs).length = gs.length * 4 := by
  unfold gL
  induction gs with
  | nil => rfl
  | cons g gs ih => simp only [List.map_cons, List.flatten_cons, List.length_append, ih, List.length_cons]; show 4 + _ = _; omega
theorem gL_append (a b : List G) : gL (a ++ b) = gL a ++ gL b := by simp [gL]
theorem gL_one (g : G) : gL [g] = g.lst := by simp [gL]
theorem gL_cons (g : G) (gs : List G) : gL (g :: gs) = g.lst ++ gL gs := rfl
theorem gl4 (gs : List G) : ∀ r ∈ gs.map G.lst, r.length = 4 := fun r hr => by obtain ⟨v, _, rfl⟩ := List.mem_map.1 hr; rfl
theorem gL_one' (gs : List G) : (gL gs).all (·.oneCell') = true := by
  rw [List.all_eq_true]
  intro u hu
  unfold gL at hu
  obtain ⟨r, hr, hu⟩ := List.mem_flatten.1 hu
  obtain ⟨g, _, rfl⟩ := List.mem_map.1 hr
  simp [G.lst] at hu
  rcases hu with rfl | rfl | rfl | rfl <;> rfl
theorem flat_get {s : Nat} : ∀ {rows : List (List Value)}, (∀ r ∈ rows, r.length = s) → ∀ {k : Nat} {u : Value}, rows.flatten[k]? = some u → ∃ i j r, rows[i]? = some r ∧ r[j]? = some u ∧ k = i * s + j
  | [], _, k, u, h => by simp at h
  | r :: rows, hs, k, u, h => by
    rw [List.flatten_cons] at h
    have hr := hs r (by simp)
    by_cases hk : k < r.length
    · rw [List.getElem?_append_left hk] at h
      exact ⟨0, k, r, rfl, h, by omega⟩
    · rw [List.getElem?_append_right (by omega)] at h
      obtain ⟨i, j, r', h1, h2, h3⟩ := flat_get (fun r hr => hs r (by simp [hr])) h
      refine ⟨i + 1, j, r', by simpa using h1, h2, ?_⟩
      rw [hr] at h3 hk
      rw [Nat.succ_mul]
      omega
theorem GsAt.src {w : World} {ad : Addr} {n cap : Nat} {gs : List G} (h : GsAt w (.slice (some ad) n cap) gs) : SrcAt w 4 (.slice (some ad) n cap) n (gL gs) := by
  obtain ⟨ao, cap2, h1, h2, h3, h4⟩ := h.get
  cases h1
  refine ⟨gL_len gs, gL_one' gs, .inl ⟨ad, cap, rfl, fun j u hj => ?_⟩⟩
  obtain ⟨i, k, r, hr, hu, rfl⟩ := flat_get (gl4 gs) hj
  rw [List.getElem?_map] at hr
  cases hg : gs[i]? with
  | none => rw [hg] at hr; cases hr
  | some x =>
    rw [hg] at hr
    cases hr
    have hlt := (List.getElem?_eq_some_iff.1 hg).1
    obtain ⟨g, off, ha, hc⟩ := h4 (by omega)
    cases ha
    have := hc i x hg w (Ext.refl _) k u hu
    rw [addr_add, ← Nat.add_assoc]
    exact this
theorem GsAt.own {cc : Option Nat} {q : CodeRow} {w0 w : World} {L lr : List (Nat × TypeId × List Value)} {E : TypeId} {v : Value} {gs : List G} (h : St cc q w0 w L) (hm : ∀ e ∈ lr, e ∈ L) (hr : OwnRow E 4 lr v gs.length (gL gs)) : GsAt w v gs :=
  OwnRow.at h hm (gl4 gs) (by rw [List.length_map]; exact hr)
/-- A call has given back grants of its own. -/
def GrPost (gs : List G) (w0 : World) (e : Ending) (w' : World) : Prop := ∃ (v : Value) (lr : List (Nat × TypeId × List Value)), e = .returned v ∧ St none default w0 w' lr ∧ OwnRow 29 4 lr v gs.length (gL gs)
theorem build_none (t e : TypeId) (ie : TypeInfo) (hu : Tryz.prog.underlying t = some (.slice e)) (hie : Tryz.prog.info? e = some ie) (w : World) : (Instr.buildSlice t 0 ([] : List (Nat × Value)).toArray).run Tryz.prog w = .ok (.slice (some ⟨w.heap.size, 0, none⟩) 0 0) (w.alloc (.cells ([] : List Value).toArray e)) := by
  simp [Instr.buildSlice, run_underlying hu, sizeOf, typeInfo, hie, newRow, Instr.fill]
  have e : (Array.map (fun _ : Nat => (default : Value)) (Array.range 0)) = #[] := Array.eq_empty_of_size_eq_zero (by simp)
  rw [e]
theorem info_grant : ∃ ie, Tryz.prog.info? 29 = some ie ∧ ie.zero = some (.agg #[.int .i64 0, .int .i64 0, .int .i64 0, .int .i64 0]) ∧ ie.size = 4 ∧ ie.bytes ≤ 1000000 := by
  cases hie : Tryz.prog.info? 29 with
  | none => have h := zr29; rw [hie] at h; cases h
  | some ie =>
    have h1 := zr29
    have h2 : (Tryz.prog.info? 29).map (fun i => (i.size, Nat.ble i.bytes 1000000)) = some (4, true) := by kernel_rfl
    rw [hie] at h1 h2
    simp at h2
    exact ⟨ie, rfl, h1, h2.1, h2.2⟩
set_option maxHeartbeats 2000000 in
set_option maxRecDepth 100000 in
theorem gs_clone (w0 : World) (v : Value) (gs : List G) (h : GsAt w0 v gs) (hb : gs.length ≤ 4000000) : Calls Tryz.prog 78 #[v] w0 (GrPost gs w0) := by
  have HG := Lib.hid h
  obtain ⟨ao, cap, rfl, hc1, hc2, hat⟩ := h.get
  obtain ⟨n, hn⟩ : ∃ n, n = gs.length := ⟨_, rfl⟩
  rw [← hn] at hc1 hat hb HG ⊢
  have HN := Lib.hid hn
  have HAT := Lib.hid hat
  clear hn hat h
  obtain ⟨ie, hie, hiz, his, hib⟩ := info_grant
  have HIE := Lib.hid hie
  have HIZ := Lib.hid hiz
  have HIS := Lib.hid his
  have HIB := Lib.hid hib
  clear hie hiz his hib
  have HS : Hid (St none default w0 w0 []) := St.start w0
  go_enter Tryz.func78, Tryz.ntmps78
  have hq : ∀ (w : World) (a : Option Addr) (n c : Nat), (binOp .eql 23 (.slice a n c) (.slice none 0 0)).run Tryz.prog w = .ok (.bool a.isNone) w := fun w a n c => Lib.run_eql_slice_nil w _ _ a n c 0 0 Tryz.underlying23
  cases ao with
  | none =>
    have hn0 : n = 0 := by
      by_cases e : n = 0
      · exact e
      · obtain ⟨g, off, hh, _⟩ := HAT.out (by omega)
        cases hh
    have hg0 : gs = [] := List.eq_nil_of_length_eq_zero (by rw [← HN.out]; exact hn0)
    have HG0 := Lib.hid hg0
    clear hg0
    subst hn0
    go_wp2_with fail
    go_ret
    exact ⟨_, [], rfl, HS, by rw [HG0.out]; exact OwnRow.nil⟩
  | some ad =>
    go_wp2_with (first | (refine sx_build HS rfl 23 29 0 [] rfl [] rfl [] (fun w => build_none _ _ ie Tryz.underlying23 HIE.out w) ?_; clear HS; intro w b5 HS) | (at_builtin; refine sx_appendO (front := [(b5, 29, [])]) (lr := []) (ll := []) HS rfl _ _ 23 rfl 29 ie _ 4 _ Tryz.underlying23 HIE.out HIZ.out HIS.out rfl rfl _ 0 [] rfl ⟨rfl, .inl ⟨rfl, ⟨some ⟨b5, 0, none⟩, rfl⟩, rfl⟩⟩ _ rfl n (gL gs) (HG.out.ext HS.out.isExt).src (by unfold maxLen; omega) (Nat.le_trans (Nat.mul_le_mul (show 0 + n ≤ 4000000 by omega) HIB.out) (by decide)) ?_; clear HS; intro vv w lq HS HR))
    go_ret
    refine ⟨_, lq, rfl, (HS.out.drop 1).sub ?_, ?_⟩
    · simp
    · have h := HR.out
      rw [Nat.zero_add, HN.out, List.nil_append] at h
      exact h
end Go.Proofs.YtnfkplohpjfocaaGreat
