/-
  A row of the call's own that need not begin at its block's head, or that is empty without being nil; append to it. No function of the program is named here.
-/
import Derived.Test.YtnfkplohpjfocaaReg
set_option linter.unusedVariables false
set_option linter.unusedSimpArgs false
namespace Go.Proofs.Ytnfkplohpjfocaa
open Go.RowKit
def OwnRow (E : TypeId) (size : Nat) (lr : List (Nat × TypeId × List Value)) (v : Value) (n : Nat) (xs : List Value) : Prop :=
  xs.length = n * size ∧ ((lr = [] ∧ (∃ ao, v = .slice ao 0 0) ∧ n = 0) ∨ ∃ g cap pre junk, lr = [(g, E, pre ++ (xs ++ junk))] ∧ v = .slice (some ⟨g, pre.length, none⟩) n cap ∧ n ≤ cap ∧ cap ≤ maxLen ∧ junk.length = (cap - n) * size)
section
variable {P : Program} {cc : Option Nat} {q : CodeRow} {w0 w : World} {front lr ll : List (Nat × TypeId × List Value)} {E : TypeId} {size n m : Nat} {v : Value} {xs news : List Value}
theorem OwnRow.of (h : RowEnt E size lr v n xs) : OwnRow E size lr v n xs := by
  refine ⟨h.1, ?_⟩
  rcases h.2 with ⟨h1, h2, h3⟩ | ⟨g, cap, junk, h1, h2, h3, h4, h5⟩
  · exact .inl ⟨h1, ⟨none, h2⟩, h3⟩
  · refine .inr ⟨g, cap, [], junk, h1, h2, h3, h4, ?_⟩
    rw [List.length_append, h.1] at h5
    rw [Nat.sub_mul]
    omega
theorem OwnRow.nil : OwnRow E size [] (.slice none 0 0) 0 [] := OwnRow.of RowEnt.nil
theorem OwnRow.form (h : OwnRow E size lr v n xs) : ∃ ao cap, v = .slice ao n cap ∧ n ≤ cap ∧ cap ≤ maxLen := by
  rcases h.2 with ⟨_, ⟨ao, rfl⟩, rfl⟩ | ⟨g, cap, pre, junk, _, rfl, h1, h2, _⟩
  · exact ⟨ao, 0, rfl, Nat.le_refl _, Nat.zero_le _⟩
  · exact ⟨_, cap, rfl, h1, h2⟩
theorem OwnRow.one (h : OwnRow E size lr v n xs) : v.oneCell' = true := by
  obtain ⟨ao, cap, rfl, _⟩ := h.form
  rfl
/-- What the slice reads as. -/
theorem OwnRow.at {L : List (Nat × TypeId × List Value)} {rows : List (List Value)} (h : St cc q w0 w L) (hm : ∀ e ∈ lr, e ∈ L) (hs : ∀ r ∈ rows, r.length = size) (hr : OwnRow E size lr v rows.length rows.flatten) : SlAt w size v rows := by
  rcases hr.2 with ⟨_, ⟨ao, rfl⟩, h3⟩ | ⟨g, cap, pre, junk, rfl, rfl, h1, h2, h3⟩
  · have : rows = [] := List.eq_nil_of_length_eq_zero h3
    subst this
    exact ⟨ao, 0, rfl, Nat.le_refl _, Nat.zero_le _, fun h => absurd rfl h⟩
  · refine ⟨_, cap, rfl, h1, h2, fun _ => ⟨g, pre.length, rfl, fun i r hi j u hj => ?_⟩⟩
    have hb : PBox w g E (pre ++ (rows.flatten ++ junk)) := ((Bx_iff.1 h.own).1 (g, E, pre ++ (rows.flatten ++ junk)) (hm _ (by simp))).2
    refine hb.cell ?_
    have h5 := flatten_at hs hi j u hj
    rw [Nat.add_assoc, List.getElem?_append_right (by omega), Nat.add_sub_cancel_left, List.getElem?_append_left (List.getElem?_eq_some_iff.1 h5).1]
    exact h5
theorem run_append_zero (w : World) (t ty e : TypeId) (i : TypeInfo) (ht : P.underlying t = some (.slice e)) (hi : P.info? e = some i) (ao : Option Addr) (n cap : Nat) (hn : n ≤ cap) (a : Addr) (c : Nat) :
    (Builtin.append_ #[t, t] ty #[.slice ao n cap, .slice (some a) 0 c]).run P w = .ok (.slice ao n cap) w := by
  cases ao <;> simp [Builtin.append_, run_underlying ht, sizeOf, typeInfo, hi, Builtin.lenOf, Builtin.firstCells, loadCells, loadCellsFrom, hn, storeCells]
theorem putCells_mid : ∀ (pre old post vs : List Value), old.length = vs.length → putCells (pre ++ (old ++ post)) pre.length vs = pre ++ (vs ++ post)
  | _, [], _, [], _ => rfl
  | pre, o :: old, post, v :: vs, h => by
    have := putCells_mid (pre ++ [v]) old post vs (by simpa using h)
    simp only [putCells]
    simpa using this
theorem run_append_in (w : World) (t ty e : TypeId) (i : TypeInfo) (ht : P.underlying t = some (.slice e)) (hi : P.info? e = some i) (g cap : Nat) (pre junk : List Value) (hB : PBox w g e (pre ++ (xs ++ junk))) (hx : xs.length = n * i.size) (hj : junk.length = (cap - n) * i.size)
    (a : Addr) (c : Nat) (hl : news.length = m * i.size) (hnews : ∀ (j : Nat) (u : Value), news[j]? = some u → w.cell? (a.add j) = some u) (h1 : ∀ u ∈ news, u.oneCell' = true) (hroom : n + m ≤ cap) :
    ∃ w', (Builtin.append_ #[t, t] ty #[.slice (some ⟨g, pre.length, none⟩) n cap, .slice (some a) m c]).run P w = .ok (.slice (some ⟨g, pre.length, none⟩) (n + m) cap) w' ∧ PBox w' g e (pre ++ ((xs ++ news) ++ junk.drop (m * i.size))) ∧ Only g w w' := by
  have hf := run_firstCells_some (P := P) w i.size m a m c news hl hnews
  have hmj : m * i.size ≤ junk.length := by rw [hj]; exact Nat.mul_le_mul_right _ (by omega)
  obtain ⟨w', hr, hB', ho, _⟩ := run_storeCells_box (P := P) g e news 0 (pre.length + n * i.size) _ w hB (by simp only [List.length_append]; omega) h1
  refine ⟨w', ?_, ?_, ho⟩
  · have ha : (⟨g, pre.length, none⟩ : Addr).add (n * i.size) = ⟨g, pre.length + n * i.size, none⟩ := addr_add _ _ _
    simp [Builtin.append_, run_underlying ht, sizeOf, typeInfo, hi, Builtin.lenOf, hroom, hf, ha, hr]
  · have e1 : pre ++ (xs ++ junk) = (pre ++ xs) ++ (junk.take (m * i.size) ++ junk.drop (m * i.size)) := by rw [List.take_append_drop, List.append_assoc]
    have e2 : pre.length + n * i.size + 0 = (pre ++ xs).length := by rw [List.length_append, hx]; omega
    rw [e1, e2, putCells_mid _ _ _ _ (by rw [List.length_take, hl]; omega)] at hB'
    simpa using hB'
/-- Append, whatever the source is. -/
theorem OwnRow.append (HS : St cc q w0 w (front ++ (lr ++ ll))) (t ty : TypeId) (ie : TypeInfo) (z : Value) (bytes : Nat) (ht : P.underlying t = some (.slice E)) (hie : P.info? E = some ie) (hz : ie.zero = some z) (hsize : ie.size = size) (hby : ie.bytes = bytes) (hzs : z.cells.size = size)
    (hr : OwnRow E size lr v n xs) (sv : Value) (hsrc : SrcAt w size sv m news) (h63 : n + m ≤ maxLen) (hbytes : (n + m) * bytes ≤ 140737488355328) :
    ∃ v' w' lr', (Builtin.append_ #[t, t] ty #[v, sv]).run P w = .ok v' w' ∧ St cc q w0 w' (front ++ (lr' ++ ll)) ∧ OwnRow E size lr' v' (n + m) (xs ++ news) := by
  subst hsize hby
  obtain ⟨hl, h1, hs⟩ := hsrc
  have h1' : ∀ u ∈ news, u.oneCell' = true := fun u hu => (List.all_eq_true.1 h1) u hu
  have hmax : ((n + m : Nat) : Int) ≤ 9223372036854775807 := by unfold maxLen at h63; omega
  obtain ⟨ao, cap, hv, hnc, hcm⟩ := hr.form
  rcases hs with ⟨ad, c, rfl, hc⟩ | ⟨rfl, rfl⟩
  · by_cases hm0 : m = 0
    · subst hm0
      have hnil : news = [] := List.eq_nil_of_length_eq_zero (by simpa using hl)
      subst hnil hv
      exact ⟨_, w, lr, run_append_zero w t ty E ie ht hie ao n cap hnc ad c, HS, by simpa using hr⟩
    · have fresh : ∀ (old : Nat), ∃ lr', St cc q w0 (w.drew.alloc (.cells (xs.toArray ++ news.toArray ++ Builtin.zeroCells z.cells (grownCap w (n + m) old E - (n + m))) E)) (front ++ (lr' ++ ll)) ∧ OwnRow E ie.size lr' (.slice (some ⟨w.heap.size, 0, none⟩) (n + m) (grownCap w (n + m) old E)) (n + m) (xs ++ news) := by
        intro old
        have hge := grownCap_ge w (n + m) old E
        have hcm2 : grownCap w (n + m) old E ≤ maxLen := grownCap_le_maxLen w (n + m) old E h63
        obtain ⟨zs, hzs2⟩ : ∃ zs : List Value, zs = (Builtin.zeroCells z.cells (grownCap w (n + m) old E - (n + m))).toList := ⟨_, rfl⟩
        have hcs : (xs.toArray ++ news.toArray ++ Builtin.zeroCells z.cells (grownCap w (n + m) old E - (n + m))) = ((xs ++ news) ++ zs).toArray := by
          apply Array.ext'
          rw [hzs2]
          simp
        have hzl : zs.length = (grownCap w (n + m) old E - (n + m)) * ie.size := by rw [hzs2, Array.length_toList, size_zeroCells, hzs]
        have hn := HS.drew.new (NewBox.of w.drew E ((xs ++ news) ++ zs).toArray)
        have hsz : w.drew.heap.size = w.heap.size := rfl
        rw [hsz] at hn
        refine ⟨[(w.heap.size, E, [] ++ ((xs ++ news) ++ zs))], ?_, ?_, .inr ⟨_, _, [], zs, rfl, rfl, hge, hcm2, hzl⟩⟩
        · rw [hcs]
          have hn2 : St cc q w0 (w.drew.alloc (.cells ((xs ++ news) ++ zs).toArray E)) ((w.heap.size, E, (xs ++ news) ++ zs) :: (front ++ ll)) := hn.sub (List.Sublist.cons_cons _ (List.Sublist.append_left (List.sublist_append_right lr ll) front))
          refine hn2.perm ?_
          simp only [List.nil_append, List.singleton_append]
          exact List.perm_middle
        · rw [List.length_append, hr.1, hl, Nat.add_mul]
      rcases hr.2 with ⟨hlr, ⟨ao2, hv2⟩, hn0⟩ | ⟨g, cap2, pre, junk, hlr, hv2, hnc2, hcm2, hj⟩
      · subst hn0
        have hx0 : xs = [] := List.eq_nil_of_length_eq_zero (by simpa using hr.1)
        subst hx0 hv2
        obtain ⟨lr', h2, h3⟩ := fresh 0
        cases ao2 with
        | none =>
          have hrun := Go.run_append_nil (P := P) w t ty E ie z ht hie hz ad m c news hl hc (by omega) (by omega) (by simp at hbytes; omega)
          simp only [Nat.zero_add, List.nil_append, Array.empty_append] at h2 h3 ⊢
          exact ⟨_, _, lr', hrun, h2, h3⟩
        | some b =>
          have hrun := run_append_grow (P := P) w t ty E ie z ht hie hz b 0 0 [] (by simp) (fun j u hj => by simp at hj) ad m c news hl hc (by omega) (by omega) (growslice_fits (by omega) hbytes)
          exact ⟨_, _, lr', hrun, h2, h3⟩
      · subst hv2
        have hB : PBox w g E (pre ++ (xs ++ junk)) := ((Bx_iff.1 HS.own).1 (g, E, pre ++ (xs ++ junk)) (by rw [hlr]; simp)).2
        by_cases hroom : n + m ≤ cap2
        · obtain ⟨w', hrun, hB', ho⟩ := run_append_in (P := P) w t ty E ie ht hie g cap2 pre junk hB hr.1 hj ad c hl hc h1' hroom
          subst hlr
          have hat : (front ++ ([(g, E, pre ++ (xs ++ junk))] ++ ll))[front.length]? = some (g, E, pre ++ (xs ++ junk)) := by simp
          have hset := HS.set hat ho hB'
          have hse : (front ++ ([(g, E, pre ++ (xs ++ junk))] ++ ll)).set front.length (g, E, pre ++ ((xs ++ news) ++ junk.drop (m * ie.size))) = front ++ ([(g, E, pre ++ ((xs ++ news) ++ junk.drop (m * ie.size)))] ++ ll) := by
            rw [List.set_append_right _ _ (Nat.le_refl _)]
            simp
          rw [hse] at hset
          refine ⟨_, w', _, hrun, hset, ?_, .inr ⟨g, cap2, pre, _, rfl, rfl, hroom, hcm2, ?_⟩⟩
          · rw [List.length_append, hr.1, hl, Nat.add_mul]
          · rw [List.length_drop, hj, ← Nat.sub_mul]
            congr 1
            omega
        · obtain ⟨lr', h2, h3⟩ := fresh cap2
          have hrun := run_append_grow (P := P) w t ty E ie z ht hie hz ⟨g, pre.length, none⟩ n cap2 xs hr.1 (fun j u hj => by
            rw [addr_add]
            refine hB.cell ?_
            rw [List.getElem?_append_right (by omega), Nat.add_sub_cancel_left, List.getElem?_append_left (List.getElem?_eq_some_iff.1 hj).1]
            exact hj) ad m c news hl hc (by omega) (by omega) (growslice_fits (by omega) hbytes)
          exact ⟨_, _, lr', hrun, h2, h3⟩
  · have hnil : news = [] := List.eq_nil_of_length_eq_zero (by simpa using hl)
    subst hnil hv
    exact ⟨_, w, lr, run_append_nil w t ty E ie ht hie ao n cap hnc, HS, by simpa using hr⟩
end
section
variable {P : Program} {ops : Array Oper} {Q : Exit → Act → World → Prop} {a : Act} {w : World} {cc : Option Nat} {q : CodeRow} {w0 : World} {l L : List (Nat × TypeId × List Value)} {fuel : Nat} {listed : Array Bool} {o : Oper} {rest : List Oper}
/-- A row of the call's own grows. -/
theorem sx_appendO {front lr ll : List (Nat × TypeId × List Value)} (HS : Hid (St cc q w0 w (front ++ (lr ++ ll)))) (hw : Region.wanted o (yielded ops a.tmps) = true)
    (s x : Operand) (t : TypeId) (ho : o.op = .call { callee := .builtin .append, args := #[s, x], argTypes := #[t, t] })
    (E : TypeId) (ie : TypeInfo) (z : Value) (size bytes : Nat) (ht : P.underlying t = some (.slice E)) (hie : P.info? E = some ie) (hz : ie.zero = some z) (hsize : ie.size = size) (hby : ie.bytes = bytes) (hzs : z.cells.size = size)
    (v : Value) (n : Nat) (xs : List Value) (hs : a.eval s = v) (hr : OwnRow E size lr v n xs) (sv : Value) (hx : a.eval x = sv) (m : Nat) (news : List Value) (hsrc : SrcAt w size sv m news)
    (h63 : n + m ≤ maxLen) (hbytes : (n + m) * bytes ≤ 140737488355328)
    (h : ∀ v' w' lr', Hid (St cc q w0 w' (front ++ (lr' ++ ll))) → Hid (OwnRow E size lr' v' (n + m) (xs ++ news)) → wpList P ops Q rest (a.put o.dst v') w') : wpList P ops Q (o :: rest) a w :=
  wpList_wanted hw fun _ hK => by
    obtain ⟨v', w', lr', hrun, h6, h7⟩ := hr.append (P := P) HS.out t o.type ie z bytes ht hie hz hsize hby hzs sv hsrc h63 hbytes
    unfold Oper.wp execOp
    simp only [ho, resolve, invoke, builtin, Sem.run_bind, Sem.run_pure, Result.andThen_ok, List.map_toArray, List.map_cons, List.map_nil, hs, hx, hrun, Oper.upon]
    exact hK _ _ (h v' w' lr' h6 h7)
end
end Go.Proofs.Ytnfkplohpjfocaa
