/-
  The contracts of the reference's For (what it gives) and Waiters.
-/
import Derived.Test.YtnfkplohpjfocaaGreatRgF
import Derived.Test.YtnfkplohpjfocaaGreatRhE
import Derived.Test.YtnfkplohpjfocaaGreatPxA
set_option linter.unusedVariables false
set_option linter.unusedSimpArgs false
namespace Go.Proofs.YtnfkplohpjfocaaGreat
open Go.RowKit
section
variable {P : Program} {ops : Array Oper} {Q : Exit → Act → World → Prop} {a : Act} {w : World} {cc : Option Nat} {q : CodeRow} {w0 : World} {l L : List (Nat × TypeId × List Value)} {fuel : Nat} {listed : Array Bool} {o : Oper}
/-- A cell is read that the class of worlds knows. -/
theorem hg_load1 (i : Nat) (d : Option Tmp) (hd0 : (ops[i]?).bind (·.dst) = d) (hi : ops[i]? = some o) (hs : Region.noSelect ops = true) (hf : Region.free .any ops listed i = true) (hr : (Region.ready .any ops listed).contains i = true)
    (hQ : ∀ v c a w, Q (.panic c) (a.put o.dst v) w → Q (.panic c) a w) (HS : Hid (St cc q w0 w L)) (hk : l.Sublist L) (hw : Region.wanted o (yielded ops a.tmps) = true)
    (ty : TypeId) (x : Operand) (ho : o.op = .load ty x) (b off : Nat) (hx : a.eval x = .pointer (some ⟨b, off, none⟩)) (n : Nat) (hsh : shapeOf P ty = some (false, n)) (v : Value) (hc : ∀ w', St cc q w0 w' l → w'.cell? ⟨b, off, none⟩ = some v)
    (h : wpAnyH P .any ops Q (InSt cc q w0 l) fuel (listed.setIfInBounds i true) (a.put d v) w) : wpAnyH P .any ops Q (InSt cc q w0 l) (fuel + 1) listed a w :=
  have hd : o.dst = d := by rw [hi] at hd0; exact hd0
  wpAnyH_take (v := v) hi hs hf hr (hQ _) (.inl ⟨hw, fun w hS => by
    have hl : (loadVar ty ⟨b, off, none⟩).run P w = .ok v w := by simp [loadVar, (shape_one hsh w).1, hc w hS, load, Sem.run]
    unfold execOp
    simp only [ho, hx, Instr.loadAt, Instr.sureAddr, Sem.run_bind, Sem.run_pure, Result.andThen_ok, hl]⟩) (HS.out.sub hk) (by rw [hd]; exact h)
end
theorem upto_at {ws : List G} {tx : Int} : ∀ i, i ≤ ws.length → (∀ (j : Nat) (y : G), j < i → ws[j]? = some y → (y.tx == tx) = false) → Upto ws tx i
  | 0, _, _ => Upto.zero ws tx
  | i + 1, hi, h => (upto_at i (by omega) fun j y hj hy => h j y (by omega) hy).next (List.getElem?_eq_getElem (by omega)) (h i _ (by omega) (List.getElem?_eq_getElem (by omega)))
theorem for_same (hs ws : List G) (tx : Int) : (if (waitF hs ws tx).isSome then accF (hs ++ upto ws tx) ((waitF hs ws tx).getD zeroG) else []) = forF hs ws tx := by
  unfold waitF forF
  cases validT hs ws with
  | false => rfl
  | true =>
    simp only [if_true]
    cases hf : ws.find? (fun x => x.tx == tx) with
    | none =>
      have hi : ws.findIdx? (fun x => x.tx == tx) = none := by
        rw [List.findIdx?_eq_none_iff]
        intro y hy
        have := List.find?_eq_none.1 hf y hy
        simpa using this
      unfold blockF
      rw [hi]
      rfl
    | some g =>
      rw [List.find?_eq_some_iff_getElem] at hf
      obtain ⟨hp, i, hi, hg, h0⟩ := hf
      have hb : ∀ (j : Nat) (y : G), j < i → ws[j]? = some y → (y.tx == tx) = false := fun j y hj hy => by
        obtain ⟨h1, rfl⟩ := List.getElem?_eq_some_iff.1 hy
        simpa using h0 j hj
      have hx : ws[i]? = some g := by rw [List.getElem?_eq_getElem hi, hg]
      have hi2 := findIdx_at (p := fun x => x.tx == tx) hx hp hb
      have hu : upto ws tx = ws.take i := (upto_at i (by omega) hb).stop hx hp
      unfold blockF accF
      rw [hi2, hu]
      simp only [hx, Option.isSome_some, if_true, Option.getD_some]
      rw [foldW_same]
      rfl
theorem rf_forF (w0 : World) (vh vw : Value) (hs ws : List G) (h1 : GsAt w0 vh hs) (h2 : GsAt w0 vw ws) (hb1 : hs.length ≤ 40000) (hb2 : ws.length ≤ 40000) (tx : Int) : Calls Tryz.prog 11 #[.agg #[vh, vw], .int .i64 tx] w0 (fun e w' => ∃ v', e = .returned v' ∧ IntsNew (forF hs ws tx) w0 v' w') := by
  rw [← for_same]
  exact rf_for w0 vh vw hs ws h1 h2 hb1 hb2 tx _ _ fun w hx => rf_waiting w vh vw hs ws tx (h1.ext hx) (h2.ext hx) (by omega) (by omega)
theorem IntsNew.is {ns : List Int} {w0 : World} {v : Value} {w' : World} (h : IntsNew ns w0 v w') : IsAt w' v ns ∧ Ext w0 w' := by
  obtain ⟨lr, k, hr⟩ := h
  exact ⟨IsAt.own k (fun e he => he) hr, k.isExt⟩
theorem IsAt.nil (w : World) : IsAt w (.slice none 0 0) [] := ⟨none, 0, rfl, Nat.le_refl _, Nat.zero_le _, fun h => absurd rfl h⟩
def wAcc (ws : List G) : List Int := foldW (ws.map G.tx) []
theorem wAcc_len (ws : List G) : (wAcc ws).length ≤ ws.length := by
  have h := foldW_len (ws.map G.tx) []
  unfold wAcc
  simpa using h
theorem wAcc_nil : wAcc [] = [] := rfl
theorem waiters_step {ws : List G} {i : Nat} {x : G} (hx : ws[i]? = some x) : wAcc (ws.take (i + 1)) = withF x.tx (wAcc (ws.take i)) := by
  unfold wAcc
  rw [take_nx hx]
  simp [foldW]
set_option maxHeartbeats 8000000 in
set_option maxRecDepth 100000 in
theorem rf_waiters (w0 : World) (vh vw : Value) (hs ws : List G) (h1 : GsAt w0 vh hs) (h2 : GsAt w0 vw ws) (hb1 : hs.length ≤ 40000) (hb2 : ws.length ≤ 40000) : Calls Tryz.prog 26 #[.agg #[vh, vw]] w0 (fun e w' => ∃ v', e = .returned v' ∧ IntsNew (waitersF hs ws) w0 v' w') := by
  have HGh := Lib.hid h1
  have HBh := Lib.hid hb1
  obtain ⟨aoh, cph, rfl, hch1, hch2, hath⟩ := h1.get
  obtain ⟨nh, hnh⟩ : ∃ n, n = hs.length := ⟨_, rfl⟩
  rw [← hnh] at HGh hch1 hath hb1 ⊢
  have HNh := Lib.hid hnh
  have HATh := Lib.hid hath
  clear hnh hath h1
  have HGw := Lib.hid h2
  have HBw := Lib.hid hb2
  obtain ⟨aow, cpw, rfl, hcw1, hcw2, hatw⟩ := h2.get
  obtain ⟨nw, hnw⟩ : ∃ n, n = ws.length := ⟨_, rfl⟩
  rw [← hnw] at HGw hcw1 hatw hb2 ⊢
  have HNw := Lib.hid hnw
  have HATw := Lib.hid hatw
  clear hnw hatw h2
  have HS : Hid (St none default w0 w0 []) := St.start w0
  go_enter Tryz.func26, Tryz.ntmps26
  go_wp2_with (first | (refine sx_box HS rfl 25 (.tmp 0) rfl [.slice aoh nh cph, .slice aow nw cpw] rfl ?_; clear HS; intro w b1 HS) | (refine sx_loads HS (by rfl) 25 _ rfl 0 _ _ _ rfl 0 rfl 2 sh25 [.slice aoh nh cph, .slice aow nw cpw] rfl ⟨rfl, rfl, trivial⟩ ?_))
  replace HS : Hid (St none default w0 w [(b1, 25, [.slice aoh nh cph, .slice aow nw cpw])]) := HS
  refine (rf_valid w _ _ hs ws (HGh.out.ext HS.out.isExt) (HGw.out.ext HS.out.isExt) (by have := HBh.out; omega) (by have := HBw.out; omega)).mono ?_
  rintro e w ⟨he, hx⟩
  replace HS := Lib.hid (HS.out.ext hx)
  clear hx
  rw [valid_same] at he
  cases hval : validT hs ws with
  | false =>
    rw [hval] at he
    subst he
    have HF : Hid (waitersF hs ws = []) := Lib.hid (by unfold waitersF; rw [hval]; rfl)
    clear hval
    go_wp2_with fail
    go_ret
    exact ⟨_, rfl, [], HS.out.sub (List.nil_sublist _), by rw [HF.out]; exact OwnRow.nil⟩
  | true =>
    rw [hval] at he
    subst he
    have HF : Hid (waitersF hs ws = wAcc ws) := Lib.hid (by unfold waitersF; rw [hval]; rfl)
    clear hval
    go_wp2_with fail
    go_loopw [3, 4] (fun s3 s4 wr => ∃ (i : Nat) (lr : List (Nat × TypeId × List Value)), i ≤ nw ∧ s4 = .int .i64 i ∧ Hid (OwnRow 3 1 lr s3 (wAcc (ws.take i)).length ((wAcc (ws.take i)).map iV)) ∧ Hid (St none default w0 wr (lr ++ [(b1, 25, [.slice aoh nh cph, .slice aow nw cpw])]))) (fun _ s4 _ => nw - (intOf s4).toNat)
    case atStart => exact ⟨0, [], Nat.zero_le _, rfl, Lib.hid (by rw [List.take_zero, wAcc_nil]; exact OwnRow.nil), HS⟩
    case round =>
      clear HS
      obtain ⟨i, lr, hi, rfl, HR, HS⟩ := hrel
      by_cases hlt : i < nw
      · skip
        obtain ⟨x, hx⟩ := list_get_of_lt ws i nw HNw.out.symm hlt
        obtain ⟨gq, off, rfl, hcell⟩ := HATw.out (by omega)
        have HX := Lib.hid hx
        have HC := Lib.hid (hcell i x hx)
        clear hcell hx
        obtain ⟨ao7, cp7, rfl, hq1, hq2⟩ := HR.out.form
        clear hq1 hq2
        go_wp2_with (first | (refine sx_load HS (by rfl) 23 _ rfl lr.length b1 25 [.slice aoh nh cph, .slice (some ⟨gq, off, none⟩) nw cpw] (by simp) 1 rfl _ sh23 (.slice (some ⟨gq, off, none⟩) nw cpw) rfl ?_) | (refine sx_load1 (by rfl) 3 _ rfl gq (off + i * 4) rfl _ sh3 (.int .i64 x.tx) (HC.out _ HS.out.isExt 0 _ rfl) ?_))
        refine (rf_withF _ _ (wAcc (ws.take i)) x.tx (IsAt.own HS.out (fun e he => List.mem_append_left _ he) HR.out) (by have h := wAcc_len (ws.take i); have h2 := HBw.out; have h3 := HNw.out; rw [List.length_take] at h; omega) (foldW_srt _ _ .nil)).mono ?_
        rintro e w ⟨v2, rfl, hnew⟩
        obtain ⟨lr2, HS2, HR3⟩ := hnew.on HS
        clear HS HR hnew
        have HS := HS2
        clear HS2
        have HR2 : Hid (OwnRow 3 1 lr2 v2 (wAcc (ws.take (i + 1))).length ((wAcc (ws.take (i + 1))).map iV)) := Lib.hid (by rw [waiters_step HX.out]; exact HR3.out)
        clear HR3
        go_wp2_with fail
        go_roundw
        case rel => exact ⟨i + 1, lr2, by omega, by go_num, HR2, HS⟩
        case measure => simp [intOf]; omega
      · skip
        have him : i = nw := by omega
        subst him
        have e1 : ws.take i = ws := List.take_of_length_le (by rw [HNw.out]; exact Nat.le_refl _)
        rw [e1] at HR
        clear e1
        go_wp2_with (first | (refine sx_load HS (by rfl) 23 _ rfl lr.length b1 25 [.slice aoh nh cph, .slice aow i cpw] (by simp) 1 rfl _ sh23 (.slice aow i cpw) rfl ?_))
        go_ret
        exact ⟨_, rfl, lr, HS.out.sub (List.sublist_append_left _ _), by rw [HF.out]; exact HR.out⟩
end Go.Proofs.YtnfkplohpjfocaaGreat
