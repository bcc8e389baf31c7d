/-
  The contracts of IndexFunc and ContainsFunc on grants, whatever the predicate.
-/
import Derived.Test.YtnfkplohpjfocaaLkB
set_option linter.unusedVariables false
set_option linter.unusedSimpArgs false
namespace Go.Proofs.Ytnfkplohpjfocaa
open Go.RowKit
/-- A function value of this program, with what it has captured, that says p of each of these grants. -/
structure Pred (w0 : World) (gs : List G) (K : FuncId) (caps : List Value) (p : G → Bool) : Prop where
  fn : ∃ fn, Try.prog.funcs[K]? = some fn ∧ (fn.name == "runtime.NumGoroutine") = false ∧ fn.body.isSome = true
  says : ∀ x ∈ gs, ∀ w, Ext w0 w → Calls Try.prog K ([Value.agg x.arr] ++ caps).toArray w (fun e w' => e = .returned (.bool (p x)) ∧ Ext w w')
def idxI (gs : List G) (p : G → Bool) : Int := match gs.findIdx? p with | some i => (i : Int) | none => -1
set_option maxHeartbeats 2000000 in
set_option maxRecDepth 100000 in
theorem indexFunc_any (w0 : World) (v : Value) (gs : List G) (h : GsAt w0 v gs) (K : FuncId) (caps : List Value) (p : G → Bool) (hp : Pred w0 gs K caps p) :
    Calls Try.prog 44 #[v, .func (.func K) #[] caps.toArray] w0 fun e w' => e = .returned (.int .i64 (idxI gs p)) ∧ Ext w0 w' := by
  obtain ⟨ao, cap, rfl, hc1, hc2, hat⟩ := h.get
  obtain ⟨n, hn⟩ : ∃ n, n = gs.length := ⟨_, rfl⟩
  rw [← hn] at hc1 hat ⊢
  have HN := Lib.hid hn
  have HAT := Lib.hid hat
  obtain ⟨⟨fn, hf1, hf2, hf3⟩, hsays⟩ := hp
  have HF1 := Lib.hid hf1
  have HF2 := Lib.hid hf2
  have HF3 := Lib.hid hf3
  have HP := Lib.hid hsays
  clear hn hat h hf1 hf2 hf3 hsays
  have HS : Hid (St none default w0 w0 []) := St.start w0
  go_enter Try.func44, Try.ntmps44
  go_wp2_with fail
  go_loopw [8] (fun s wr => ∃ i : Nat, i ≤ n ∧ s = .int .i64 i ∧ Hid (∀ (j : Nat) (x : G), j < i → gs[j]? = some x → p x = false) ∧ Hid (St none default w0 wr [])) (fun s _ => n - (intOf s).toNat)
  case atStart => exact ⟨0, Nat.zero_le _, rfl, (fun j x h => absurd h (Nat.not_lt_zero _)), HS⟩
  case round =>
    obtain ⟨i, hi, rfl, HI, HS2⟩ := hrel
    clear HS
    have HS := HS2
    clear HS2
    by_cases hlt : i < n
    · obtain ⟨x, hx⟩ := list_get_of_lt gs i n HN.out.symm hlt
      obtain ⟨g, off, rfl, hcell⟩ := HAT.out (by omega)
      have HC := Lib.hid (hcell i x hx)
      have HX := Lib.hid hx
      clear hcell hx
      cases hpx : p x with
      | true =>
        have HCC : Hid (∀ w, Ext w0 w → Calls Try.prog K ([Value.agg x.arr] ++ caps).toArray w (fun e w' => e = .returned (.bool true) ∧ Ext w w')) := fun w k => by
          have h := HP.out x (List.mem_of_getElem? HX.out) w k
          rw [hpx] at h
          exact h
        have tok1 : True := trivial
        have HPX := Lib.hid hpx
        clear hpx
        go_wp2_with (first | (refine sx_loadsC rfl 29 _ rfl g (off + i * 4) rfl 4 sh29 x.lst rfl (HC.out _ HS.out.isExt) ?_) | (have _t := tok1; refine sx_callv rfl K caps (.tmp 11) [.tmp 15] _ rfl rfl HF1.out HF2.out HF3.out [.agg x.arr] rfl (fun v w' => v = .bool true ∧ St none default w0 w' []) ((HCC.out _ HS.out.isExt).mono (fun e w1 h => by obtain ⟨rfl, hx⟩ := h; exact ⟨_, rfl, rfl, HS.out.ext hx⟩)) ?_; clear HS tok1; rintro _ w ⟨rfl, hst⟩; have HS := Lib.hid hst; clear hst))
        go_ret
        refine ⟨ret_int ?_, HS.out.isExt⟩
        unfold idxI
        have e : gs.findIdx? p = some i := by
          rw [List.findIdx?_eq_some_iff_getElem]
          obtain ⟨h1, h2⟩ := List.getElem?_eq_some_iff.1 HX.out
          refine ⟨h1, by rw [h2]; exact HPX.out, fun j hj => ?_⟩
          have := HI.out j gs[j] hj (List.getElem?_eq_getElem _)
          simp [this]
        rw [e]
      | false =>
        have HCC : Hid (∀ w, Ext w0 w → Calls Try.prog K ([Value.agg x.arr] ++ caps).toArray w (fun e w' => e = .returned (.bool false) ∧ Ext w w')) := fun w k => by
          have h := HP.out x (List.mem_of_getElem? HX.out) w k
          rw [hpx] at h
          exact h
        have tok1 : True := trivial
        have HPX := Lib.hid hpx
        clear hpx
        go_wp2_with (first | (refine sx_loadsC rfl 29 _ rfl g (off + i * 4) rfl 4 sh29 x.lst rfl (HC.out _ HS.out.isExt) ?_) | (have _t := tok1; refine sx_callv rfl K caps (.tmp 11) [.tmp 15] _ rfl rfl HF1.out HF2.out HF3.out [.agg x.arr] rfl (fun v w' => v = .bool false ∧ St none default w0 w' []) ((HCC.out _ HS.out.isExt).mono (fun e w1 h => by obtain ⟨rfl, hx⟩ := h; exact ⟨_, rfl, rfl, HS.out.ext hx⟩)) ?_; clear HS tok1; rintro _ w ⟨rfl, hst⟩; have HS := Lib.hid hst; clear hst))
        go_roundw
        case rel => exact ⟨i + 1, by omega, by go_num, (fun j y hj hy => by
          by_cases e : j = i
          · subst e; have := HX.out.symm.trans hy; cases this; exact HPX.out
          · exact HI.out j y (by omega) hy), HS⟩
        case measure => simp [intOf]; omega
    · have hin : i = n := by omega
      subst hin
      go_wp2_with fail
      go_ret
      refine ⟨ret_int ?_, HS.out.isExt⟩
      unfold idxI
      have e : gs.findIdx? p = none := by
        rw [List.findIdx?_eq_none_iff]
        intro x hx
        obtain ⟨j, hj⟩ := List.mem_iff_getElem?.1 hx
        have hlt2 := (List.getElem?_eq_some_iff.1 hj).1
        exact HI.out j x (by rw [HN.out]; exact hlt2) hj
      rw [e]
theorem idxI_neg {gs : List G} {p : G → Bool} : (0 ≤ idxI gs p) ↔ gs.any p = true := by
  unfold idxI
  cases h : gs.findIdx? p with
  | none =>
    rw [List.findIdx?_eq_none_iff] at h
    simp only [List.any_eq_true]
    constructor
    · intro h; omega
    · rintro ⟨x, hx, hp⟩
      rw [h x hx] at hp
      cases hp
  | some i =>
    rw [List.findIdx?_eq_some_iff_getElem] at h
    obtain ⟨h1, h2, _⟩ := h
    simp only [List.any_eq_true]
    exact ⟨fun _ => ⟨_, List.getElem_mem h1, h2⟩, fun _ => by omega⟩
set_option maxHeartbeats 2000000 in
theorem containsFunc_any (w0 : World) (v : Value) (gs : List G) (h : GsAt w0 v gs) (K : FuncId) (caps : List Value) (p : G → Bool) (hp : Pred w0 gs K caps p) :
    Calls Try.prog 42 #[v, .func (.func K) #[] caps.toArray] w0 fun e w' => e = .returned (.bool (gs.any p)) ∧ Ext w0 w' := by
  have H := Lib.hid (indexFunc_any w0 v gs h K caps p hp)
  have hd : decide (0 ≤ idxI gs p) = gs.any p := by
    rw [Bool.eq_iff_iff, decide_eq_true_iff, idxI_neg]
  have HD := Lib.hid hd
  clear h hp hd
  go_enter Try.func42, Try.ntmps42
  go_wp2_with fail
  refine H.out.mono ?_
  rintro e w ⟨rfl, hx⟩
  go_wp2_with fail
  go_ret
  exact ⟨ret_bool HD.out, hx⟩
end Go.Proofs.Ytnfkplohpjfocaa
