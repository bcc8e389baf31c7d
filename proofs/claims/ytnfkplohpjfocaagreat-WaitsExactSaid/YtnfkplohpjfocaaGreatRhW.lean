/-
  The contracts of the reference's Waiting and able.
-/
import Derived.Test.YtnfkplohpjfocaaGreatRhA
import Derived.Test.YtnfkplohpjfocaaGreatRfV
import Derived.Test.YtnfkplohpjfocaaGreatRfC
import Derived.Test.YtnfkplohpjfocaaGreatPxA
import Derived.Test.YtnfkplohpjfocaaGreatLkV
import Derived.Test.YtnfkplohpjfocaaGreatRfA
set_option linter.unusedVariables false
set_option linter.unusedSimpArgs false
namespace Go.Proofs.YtnfkplohpjfocaaGreat
open Go.RowKit
theorem find_at {ws : List G} {p : G → Bool} {i : Nat} {x : G} (hx : ws[i]? = some x) (h : p x = true) (h0 : ∀ (j : Nat) (y : G), j < i → ws[j]? = some y → p y = false) : ws.find? p = some x := by
  obtain ⟨hi, rfl⟩ := List.getElem?_eq_some_iff.1 hx
  rw [List.find?_eq_some_iff_getElem]
  exact ⟨h, i, hi, rfl, fun j hj => by simpa using h0 j _ hj (List.getElem?_eq_getElem (by omega))⟩
theorem find_no {ws : List G} {p : G → Bool} (h0 : ∀ (j : Nat) (y : G), j < ws.length → ws[j]? = some y → p y = false) : ws.find? p = none := by
  rw [List.find?_eq_none]
  intro y hy
  obtain ⟨j, hj, rfl⟩ := List.getElem_of_mem hy
  simpa using h0 j _ hj (List.getElem?_eq_getElem hj)
theorem none_next {ws : List G} {p : G → Bool} {i : Nat} {x : G} (h : ∀ (j : Nat) (y : G), j < i → ws[j]? = some y → p y = false) (hx : ws[i]? = some x) (hp : p x = false) : ∀ (j : Nat) (y : G), j < i + 1 → ws[j]? = some y → p y = false := fun j y hj hy => by
  rcases Nat.lt_or_ge j i with k | k
  · exact h j y k hy
  · obtain rfl : j = i := by omega
    rw [hx] at hy
    cases hy
    exact hp
set_option maxHeartbeats 4000000 in
set_option maxRecDepth 100000 in
theorem rf_waiting (w0 : World) (vh vw : Value) (hs ws : List G) (tx : Int) (h1 : GsAt w0 vh hs) (h2 : GsAt w0 vw ws) (hb1 : hs.length ≤ 1000000) (hb2 : ws.length ≤ 1000000) : Calls Tryz.prog 27 #[.agg #[vh, vw], .int .i64 tx] w0 fun e w' => e = .returned (.tuple #[.agg ((waitF hs ws tx).getD zeroG).arr, .bool (waitF hs ws tx).isSome]) ∧ Ext w0 w' := by
  have HGh := Lib.hid h1
  have HBh := Lib.hid hb1
  obtain ⟨aoh, cph, rfl, hch1, hch2, hath⟩ := h1.get
  obtain ⟨nh, hnh⟩ : ∃ n, n = hs.length := ⟨_, rfl⟩
  rw [← hnh] at HGh hch1 hath hb1 ⊢
  have HNh := Lib.hid hnh
  have HATh := Lib.hid hath
  clear hnh hath h1
  have HGw := Lib.hid h2
  have HBw := Lib.hid hb2
  obtain ⟨aow, cpw, rfl, hcw1, hcw2, hatw⟩ := h2.get
  obtain ⟨nw, hnw⟩ : ∃ n, n = ws.length := ⟨_, rfl⟩
  rw [← hnw] at HGw hcw1 hatw hb2 ⊢
  have HNw := Lib.hid hnw
  have HATw := Lib.hid hatw
  clear hnw hatw h2
  have HS : Hid (St none default w0 w0 []) := St.start w0
  go_enter Tryz.func27, Tryz.ntmps27
  go_wp2_with (first | (refine sx_box HS rfl 25 (.tmp 0) rfl [.slice aoh nh cph, .slice aow nw cpw] rfl ?_; clear HS; intro w b2 HS) | (refine sx_alloc HS rfl 29 rfl _ zr29 ?_; clear HS; intro w b4 HS) | (refine sx_loads HS (by rfl) 25 _ rfl 1 _ _ _ rfl 0 rfl 2 sh25 [.slice aoh nh cph, .slice aow nw cpw] rfl ⟨rfl, rfl, trivial⟩ ?_))
  refine (rf_valid w _ _ hs ws (HGh.out.ext HS.out.isExt) (HGw.out.ext HS.out.isExt) HBh.out HBw.out).mono ?_
  rintro e w ⟨he, hx⟩
  replace HS := Lib.hid (HS.out.ext hx)
  clear hx
  replace HS : Hid (St none default w0 w [(b4, 29, zeroG.lst), (b2, 25, [.slice aoh nh cph, .slice aow nw cpw])]) := HS
  cases hval : refValid hs ws with
  | false =>
    rw [hval] at he
    subst he
    have HF : Hid (waitF hs ws tx = none) := Lib.hid (by unfold waitF; rw [← valid_same, hval]; rfl)
    clear hval
    go_wp2_with (first | (refine sx_store_all HS (by rfl) 29 _ _ rfl rfl 0 _ _ _ rfl rfl zeroG.lst rfl 4 sh29 rfl rfl rfl ?_; clear HS; intro w HS))
    have hB : PBox w b4 29 (zeroG.lst) := HS.out.box (i := 0) rfl
    refine bodyPost_ret (results_ct rfl rfl (run_load_cells sh29 rfl (fun j u hj => by rw [Nat.zero_add]; exact hB.cell hj)) rfl) rfl ?_
    refine ⟨?_, HS.out.isExt⟩
    rw [HF.out]
    rfl
  | true =>
    rw [hval] at he
    subst he
    have HV : Hid (validT hs ws = true) := Lib.hid (by rw [← valid_same]; exact hval)
    clear hval
    go_wp2_with fail
    go_loopw [6] (fun s6 wr => ∃ i : Nat, i ≤ nw ∧ s6 = .int .i64 i ∧ Hid (∀ (j : Nat) (y : G), j < i → ws[j]? = some y → (y.tx == tx) = false) ∧ Hid (St none default w0 wr [(b4, 29, zeroG.lst), (b2, 25, [.slice aoh nh cph, .slice aow nw cpw])])) (fun s6 _ => nw - (intOf s6).toNat)
    case atStart => exact ⟨0, Nat.zero_le _, rfl, (fun j y hj => absurd hj (Nat.not_lt_zero _)), HS⟩
    case round =>
      clear HS
      obtain ⟨i, hi, rfl, H0, HS⟩ := hrel
      by_cases hlt : i < nw
      · skip
        obtain ⟨x, hx⟩ := list_get_of_lt ws i nw HNw.out.symm hlt
        obtain ⟨gq, off, rfl, hcell⟩ := HATw.out (by omega)
        have HX := Lib.hid hx
        have HC := Lib.hid (hcell i x hx)
        clear hcell hx
        cases hxt : (x.tx == tx) with
        | true =>
          have HF : Hid (waitF hs ws tx = some x) := Lib.hid (by unfold waitF; rw [HV.out, if_pos rfl]; exact find_at HX.out hxt H0.out)
          go_wp2_with (first | (refine sx_load HS (by rfl) 23 _ rfl 1 _ _ _ rfl 1 rfl _ sh23 (.slice (some ⟨gq, off, none⟩) nw cpw) rfl ?_) | (refine sx_load1 (by rfl) 3 _ rfl gq (off + i * 4) rfl _ sh3 (.int .i64 x.tx) (HC.out _ HS.out.isExt 0 _ rfl) ?_) | (refine sx_loadsC (by rfl) 29 _ rfl gq (off + i * 4) rfl 4 sh29 (x.lst) rfl (HC.out _ HS.out.isExt) ?_) | (refine sx_store_all HS (by rfl) 29 _ _ rfl rfl 0 _ _ _ rfl rfl x.lst rfl 4 sh29 rfl rfl rfl ?_; clear HS; intro w HS))
          have hB : PBox w b4 29 (x.lst) := HS.out.box (i := 0) rfl
          refine bodyPost_ret (results_ct rfl rfl (run_load_cells sh29 rfl (fun j u hj => by rw [Nat.zero_add]; exact hB.cell hj)) rfl) rfl ?_
          refine ⟨?_, HS.out.isExt⟩
          rw [HF.out]
          rfl
        | false =>
          have H2 := Lib.hid (none_next (p := fun y => y.tx == tx) H0.out HX.out hxt)
          go_wp2_with (first | (refine sx_load HS (by rfl) 23 _ rfl 1 _ _ _ rfl 1 rfl _ sh23 (.slice (some ⟨gq, off, none⟩) nw cpw) rfl ?_) | (refine sx_load1 (by rfl) 3 _ rfl gq (off + i * 4) rfl _ sh3 (.int .i64 x.tx) (HC.out _ HS.out.isExt 0 _ rfl) ?_))
          go_roundw
          case rel => exact ⟨i + 1, by omega, by go_num, H2, HS⟩
          case measure => simp [intOf]; omega
      · skip
        have him : i = nw := by omega
        subst him
        have HF : Hid (waitF hs ws tx = none) := Lib.hid (by unfold waitF; rw [HV.out, if_pos rfl]; exact find_no fun j y hj hy => H0.out j y (by rw [HNw.out]; exact hj) hy)
        go_wp2_with (first | (refine sx_load HS (by rfl) 23 _ rfl 1 _ _ _ rfl 1 rfl _ sh23 (.slice aow i cpw) rfl ?_) | (refine sx_store_all HS (by rfl) 29 _ _ rfl rfl 0 _ _ _ rfl rfl zeroG.lst rfl 4 sh29 rfl rfl rfl ?_; clear HS; intro w HS))
        have hB : PBox w b4 29 (zeroG.lst) := HS.out.box (i := 0) rfl
        refine bodyPost_ret (results_ct rfl rfl (run_load_cells sh29 rfl (fun j u hj => by rw [Nat.zero_add]; exact hB.cell hj)) rfl) rfl ?_
        refine ⟨?_, HS.out.isExt⟩
        rw [HF.out]
        rfl
theorem blocked_yes1 {hs ws : List G} {i k : Nat} {g x : G} (hg : ws[i]? = some g) (hx : hs[k]? = some x) (h : conflictB x g = true) : blockedB hs ws i = true := by
  unfold blockedB
  rw [hg]
  have : hs.any (fun x => conflictB x g) = true := List.any_eq_true.2 ⟨x, List.mem_of_getElem? hx, h⟩
  simp [this]
theorem blocked_yes2 {hs ws : List G} {i k : Nat} {g x : G} (hg : ws[i]? = some g) (hk : k < i) (hx : ws[k]? = some x) (h : conflictB x g = true) : blockedB hs ws i = true := by
  unfold blockedB
  rw [hg]
  have : (ws.take i).any (fun x => conflictB x g) = true := List.any_eq_true.2 ⟨x, List.mem_of_getElem? (i := k) (by rw [List.getElem?_take, if_pos hk]; exact hx), h⟩
  simp only [this, Bool.or_true]
theorem blocked_not {hs ws : List G} {i : Nat} {g : G} (hg : ws[i]? = some g) (h1 : ∀ (j : Nat) (y : G), j < hs.length → hs[j]? = some y → conflictB y g = false) (h2 : ∀ (j : Nat) (y : G), j < i → ws[j]? = some y → conflictB y g = false) : blockedB hs ws i = false := by
  unfold blockedB
  rw [hg]
  have e1 : hs.any (fun x => conflictB x g) = false := List.any_eq_false.2 fun y hy => by
    obtain ⟨j, hj, rfl⟩ := List.getElem_of_mem hy
    simpa using h1 j _ hj (List.getElem?_eq_getElem hj)
  have e2 : (ws.take i).any (fun x => conflictB x g) = false := List.any_eq_false.2 fun y hy => by
    obtain ⟨j, hj, rfl⟩ := List.getElem_of_mem hy
    rw [List.length_take] at hj
    rw [List.getElem_take]
    simpa using h2 j _ (by omega) (List.getElem?_eq_getElem (by omega))
  show ((hs.any fun x => conflictB x g) || (List.take i ws).any fun x => conflictB x g) = false
  rw [e1, e2]
  rfl
set_option maxHeartbeats 4000000 in
set_option maxRecDepth 100000 in
theorem rf_able (w0 : World) (vh vw : Value) (hs ws : List G) (i : Nat) (h1 : GsAt w0 vh hs) (h2 : GsAt w0 vw ws) (hb1 : hs.length ≤ 1000000) (hb2 : ws.length ≤ 1000000) (hi : i < ws.length) : Calls Tryz.prog 61 #[.agg #[vh, vw], .int .i64 (i : Int)] w0 fun e w' => e = .returned (.bool (!blockedB hs ws i)) ∧ Ext w0 w' := by
  obtain ⟨g, hg⟩ : ∃ g, ws[i]? = some g := ⟨_, List.getElem?_eq_getElem hi⟩
  have HGG := Lib.hid hg
  clear hg
  have HGh := Lib.hid h1
  have HBh := Lib.hid hb1
  obtain ⟨aoh, cph, rfl, hch1, hch2, hath⟩ := h1.get
  obtain ⟨nh, hnh⟩ : ∃ n, n = hs.length := ⟨_, rfl⟩
  rw [← hnh] at HGh hch1 hath hb1 ⊢
  have HNh := Lib.hid hnh
  have HATh := Lib.hid hath
  clear hnh hath h1
  have HGw := Lib.hid h2
  have HBw := Lib.hid hb2
  obtain ⟨aow, cpw, rfl, hcw1, hcw2, hatw⟩ := h2.get
  obtain ⟨nw, hnw⟩ : ∃ n, n = ws.length := ⟨_, rfl⟩
  rw [← hnw] at HGw hcw1 hatw hb2 ⊢
  have HNw := Lib.hid hnw
  have HATw := Lib.hid hatw
  clear hnw hatw h2
  rw [← HNw.out] at hi
  obtain ⟨gw, ow, rfl, hcw⟩ := HATw.out (by omega)
  have HCW := Lib.hid hcw
  have HCG := Lib.hid (hcw i g HGG.out)
  clear hcw
  have HS : Hid (St none default w0 w0 []) := St.start w0
  go_enter Tryz.func61, Tryz.ntmps61
  go_wp2_with (first | (refine sx_box HS rfl 25 (.tmp 0) rfl [.slice aoh nh cph, .slice (some ⟨gw, ow, none⟩) nw cpw] rfl ?_; clear HS; intro w b2 HS))
  go_loopw [5] (fun s5 wr => ∃ k : Nat, k ≤ nh ∧ s5 = .int .i64 k ∧ Hid (∀ (j : Nat) (y : G), j < k → hs[j]? = some y → conflictB y g = false) ∧ Hid (St none default w0 wr [(b2, 25, [.slice aoh nh cph, .slice (some ⟨gw, ow, none⟩) nw cpw])])) (fun s5 _ => nh - (intOf s5).toNat)
  case atStart => exact ⟨0, Nat.zero_le _, rfl, (fun j y hj => absurd hj (Nat.not_lt_zero _)), HS⟩
  case round =>
    clear HS
    obtain ⟨k, hk, rfl, H0, HS⟩ := hrel
    by_cases hlt : k < nh
    · skip
      obtain ⟨x, hx⟩ := list_get_of_lt hs k nh HNh.out.symm hlt
      obtain ⟨gh, oh, rfl, hcell⟩ := HATh.out (by omega)
      have HX := Lib.hid hx
      have HC := Lib.hid (hcell k x hx)
      clear hcell hx
      go_wp2_with (first | (refine sx_load HS (by rfl) 23 _ rfl 0 _ _ _ rfl 0 rfl _ sh23 (.slice (some ⟨gh, oh, none⟩) nh cph) rfl ?_))
      cases hcf : conflictB x g with
      | true =>
        have HF : Hid (blockedB hs ws i = true) := Lib.hid (blocked_yes1 HGG.out HX.out hcf)
        refine hg_begin [(b2, 25, [.slice (some ⟨gh, oh, none⟩) nh cph, .slice (some ⟨gw, ow, none⟩) nw cpw])] HS (by kernel_rfl) ?_
        clear HS; intro w HS
        refine hg_reg 0 (some 14) rfl rfl (by kernel_rfl) (by kernel_rfl) (by kernel_rfl) (fun _ _ _ _ h => h) HS (List.Sublist.refl _) (.pointer (some ⟨b2, 0, none⟩)) rfl (fun _ => by go_simp) ?_
        try simp only [Act.put, List.setIfInBounds_toArray, List.set_cons_zero, List.set_cons_succ]
        refine hg_load 1 (some 15) rfl rfl (by kernel_rfl) (by kernel_rfl) (by kernel_rfl) (fun _ _ _ _ h => h) HS (List.Sublist.refl _) rfl 23 _ rfl 0 _ _ _ rfl 0 rfl _ sh23 (.slice (some ⟨gh, oh, none⟩) nh cph) rfl ?_
        try simp only [Act.put, List.setIfInBounds_toArray, List.set_cons_zero, List.set_cons_succ]
        refine hg_reg 2 (some 16) rfl rfl (by kernel_rfl) (by kernel_rfl) (by kernel_rfl) (fun _ _ _ _ h => h) HS (List.Sublist.refl _) (.int .i64 (k : Int)) rfl (fun _ => by rfl) ?_
        try simp only [Act.put, List.setIfInBounds_toArray, List.set_cons_zero, List.set_cons_succ]
        refine hg_reg 3 (some 17) rfl rfl (by kernel_rfl) (by kernel_rfl) (by kernel_rfl) (fun _ _ _ _ h => h) HS (List.Sublist.refl _) (.pointer (some ⟨gh, oh + k * 4, none⟩)) rfl (fun _ => by go_simp) ?_
        try simp only [Act.put, List.setIfInBounds_toArray, List.set_cons_zero, List.set_cons_succ]
        refine hg_loadsC 4 (some 18) rfl rfl (by kernel_rfl) (by kernel_rfl) (by kernel_rfl) (fun _ _ _ _ h => h) HS (List.Sublist.refl _) rfl 29 _ rfl gh (oh + k * 4) rfl 4 sh29 (x.lst) rfl (fun w2 h2 => HC.out w2 h2.isExt) ?_
        try simp only [Act.put, List.setIfInBounds_toArray, List.set_cons_zero, List.set_cons_succ]
        refine hg_reg 5 (some 19) rfl rfl (by kernel_rfl) (by kernel_rfl) (by kernel_rfl) (fun _ _ _ _ h => h) HS (List.Sublist.refl _) (.pointer (some ⟨b2, 1, none⟩)) rfl (fun _ => by go_simp) ?_
        try simp only [Act.put, List.setIfInBounds_toArray, List.set_cons_zero, List.set_cons_succ]
        refine hg_load 6 (some 20) rfl rfl (by kernel_rfl) (by kernel_rfl) (by kernel_rfl) (fun _ _ _ _ h => h) HS (List.Sublist.refl _) rfl 23 _ rfl 0 _ _ _ rfl 1 rfl _ sh23 (.slice (some ⟨gw, ow, none⟩) nw cpw) rfl ?_
        try simp only [Act.put, List.setIfInBounds_toArray, List.set_cons_zero, List.set_cons_succ]
        refine hg_reg 7 (some 21) rfl rfl (by kernel_rfl) (by kernel_rfl) (by kernel_rfl) (fun _ _ _ _ h => h) HS (List.Sublist.refl _) (.int .i64 (i : Int)) rfl (fun _ => by rfl) ?_
        try simp only [Act.put, List.setIfInBounds_toArray, List.set_cons_zero, List.set_cons_succ]
        refine hg_reg 8 (some 22) rfl rfl (by kernel_rfl) (by kernel_rfl) (by kernel_rfl) (fun _ _ _ _ h => h) HS (List.Sublist.refl _) (.pointer (some ⟨gw, ow + i * 4, none⟩)) rfl (fun _ => by go_simp) ?_
        try simp only [Act.put, List.setIfInBounds_toArray, List.set_cons_zero, List.set_cons_succ]
        refine hg_loadsC 9 (some 23) rfl rfl (by kernel_rfl) (by kernel_rfl) (by kernel_rfl) (fun _ _ _ _ h => h) HS (List.Sublist.refl _) rfl 29 _ rfl gw (ow + i * 4) rfl 4 sh29 (g.lst) rfl (fun w2 h2 => HCG.out w2 h2.isExt) ?_
        try simp only [Act.put, List.setIfInBounds_toArray, List.set_cons_zero, List.set_cons_succ]
        refine hk_x1 10 (by kernel_rfl) ?_
        refine hg_call 10 (some 24) rfl rfl rfl HS (List.Sublist.refl _) 28 _ _ rfl Tryz.func28 (by kernel_rfl) rfl _ (fun v => v = .bool true) ((rf_conflict x g _).mono (fun e w1 h => by obtain ⟨rfl, hx⟩ := h; exact ⟨_, rfl, by rw [hcf], HS.out.ext hx⟩)) rfl ?_
        clear HS; rintro _ w rfl HS
        try simp only [Act.put, List.setIfInBounds_toArray, List.set_cons_zero, List.set_cons_succ]
        refine hk_done (by kernel_rfl) ?_
        clear hcf
        go_wp2_with fail
        go_ret
        exact ⟨ret_bool (by rw [HF.out]; rfl), HS.out.isExt⟩
      | false =>
        have H2 := Lib.hid (none_next (p := fun y => conflictB y g) H0.out HX.out hcf)
        refine hg_begin [(b2, 25, [.slice (some ⟨gh, oh, none⟩) nh cph, .slice (some ⟨gw, ow, none⟩) nw cpw])] HS (by kernel_rfl) ?_
        clear HS; intro w HS
        refine hg_reg 0 (some 14) rfl rfl (by kernel_rfl) (by kernel_rfl) (by kernel_rfl) (fun _ _ _ _ h => h) HS (List.Sublist.refl _) (.pointer (some ⟨b2, 0, none⟩)) rfl (fun _ => by go_simp) ?_
        try simp only [Act.put, List.setIfInBounds_toArray, List.set_cons_zero, List.set_cons_succ]
        refine hg_load 1 (some 15) rfl rfl (by kernel_rfl) (by kernel_rfl) (by kernel_rfl) (fun _ _ _ _ h => h) HS (List.Sublist.refl _) rfl 23 _ rfl 0 _ _ _ rfl 0 rfl _ sh23 (.slice (some ⟨gh, oh, none⟩) nh cph) rfl ?_
        try simp only [Act.put, List.setIfInBounds_toArray, List.set_cons_zero, List.set_cons_succ]
        refine hg_reg 2 (some 16) rfl rfl (by kernel_rfl) (by kernel_rfl) (by kernel_rfl) (fun _ _ _ _ h => h) HS (List.Sublist.refl _) (.int .i64 (k : Int)) rfl (fun _ => by rfl) ?_
        try simp only [Act.put, List.setIfInBounds_toArray, List.set_cons_zero, List.set_cons_succ]
        refine hg_reg 3 (some 17) rfl rfl (by kernel_rfl) (by kernel_rfl) (by kernel_rfl) (fun _ _ _ _ h => h) HS (List.Sublist.refl _) (.pointer (some ⟨gh, oh + k * 4, none⟩)) rfl (fun _ => by go_simp) ?_
        try simp only [Act.put, List.setIfInBounds_toArray, List.set_cons_zero, List.set_cons_succ]
        refine hg_loadsC 4 (some 18) rfl rfl (by kernel_rfl) (by kernel_rfl) (by kernel_rfl) (fun _ _ _ _ h => h) HS (List.Sublist.refl _) rfl 29 _ rfl gh (oh + k * 4) rfl 4 sh29 (x.lst) rfl (fun w2 h2 => HC.out w2 h2.isExt) ?_
        try simp only [Act.put, List.setIfInBounds_toArray, List.set_cons_zero, List.set_cons_succ]
        refine hg_reg 5 (some 19) rfl rfl (by kernel_rfl) (by kernel_rfl) (by kernel_rfl) (fun _ _ _ _ h => h) HS (List.Sublist.refl _) (.pointer (some ⟨b2, 1, none⟩)) rfl (fun _ => by go_simp) ?_
        try simp only [Act.put, List.setIfInBounds_toArray, List.set_cons_zero, List.set_cons_succ]
        refine hg_load 6 (some 20) rfl rfl (by kernel_rfl) (by kernel_rfl) (by kernel_rfl) (fun _ _ _ _ h => h) HS (List.Sublist.refl _) rfl 23 _ rfl 0 _ _ _ rfl 1 rfl _ sh23 (.slice (some ⟨gw, ow, none⟩) nw cpw) rfl ?_
        try simp only [Act.put, List.setIfInBounds_toArray, List.set_cons_zero, List.set_cons_succ]
        refine hg_reg 7 (some 21) rfl rfl (by kernel_rfl) (by kernel_rfl) (by kernel_rfl) (fun _ _ _ _ h => h) HS (List.Sublist.refl _) (.int .i64 (i : Int)) rfl (fun _ => by rfl) ?_
        try simp only [Act.put, List.setIfInBounds_toArray, List.set_cons_zero, List.set_cons_succ]
        refine hg_reg 8 (some 22) rfl rfl (by kernel_rfl) (by kernel_rfl) (by kernel_rfl) (fun _ _ _ _ h => h) HS (List.Sublist.refl _) (.pointer (some ⟨gw, ow + i * 4, none⟩)) rfl (fun _ => by go_simp) ?_
        try simp only [Act.put, List.setIfInBounds_toArray, List.set_cons_zero, List.set_cons_succ]
        refine hg_loadsC 9 (some 23) rfl rfl (by kernel_rfl) (by kernel_rfl) (by kernel_rfl) (fun _ _ _ _ h => h) HS (List.Sublist.refl _) rfl 29 _ rfl gw (ow + i * 4) rfl 4 sh29 (g.lst) rfl (fun w2 h2 => HCG.out w2 h2.isExt) ?_
        try simp only [Act.put, List.setIfInBounds_toArray, List.set_cons_zero, List.set_cons_succ]
        refine hk_x1 10 (by kernel_rfl) ?_
        refine hg_call 10 (some 24) rfl rfl rfl HS (List.Sublist.refl _) 28 _ _ rfl Tryz.func28 (by kernel_rfl) rfl _ (fun v => v = .bool false) ((rf_conflict x g _).mono (fun e w1 h => by obtain ⟨rfl, hx⟩ := h; exact ⟨_, rfl, by rw [hcf], HS.out.ext hx⟩)) rfl ?_
        clear HS; rintro _ w rfl HS
        try simp only [Act.put, List.setIfInBounds_toArray, List.set_cons_zero, List.set_cons_succ]
        refine hk_done (by kernel_rfl) ?_
        clear hcf
        go_wp2_with fail
        go_roundw
        case rel => exact ⟨k + 1, by omega, by go_num, H2, HS⟩
        case measure => simp [intOf]; omega
    · skip
      have him : k = nh := by omega
      subst him
      go_wp2_with (first | (refine sx_load HS (by rfl) 23 _ rfl 0 _ _ _ rfl 0 rfl _ sh23 (.slice aoh k cph) rfl ?_))
      go_loopw [6] (fun s6 wr => ∃ k2 : Nat, k2 ≤ i ∧ s6 = .int .i64 k2 ∧ Hid (∀ (j : Nat) (y : G), j < k2 → ws[j]? = some y → conflictB y g = false) ∧ Hid (St none default w0 wr [(b2, 25, [.slice aoh k cph, .slice (some ⟨gw, ow, none⟩) nw cpw])])) (fun s6 _ => i - (intOf s6).toNat)
      case atStart => exact ⟨0, Nat.zero_le _, rfl, (fun j y hj => absurd hj (Nat.not_lt_zero _)), HS⟩
      case round =>
        clear HS
        obtain ⟨k2, hk2, rfl, H02, HS⟩ := hrel
        by_cases hlt2 : k2 < i
        · skip
          have hlt3 : k2 < nw := by omega
          obtain ⟨x, hx⟩ := list_get_of_lt ws k2 nw HNw.out.symm hlt3
          have HX := Lib.hid hx
          have HC := Lib.hid (HCW.out k2 x hx)
          clear hx
          go_wp2_with fail
          cases hcf : conflictB x g with
          | true =>
            have HF : Hid (blockedB hs ws i = true) := Lib.hid (blocked_yes2 HGG.out hlt2 HX.out hcf)
            refine hg_begin [(b2, 25, [.slice aoh k cph, .slice (some ⟨gw, ow, none⟩) nw cpw])] HS (by kernel_rfl) ?_
            clear HS; intro w HS
            refine hg_reg 0 (some 30) rfl rfl (by kernel_rfl) (by kernel_rfl) (by kernel_rfl) (fun _ _ _ _ h => h) HS (List.Sublist.refl _) (.pointer (some ⟨b2, 1, none⟩)) rfl (fun _ => by go_simp) ?_
            try simp only [Act.put, List.setIfInBounds_toArray, List.set_cons_zero, List.set_cons_succ]
            refine hg_load 1 (some 31) rfl rfl (by kernel_rfl) (by kernel_rfl) (by kernel_rfl) (fun _ _ _ _ h => h) HS (List.Sublist.refl _) rfl 23 _ rfl 0 _ _ _ rfl 1 rfl _ sh23 (.slice (some ⟨gw, ow, none⟩) nw cpw) rfl ?_
            try simp only [Act.put, List.setIfInBounds_toArray, List.set_cons_zero, List.set_cons_succ]
            refine hg_reg 2 (some 32) rfl rfl (by kernel_rfl) (by kernel_rfl) (by kernel_rfl) (fun _ _ _ _ h => h) HS (List.Sublist.refl _) (.int .i64 (k2 : Int)) rfl (fun _ => by rfl) ?_
            try simp only [Act.put, List.setIfInBounds_toArray, List.set_cons_zero, List.set_cons_succ]
            refine hg_reg 3 (some 33) rfl rfl (by kernel_rfl) (by kernel_rfl) (by kernel_rfl) (fun _ _ _ _ h => h) HS (List.Sublist.refl _) (.pointer (some ⟨gw, ow + k2 * 4, none⟩)) rfl (fun _ => by go_simp) ?_
            try simp only [Act.put, List.setIfInBounds_toArray, List.set_cons_zero, List.set_cons_succ]
            refine hg_loadsC 4 (some 34) rfl rfl (by kernel_rfl) (by kernel_rfl) (by kernel_rfl) (fun _ _ _ _ h => h) HS (List.Sublist.refl _) rfl 29 _ rfl gw (ow + k2 * 4) rfl 4 sh29 (x.lst) rfl (fun w2 h2 => HC.out w2 h2.isExt) ?_
            try simp only [Act.put, List.setIfInBounds_toArray, List.set_cons_zero, List.set_cons_succ]
            refine hg_reg 5 (some 35) rfl rfl (by kernel_rfl) (by kernel_rfl) (by kernel_rfl) (fun _ _ _ _ h => h) HS (List.Sublist.refl _) (.pointer (some ⟨b2, 1, none⟩)) rfl (fun _ => by go_simp) ?_
            try simp only [Act.put, List.setIfInBounds_toArray, List.set_cons_zero, List.set_cons_succ]
            refine hg_load 6 (some 36) rfl rfl (by kernel_rfl) (by kernel_rfl) (by kernel_rfl) (fun _ _ _ _ h => h) HS (List.Sublist.refl _) rfl 23 _ rfl 0 _ _ _ rfl 1 rfl _ sh23 (.slice (some ⟨gw, ow, none⟩) nw cpw) rfl ?_
            try simp only [Act.put, List.setIfInBounds_toArray, List.set_cons_zero, List.set_cons_succ]
            refine hg_reg 7 (some 37) rfl rfl (by kernel_rfl) (by kernel_rfl) (by kernel_rfl) (fun _ _ _ _ h => h) HS (List.Sublist.refl _) (.int .i64 (i : Int)) rfl (fun _ => by rfl) ?_
            try simp only [Act.put, List.setIfInBounds_toArray, List.set_cons_zero, List.set_cons_succ]
            refine hg_reg 8 (some 38) rfl rfl (by kernel_rfl) (by kernel_rfl) (by kernel_rfl) (fun _ _ _ _ h => h) HS (List.Sublist.refl _) (.pointer (some ⟨gw, ow + i * 4, none⟩)) rfl (fun _ => by go_simp) ?_
            try simp only [Act.put, List.setIfInBounds_toArray, List.set_cons_zero, List.set_cons_succ]
            refine hg_loadsC 9 (some 39) rfl rfl (by kernel_rfl) (by kernel_rfl) (by kernel_rfl) (fun _ _ _ _ h => h) HS (List.Sublist.refl _) rfl 29 _ rfl gw (ow + i * 4) rfl 4 sh29 (g.lst) rfl (fun w2 h2 => HCG.out w2 h2.isExt) ?_
            try simp only [Act.put, List.setIfInBounds_toArray, List.set_cons_zero, List.set_cons_succ]
            refine hk_x1 10 (by kernel_rfl) ?_
            refine hg_call 10 (some 40) rfl rfl rfl HS (List.Sublist.refl _) 28 _ _ rfl Tryz.func28 (by kernel_rfl) rfl _ (fun v => v = .bool true) ((rf_conflict x g _).mono (fun e w1 h => by obtain ⟨rfl, hx⟩ := h; exact ⟨_, rfl, by rw [hcf], HS.out.ext hx⟩)) rfl ?_
            clear HS; rintro _ w rfl HS
            try simp only [Act.put, List.setIfInBounds_toArray, List.set_cons_zero, List.set_cons_succ]
            refine hk_done (by kernel_rfl) ?_
            clear hcf
            go_wp2_with fail
            go_ret
            exact ⟨ret_bool (by rw [HF.out]; rfl), HS.out.isExt⟩
          | false =>
            have H2 := Lib.hid (none_next (p := fun y => conflictB y g) H02.out HX.out hcf)
            refine hg_begin [(b2, 25, [.slice aoh k cph, .slice (some ⟨gw, ow, none⟩) nw cpw])] HS (by kernel_rfl) ?_
            clear HS; intro w HS
            refine hg_reg 0 (some 30) rfl rfl (by kernel_rfl) (by kernel_rfl) (by kernel_rfl) (fun _ _ _ _ h => h) HS (List.Sublist.refl _) (.pointer (some ⟨b2, 1, none⟩)) rfl (fun _ => by go_simp) ?_
            try simp only [Act.put, List.setIfInBounds_toArray, List.set_cons_zero, List.set_cons_succ]
            refine hg_load 1 (some 31) rfl rfl (by kernel_rfl) (by kernel_rfl) (by kernel_rfl) (fun _ _ _ _ h => h) HS (List.Sublist.refl _) rfl 23 _ rfl 0 _ _ _ rfl 1 rfl _ sh23 (.slice (some ⟨gw, ow, none⟩) nw cpw) rfl ?_
            try simp only [Act.put, List.setIfInBounds_toArray, List.set_cons_zero, List.set_cons_succ]
            refine hg_reg 2 (some 32) rfl rfl (by kernel_rfl) (by kernel_rfl) (by kernel_rfl) (fun _ _ _ _ h => h) HS (List.Sublist.refl _) (.int .i64 (k2 : Int)) rfl (fun _ => by rfl) ?_
            try simp only [Act.put, List.setIfInBounds_toArray, List.set_cons_zero, List.set_cons_succ]
            refine hg_reg 3 (some 33) rfl rfl (by kernel_rfl) (by kernel_rfl) (by kernel_rfl) (fun _ _ _ _ h => h) HS (List.Sublist.refl _) (.pointer (some ⟨gw, ow + k2 * 4, none⟩)) rfl (fun _ => by go_simp) ?_
            try simp only [Act.put, List.setIfInBounds_toArray, List.set_cons_zero, List.set_cons_succ]
            refine hg_loadsC 4 (some 34) rfl rfl (by kernel_rfl) (by kernel_rfl) (by kernel_rfl) (fun _ _ _ _ h => h) HS (List.Sublist.refl _) rfl 29 _ rfl gw (ow + k2 * 4) rfl 4 sh29 (x.lst) rfl (fun w2 h2 => HC.out w2 h2.isExt) ?_
            try simp only [Act.put, List.setIfInBounds_toArray, List.set_cons_zero, List.set_cons_succ]
            refine hg_reg 5 (some 35) rfl rfl (by kernel_rfl) (by kernel_rfl) (by kernel_rfl) (fun _ _ _ _ h => h) HS (List.Sublist.refl _) (.pointer (some ⟨b2, 1, none⟩)) rfl (fun _ => by go_simp) ?_
            try simp only [Act.put, List.setIfInBounds_toArray, List.set_cons_zero, List.set_cons_succ]
            refine hg_load 6 (some 36) rfl rfl (by kernel_rfl) (by kernel_rfl) (by kernel_rfl) (fun _ _ _ _ h => h) HS (List.Sublist.refl _) rfl 23 _ rfl 0 _ _ _ rfl 1 rfl _ sh23 (.slice (some ⟨gw, ow, none⟩) nw cpw) rfl ?_
            try simp only [Act.put, List.setIfInBounds_toArray, List.set_cons_zero, List.set_cons_succ]
            refine hg_reg 7 (some 37) rfl rfl (by kernel_rfl) (by kernel_rfl) (by kernel_rfl) (fun _ _ _ _ h => h) HS (List.Sublist.refl _) (.int .i64 (i : Int)) rfl (fun _ => by rfl) ?_
            try simp only [Act.put, List.setIfInBounds_toArray, List.set_cons_zero, List.set_cons_succ]
            refine hg_reg 8 (some 38) rfl rfl (by kernel_rfl) (by kernel_rfl) (by kernel_rfl) (fun _ _ _ _ h => h) HS (List.Sublist.refl _) (.pointer (some ⟨gw, ow + i * 4, none⟩)) rfl (fun _ => by go_simp) ?_
            try simp only [Act.put, List.setIfInBounds_toArray, List.set_cons_zero, List.set_cons_succ]
            refine hg_loadsC 9 (some 39) rfl rfl (by kernel_rfl) (by kernel_rfl) (by kernel_rfl) (fun _ _ _ _ h => h) HS (List.Sublist.refl _) rfl 29 _ rfl gw (ow + i * 4) rfl 4 sh29 (g.lst) rfl (fun w2 h2 => HCG.out w2 h2.isExt) ?_
            try simp only [Act.put, List.setIfInBounds_toArray, List.set_cons_zero, List.set_cons_succ]
            refine hk_x1 10 (by kernel_rfl) ?_
            refine hg_call 10 (some 40) rfl rfl rfl HS (List.Sublist.refl _) 28 _ _ rfl Tryz.func28 (by kernel_rfl) rfl _ (fun v => v = .bool false) ((rf_conflict x g _).mono (fun e w1 h => by obtain ⟨rfl, hx⟩ := h; exact ⟨_, rfl, by rw [hcf], HS.out.ext hx⟩)) rfl ?_
            clear HS; rintro _ w rfl HS
            try simp only [Act.put, List.setIfInBounds_toArray, List.set_cons_zero, List.set_cons_succ]
            refine hk_done (by kernel_rfl) ?_
            clear hcf
            go_wp2_with fail
            go_roundw
            case rel => exact ⟨k2 + 1, by omega, by go_num, H2, HS⟩
            case measure => simp [intOf]; omega
        · skip
          have him : k2 = i := by omega
          subst him
          have HF : Hid (blockedB hs ws k2 = false) := Lib.hid (blocked_not HGG.out (fun j y hj hy => H0.out j y (by rw [HNh.out]; exact hj) hy) H02.out)
          go_wp2_with fail
          go_ret
          exact ⟨ret_bool (by rw [HF.out]; rfl), HS.out.isExt⟩
end Go.Proofs.YtnfkplohpjfocaaGreat

namespace Go.Proofs.YtnfkplohpjfocaaGreat
open Go.RowKit
theorem neq_lock (p s p2 s2 : Int) (w : World) : (binOp .neq 27 (.agg #[.int .i64 p, .int .i64 s]) (.agg #[.int .i64 p2, .int .i64 s2])).run Tryz.prog w = .ok (.bool (!((p == p2) && (s == s2)))) w := by
  cases h1 : (p == p2) <;> cases h2 : (s == s2) <;> simp [go_sem, h1, h2, Tryz.underlying27]
theorem hold_step {g x : G} {l : List G} {d : Bool} {i : Nat} (hx : l[i]? = some x) : holdF g d (l.drop i) = (if !d && !ltB x g then [g] else []) ++ ((if (x.tx != g.tx) || !sameLock x g then [x] else []) ++ holdF g (d || !ltB x g) (l.drop (i + 1))) := by
  obtain ⟨hi, rfl⟩ := List.getElem?_eq_some_iff.1 hx
  rw [← List.getElem_cons_drop (h := hi)]
  conv => lhs; unfold holdF
theorem hold_len (g : G) : ∀ (l : List G) (d : Bool), (holdF g d l).length ≤ 2 * l.length + 1
  | [], d => by unfold holdF; split <;> simp
  | x :: l, d => by
    have := hold_len g l (d || !ltB x g)
    unfold holdF
    simp only [List.length_append, List.length_cons]
    split <;> split <;> simp <;> omega
set_option maxHeartbeats 8000000 in
set_option maxRecDepth 100000 in
theorem rf_hold (w0 : World) (v : Value) (l : List G) (g : G) (h : GsAt w0 v l) (hl : l.length ≤ 100000) : Calls Tryz.prog 62 #[v, .agg g.arr] w0 (GrPost (holdF g false l) w0) := by
  obtain ⟨ao, cap, rfl, hc1, hc2, hat⟩ := h.get
  obtain ⟨ie, hie, hiz, his, hib⟩ := info_grant
  have HIE := Lib.hid hie
  have HIZ := Lib.hid hiz
  have HIS := Lib.hid his
  have HIB := Lib.hid hib
  clear hie hiz his hib
  have hlen := hold_len g l false
  obtain ⟨m, hm⟩ : ∃ m, m = l.length := ⟨_, rfl⟩
  rw [← hm] at hc1 hat hl hlen ⊢
  have HM := Lib.hid hm
  have HAT := Lib.hid hat
  have HLN := Lib.hid hlen
  clear hm hat h hlen
  have HS : Hid (St none default w0 w0 []) := St.start w0
  go_enter Tryz.func62, Tryz.ntmps62
  go_wp2_with (first | (refine sx_box HS rfl 29 (.tmp 1) rfl g.lst rfl ?_; clear HS; intro w b3 HS))
  replace HS : Hid (St none default w0 w [(b3, 29, [.int .i64 g.tx, .int .i64 g.page, .int .i64 g.slot, .int .i64 g.mode])]) := HS
  go_loopw [5, 6, 7] (fun s5 s6 s7 wr => ∃ (d : Bool) (i : Nat) (acc : List G) (lr : List (Nat × TypeId × List Value)), i ≤ m ∧ s6 = .bool d ∧ s7 = .int .i64 i ∧ Hid (holdF g false l = acc ++ holdF g d (l.drop i)) ∧ Hid (OwnRow 29 4 lr s5 acc.length (gL acc)) ∧ Hid (St none default w0 wr (lr ++ [(b3, 29, [.int .i64 g.tx, .int .i64 g.page, .int .i64 g.slot, .int .i64 g.mode])]))) (fun _ _ s7 _ => m - (intOf s7).toNat)
  case atStart => exact ⟨false, 0, [], [], Nat.zero_le _, rfl, rfl, rfl, OwnRow.nil, HS⟩
  case round =>
    clear HS
    obtain ⟨d, i, acc, lr, hi, rfl, rfl, HA, HR, HS⟩ := hrel
    obtain ⟨ao2, cp2, rfl, hd1, hd2⟩ := HR.out.form
    have hd3 : cp2 ≤ 9223372036854775807 := hd2
    obtain ⟨k, hk⟩ : ∃ k, k = acc.length := ⟨_, rfl⟩
    have hkl : k ≤ 200001 := by have h1 := HLN.out; rw [HA.out, List.length_append, ← hk] at h1; omega
    rw [← hk] at HR hd1 ⊢
    have HK := Lib.hid hk
    clear hk hd2
    by_cases hlt : i < m
    · skip
      obtain ⟨x, hx⟩ := list_get_of_lt l i m HM.out.symm hlt
      obtain ⟨gq, off, rfl, hcell⟩ := HAT.out (by omega)
      have HX := Lib.hid hx
      have HC := Lib.hid (hcell i x hx)
      have HST := Lib.hid (hold_step (g := g) (d := d) hx)
      clear hcell hx
      cases d with
      | true =>
        go_wp2_with fail
        refine hg_begin [(b3, 29, [.int .i64 g.tx, .int .i64 g.page, .int .i64 g.slot, .int .i64 g.mode])] HS (by kernel_rfl) ?_
        clear HS; intro w HS
        refine hg_reg 0 (some 14) rfl rfl (by kernel_rfl) (by kernel_rfl) (by kernel_rfl) (fun _ _ _ _ h => h) HS (List.sublist_append_right lr _) (.bool true) rfl (fun _ => by rfl) ?_
        try simp only [Act.put, List.setIfInBounds_toArray, List.set_cons_zero, List.set_cons_succ]
        refine hg_reg 1 (some 15) rfl rfl (by kernel_rfl) (by kernel_rfl) (by kernel_rfl) (fun _ _ _ _ h => h) HS (List.sublist_append_right lr _) (.bool false) rfl (fun _ => by rfl) ?_
        try simp only [Act.put, List.setIfInBounds_toArray, List.set_cons_zero, List.set_cons_succ]
        refine hg_reg 2 (some 16) rfl rfl (by kernel_rfl) (by kernel_rfl) (by kernel_rfl) (fun _ _ _ _ h => h) HS (List.sublist_append_right lr _) (.bool false) rfl (fun _ => by rfl) ?_
        try simp only [Act.put, List.setIfInBounds_toArray, List.set_cons_zero, List.set_cons_succ]
        refine hg_skip 3 (some 17) rfl rfl (by kernel_rfl) (by kernel_rfl) (by kernel_rfl) (fun _ _ _ _ h => h) HS (List.sublist_append_right lr _) rfl ?_
        try simp only [Act.put, List.setIfInBounds_toArray, List.set_cons_zero, List.set_cons_succ]
        refine hg_skip 4 (some 18) rfl rfl (by kernel_rfl) (by kernel_rfl) (by kernel_rfl) (fun _ _ _ _ h => h) HS (List.sublist_append_right lr _) rfl ?_
        try simp only [Act.put, List.setIfInBounds_toArray, List.set_cons_zero, List.set_cons_succ]
        refine hg_skip 5 (some 19) rfl rfl (by kernel_rfl) (by kernel_rfl) (by kernel_rfl) (fun _ _ _ _ h => h) HS (List.sublist_append_right lr _) rfl ?_
        try simp only [Act.put, List.setIfInBounds_toArray, List.set_cons_zero, List.set_cons_succ]
        refine hg_skip 6 (some 20) rfl rfl (by kernel_rfl) (by kernel_rfl) (by kernel_rfl) (fun _ _ _ _ h => h) HS (List.sublist_append_right lr _) rfl ?_
        try simp only [Act.put, List.setIfInBounds_toArray, List.set_cons_zero, List.set_cons_succ]
        refine hg_skip 7 (some 21) rfl rfl (by kernel_rfl) (by kernel_rfl) (by kernel_rfl) (fun _ _ _ _ h => h) HS (List.sublist_append_right lr _) rfl ?_
        try simp only [Act.put, List.setIfInBounds_toArray, List.set_cons_zero, List.set_cons_succ]
        refine hg_skip 8 (some 22) rfl rfl (by kernel_rfl) (by kernel_rfl) (by kernel_rfl) (fun _ _ _ _ h => h) HS (List.sublist_append_right lr _) rfl ?_
        try simp only [Act.put, List.setIfInBounds_toArray, List.set_cons_zero, List.set_cons_succ]
        refine hg_skip 9 (some 23) rfl rfl (by kernel_rfl) (by kernel_rfl) (by kernel_rfl) (fun _ _ _ _ h => h) HS (List.sublist_append_right lr _) rfl ?_
        try simp only [Act.put, List.setIfInBounds_toArray, List.set_cons_zero, List.set_cons_succ]
        refine hg_reg 10 (some 24) rfl rfl (by kernel_rfl) (by kernel_rfl) (by kernel_rfl) (fun _ _ _ _ h => h) HS (List.sublist_append_right lr _) (.bool false) rfl (fun _ => by rfl) ?_
        try simp only [Act.put, List.setIfInBounds_toArray, List.set_cons_zero, List.set_cons_succ]
        refine hk_done (by kernel_rfl) ?_
        go_wp2_with fail
        have c0 : w.cell? ⟨gq, off + i * 4, none⟩ = some (.int .i64 x.tx) := HC.out w HS.out.isExt 0 _ rfl
        have c1 : w.cell? ⟨gq, off + i * 4 + 1, none⟩ = some (.int .i64 x.page) := HC.out w HS.out.isExt 1 _ rfl
        have c2 : w.cell? ⟨gq, off + i * 4 + 2, none⟩ = some (.int .i64 x.slot) := HC.out w HS.out.isExt 2 _ rfl
        have hb3 : PBox w b3 29 [.int .i64 g.tx, .int .i64 g.page, .int .i64 g.slot, .int .i64 g.mode] := ((Bx_iff.1 HS.out.own).1 (b3, 29, [.int .i64 g.tx, .int .i64 g.page, .int .i64 g.slot, .int .i64 g.mode]) (List.mem_append_right _ (by simp))).2
        have d0 := hb3.cell (o := 0) (v := .int .i64 g.tx) rfl
        have d1 := hb3.cell (o := 1) (v := .int .i64 g.page) rfl
        have d2 := hb3.cell (o := 2) (v := .int .i64 g.slot) rfl
        clear hb3
        have hq := neq_lock x.page x.slot g.page g.slot
        cases h1 : (x.tx != g.tx) with
        | true =>
          have HKP : Hid (((x.tx != g.tx) || !sameLock x g) = true) := Lib.hid (by rw [h1]; rfl)
          go_quiet (fail)
          replace HS := Lib.hid (HS.out.drewN nq)
          clear c0 c1 c2 d0 d1 d2 hq
          go_wp2_with (first | (refine sx_loadsC (by rfl) 29 _ rfl gq (off + i * 4) rfl 4 sh29 (x.lst) rfl (HC.out _ HS.out.isExt) ?_) | (refine sx_build HS (by rfl) 23 29 1 [(0, .tmp 51)] rfl [(0, .agg x.arr)] rfl x.lst (fun w => build_grant x w) ?_; clear HS; intro w bn HS) | (at_builtin; refine sx_appendO (front := [(bn, 29, x.lst)]) (lr := lr) (ll := [(b3, 29, [.int .i64 g.tx, .int .i64 g.page, .int .i64 g.slot, .int .i64 g.mode])]) HS (by rfl) (.tmp 47) (.tmp 52) 23 rfl 29 ie _ 4 _ Tryz.underlying23 HIE.out HIZ.out HIS.out rfl rfl _ k (gL (acc)) rfl HR.out _ rfl 1 x.lst (SrcAt.box (HS.out.box (i := 0) rfl) rfl rfl) (by unfold maxLen; omega) (Nat.le_trans (Nat.mul_le_mul (show k + 1 ≤ 300001 by omega) HIB.out) (by decide)) ?_; clear HS; intro vv w lq HS HR2))
          have HR9 : Hid (OwnRow 29 4 lq vv (acc ++ [x]).length (gL (acc ++ [x]))) := Lib.hid (by rw [gL_append (acc), gL_one, List.length_append]; have h := HR2.out; rw [HK.out] at h; simpa [Nat.add_assoc] using h)
          replace HS : Hid (St none default w0 _ (lq ++ [(b3, 29, [.int .i64 g.tx, .int .i64 g.page, .int .i64 g.slot, .int .i64 g.mode])])) := Lib.hid (HS.out.drop 1)
          go_roundw
          case rel => exact ⟨true, i + 1, acc ++ [x], lq, by omega, rfl, by go_num, Lib.hid (by rw [HA.out, HST.out, HKP.out]; simp), HR9, HS⟩
          case measure => simp [intOf]; omega
        | false =>
          cases h2 : ((x.page == g.page) && (x.slot == g.slot)) with
          | false =>
            rw [h2] at hq
            have HKP : Hid (((x.tx != g.tx) || !sameLock x g) = true) := Lib.hid (by unfold sameLock; rw [h1, h2]; rfl)
            go_quiet (fail)
            replace HS := Lib.hid (HS.out.drewN nq)
            clear c0 c1 c2 d0 d1 d2 hq
            go_wp2_with (first | (refine sx_loadsC (by rfl) 29 _ rfl gq (off + i * 4) rfl 4 sh29 (x.lst) rfl (HC.out _ HS.out.isExt) ?_) | (refine sx_build HS (by rfl) 23 29 1 [(0, .tmp 51)] rfl [(0, .agg x.arr)] rfl x.lst (fun w => build_grant x w) ?_; clear HS; intro w bn HS) | (at_builtin; refine sx_appendO (front := [(bn, 29, x.lst)]) (lr := lr) (ll := [(b3, 29, [.int .i64 g.tx, .int .i64 g.page, .int .i64 g.slot, .int .i64 g.mode])]) HS (by rfl) (.tmp 47) (.tmp 52) 23 rfl 29 ie _ 4 _ Tryz.underlying23 HIE.out HIZ.out HIS.out rfl rfl _ k (gL (acc)) rfl HR.out _ rfl 1 x.lst (SrcAt.box (HS.out.box (i := 0) rfl) rfl rfl) (by unfold maxLen; omega) (Nat.le_trans (Nat.mul_le_mul (show k + 1 ≤ 300001 by omega) HIB.out) (by decide)) ?_; clear HS; intro vv w lq HS HR2))
            have HR9 : Hid (OwnRow 29 4 lq vv (acc ++ [x]).length (gL (acc ++ [x]))) := Lib.hid (by rw [gL_append (acc), gL_one, List.length_append]; have h := HR2.out; rw [HK.out] at h; simpa [Nat.add_assoc] using h)
            replace HS : Hid (St none default w0 _ (lq ++ [(b3, 29, [.int .i64 g.tx, .int .i64 g.page, .int .i64 g.slot, .int .i64 g.mode])])) := Lib.hid (HS.out.drop 1)
            go_roundw
            case rel => exact ⟨true, i + 1, acc ++ [x], lq, by omega, rfl, by go_num, Lib.hid (by rw [HA.out, HST.out, HKP.out]; simp), HR9, HS⟩
            case measure => simp [intOf]; omega
          | true =>
            rw [h2] at hq
            have HKP : Hid (((x.tx != g.tx) || !sameLock x g) = false) := Lib.hid (by unfold sameLock; rw [h1, h2]; rfl)
            go_quiet (fail)
            replace HS := Lib.hid (HS.out.drewN nq)
            clear c0 c1 c2 d0 d1 d2 hq
            go_wp2_with fail
            go_roundw
            case rel => exact ⟨true, i + 1, acc, lr, by omega, rfl, by go_num, Lib.hid (by rw [HA.out, HST.out, HKP.out]; simp), Lib.hid (by first | (rw [← HK.out]; exact HR.out) | (rw [List.length_append, ← HK.out]; exact HR.out)), HS⟩
            case measure => simp [intOf]; omega
      | false =>
        go_wp2_with fail
        cases hlb : ltB x g with
        | true =>
          refine hg_begin [(b3, 29, [.int .i64 g.tx, .int .i64 g.page, .int .i64 g.slot, .int .i64 g.mode])] HS (by kernel_rfl) ?_
          clear HS; intro w HS
          refine hg_reg 0 (some 14) rfl rfl (by kernel_rfl) (by kernel_rfl) (by kernel_rfl) (fun _ _ _ _ h => h) HS (List.sublist_append_right lr _) (.bool false) rfl (fun _ => by rfl) ?_
          try simp only [Act.put, List.setIfInBounds_toArray, List.set_cons_zero, List.set_cons_succ]
          refine hg_reg 1 (some 15) rfl rfl (by kernel_rfl) (by kernel_rfl) (by kernel_rfl) (fun _ _ _ _ h => h) HS (List.sublist_append_right lr _) (.bool true) rfl (fun _ => by rfl) ?_
          try simp only [Act.put, List.setIfInBounds_toArray, List.set_cons_zero, List.set_cons_succ]
          refine hg_reg 2 (some 16) rfl rfl (by kernel_rfl) (by kernel_rfl) (by kernel_rfl) (fun _ _ _ _ h => h) HS (List.sublist_append_right lr _) (.bool true) rfl (fun _ => by rfl) ?_
          try simp only [Act.put, List.setIfInBounds_toArray, List.set_cons_zero, List.set_cons_succ]
          refine hg_reg 3 (some 17) rfl rfl (by kernel_rfl) (by kernel_rfl) (by kernel_rfl) (fun _ _ _ _ h => h) HS (List.sublist_append_right lr _) (.slice (some ⟨gq, off, none⟩) m cap) rfl (fun _ => by rfl) ?_
          try simp only [Act.put, List.setIfInBounds_toArray, List.set_cons_zero, List.set_cons_succ]
          refine hg_reg 4 (some 18) rfl rfl (by kernel_rfl) (by kernel_rfl) (by kernel_rfl) (fun _ _ _ _ h => h) HS (List.sublist_append_right lr _) (.int .i64 (i : Int)) rfl (fun _ => by rfl) ?_
          try simp only [Act.put, List.setIfInBounds_toArray, List.set_cons_zero, List.set_cons_succ]
          refine hg_reg 5 (some 19) rfl rfl (by kernel_rfl) (by kernel_rfl) (by kernel_rfl) (fun _ _ _ _ h => h) HS (List.sublist_append_right lr _) (.pointer (some ⟨gq, off + i * 4, none⟩)) rfl (fun _ => by go_simp) ?_
          try simp only [Act.put, List.setIfInBounds_toArray, List.set_cons_zero, List.set_cons_succ]
          refine hg_loadsC 6 (some 20) rfl rfl (by kernel_rfl) (by kernel_rfl) (by kernel_rfl) (fun _ _ _ _ h => h) HS (List.sublist_append_right lr _) rfl 29 _ rfl gq (off + i * 4) rfl 4 sh29 (x.lst) rfl (fun w2 h2 => HC.out w2 h2.isExt) ?_
          try simp only [Act.put, List.setIfInBounds_toArray, List.set_cons_zero, List.set_cons_succ]
          refine hg_loads 7 (some 21) rfl rfl (by kernel_rfl) (by kernel_rfl) (by kernel_rfl) (fun _ _ _ _ h => h) HS (List.sublist_append_right lr _) rfl 29 _ rfl 0 _ _ _ rfl 0 rfl 4 sh29 [.int .i64 g.tx, .int .i64 g.page, .int .i64 g.slot, .int .i64 g.mode] rfl ⟨rfl, rfl, rfl, rfl, trivial⟩ ?_
          try simp only [Act.put, List.setIfInBounds_toArray, List.set_cons_zero, List.set_cons_succ]
          refine hk_x1 8 (by kernel_rfl) ?_
          refine hg_call 8 (some 22) rfl rfl rfl HS (List.sublist_append_right lr _) 60 _ _ rfl Tryz.func60 (by kernel_rfl) rfl _ (fun v => v = .bool true) ((rf_less x g _).mono (fun e w1 h => by obtain ⟨rfl, hx⟩ := h; exact ⟨_, rfl, by rw [hlb], HS.out.ext hx⟩)) rfl ?_
          clear HS; rintro _ w rfl HS
          try simp only [Act.put, List.setIfInBounds_toArray, List.set_cons_zero, List.set_cons_succ]
          refine hg_reg 9 (some 23) rfl rfl (by kernel_rfl) (by kernel_rfl) (by kernel_rfl) (fun _ _ _ _ h => h) HS (List.sublist_append_right lr _) (.bool false) rfl (fun _ => by rfl) ?_
          try simp only [Act.put, List.setIfInBounds_toArray, List.set_cons_zero, List.set_cons_succ]
          refine hg_reg 10 (some 24) rfl rfl (by kernel_rfl) (by kernel_rfl) (by kernel_rfl) (fun _ _ _ _ h => h) HS (List.sublist_append_right lr _) (.bool false) rfl (fun _ => by rfl) ?_
          try simp only [Act.put, List.setIfInBounds_toArray, List.set_cons_zero, List.set_cons_succ]
          refine hk_done (by kernel_rfl) ?_
          have HLB := Lib.hid hlb
          clear hlb
          go_wp2_with fail
          have c0 : w.cell? ⟨gq, off + i * 4, none⟩ = some (.int .i64 x.tx) := HC.out w HS.out.isExt 0 _ rfl
          have c1 : w.cell? ⟨gq, off + i * 4 + 1, none⟩ = some (.int .i64 x.page) := HC.out w HS.out.isExt 1 _ rfl
          have c2 : w.cell? ⟨gq, off + i * 4 + 2, none⟩ = some (.int .i64 x.slot) := HC.out w HS.out.isExt 2 _ rfl
          have hb3 : PBox w b3 29 [.int .i64 g.tx, .int .i64 g.page, .int .i64 g.slot, .int .i64 g.mode] := ((Bx_iff.1 HS.out.own).1 (b3, 29, [.int .i64 g.tx, .int .i64 g.page, .int .i64 g.slot, .int .i64 g.mode]) (List.mem_append_right _ (by simp))).2
          have d0 := hb3.cell (o := 0) (v := .int .i64 g.tx) rfl
          have d1 := hb3.cell (o := 1) (v := .int .i64 g.page) rfl
          have d2 := hb3.cell (o := 2) (v := .int .i64 g.slot) rfl
          clear hb3
          have hq := neq_lock x.page x.slot g.page g.slot
          cases h1 : (x.tx != g.tx) with
          | true =>
            have HKP : Hid (((x.tx != g.tx) || !sameLock x g) = true) := Lib.hid (by rw [h1]; rfl)
            go_quiet (fail)
            replace HS := Lib.hid (HS.out.drewN nq)
            clear c0 c1 c2 d0 d1 d2 hq
            go_wp2_with (first | (refine sx_loadsC (by rfl) 29 _ rfl gq (off + i * 4) rfl 4 sh29 (x.lst) rfl (HC.out _ HS.out.isExt) ?_) | (refine sx_build HS (by rfl) 23 29 1 [(0, .tmp 51)] rfl [(0, .agg x.arr)] rfl x.lst (fun w => build_grant x w) ?_; clear HS; intro w bn HS) | (at_builtin; refine sx_appendO (front := [(bn, 29, x.lst)]) (lr := lr) (ll := [(b3, 29, [.int .i64 g.tx, .int .i64 g.page, .int .i64 g.slot, .int .i64 g.mode])]) HS (by rfl) (.tmp 47) (.tmp 52) 23 rfl 29 ie _ 4 _ Tryz.underlying23 HIE.out HIZ.out HIS.out rfl rfl _ k (gL (acc)) rfl HR.out _ rfl 1 x.lst (SrcAt.box (HS.out.box (i := 0) rfl) rfl rfl) (by unfold maxLen; omega) (Nat.le_trans (Nat.mul_le_mul (show k + 1 ≤ 300001 by omega) HIB.out) (by decide)) ?_; clear HS; intro vv w lq HS HR2))
            have HR9 : Hid (OwnRow 29 4 lq vv (acc ++ [x]).length (gL (acc ++ [x]))) := Lib.hid (by rw [gL_append (acc), gL_one, List.length_append]; have h := HR2.out; rw [HK.out] at h; simpa [Nat.add_assoc] using h)
            replace HS : Hid (St none default w0 _ (lq ++ [(b3, 29, [.int .i64 g.tx, .int .i64 g.page, .int .i64 g.slot, .int .i64 g.mode])])) := Lib.hid (HS.out.drop 1)
            go_roundw
            case rel => exact ⟨false, i + 1, acc ++ [x], lq, by omega, rfl, by go_num, Lib.hid (by rw [HA.out, HST.out, HKP.out, HLB.out]; simp), HR9, HS⟩
            case measure => simp [intOf]; omega
          | false =>
            cases h2 : ((x.page == g.page) && (x.slot == g.slot)) with
            | false =>
              rw [h2] at hq
              have HKP : Hid (((x.tx != g.tx) || !sameLock x g) = true) := Lib.hid (by unfold sameLock; rw [h1, h2]; rfl)
              go_quiet (fail)
              replace HS := Lib.hid (HS.out.drewN nq)
              clear c0 c1 c2 d0 d1 d2 hq
              go_wp2_with (first | (refine sx_loadsC (by rfl) 29 _ rfl gq (off + i * 4) rfl 4 sh29 (x.lst) rfl (HC.out _ HS.out.isExt) ?_) | (refine sx_build HS (by rfl) 23 29 1 [(0, .tmp 51)] rfl [(0, .agg x.arr)] rfl x.lst (fun w => build_grant x w) ?_; clear HS; intro w bn HS) | (at_builtin; refine sx_appendO (front := [(bn, 29, x.lst)]) (lr := lr) (ll := [(b3, 29, [.int .i64 g.tx, .int .i64 g.page, .int .i64 g.slot, .int .i64 g.mode])]) HS (by rfl) (.tmp 47) (.tmp 52) 23 rfl 29 ie _ 4 _ Tryz.underlying23 HIE.out HIZ.out HIS.out rfl rfl _ k (gL (acc)) rfl HR.out _ rfl 1 x.lst (SrcAt.box (HS.out.box (i := 0) rfl) rfl rfl) (by unfold maxLen; omega) (Nat.le_trans (Nat.mul_le_mul (show k + 1 ≤ 300001 by omega) HIB.out) (by decide)) ?_; clear HS; intro vv w lq HS HR2))
              have HR9 : Hid (OwnRow 29 4 lq vv (acc ++ [x]).length (gL (acc ++ [x]))) := Lib.hid (by rw [gL_append (acc), gL_one, List.length_append]; have h := HR2.out; rw [HK.out] at h; simpa [Nat.add_assoc] using h)
              replace HS : Hid (St none default w0 _ (lq ++ [(b3, 29, [.int .i64 g.tx, .int .i64 g.page, .int .i64 g.slot, .int .i64 g.mode])])) := Lib.hid (HS.out.drop 1)
              go_roundw
              case rel => exact ⟨false, i + 1, acc ++ [x], lq, by omega, rfl, by go_num, Lib.hid (by rw [HA.out, HST.out, HKP.out, HLB.out]; simp), HR9, HS⟩
              case measure => simp [intOf]; omega
            | true =>
              rw [h2] at hq
              have HKP : Hid (((x.tx != g.tx) || !sameLock x g) = false) := Lib.hid (by unfold sameLock; rw [h1, h2]; rfl)
              go_quiet (fail)
              replace HS := Lib.hid (HS.out.drewN nq)
              clear c0 c1 c2 d0 d1 d2 hq
              go_wp2_with fail
              go_roundw
              case rel => exact ⟨false, i + 1, acc, lr, by omega, rfl, by go_num, Lib.hid (by rw [HA.out, HST.out, HKP.out, HLB.out]; simp), Lib.hid (by first | (rw [← HK.out]; exact HR.out) | (rw [List.length_append, ← HK.out]; exact HR.out)), HS⟩
              case measure => simp [intOf]; omega
        | false =>
          refine hg_begin [(b3, 29, [.int .i64 g.tx, .int .i64 g.page, .int .i64 g.slot, .int .i64 g.mode])] HS (by kernel_rfl) ?_
          clear HS; intro w HS
          refine hg_reg 0 (some 14) rfl rfl (by kernel_rfl) (by kernel_rfl) (by kernel_rfl) (fun _ _ _ _ h => h) HS (List.sublist_append_right lr _) (.bool false) rfl (fun _ => by rfl) ?_
          try simp only [Act.put, List.setIfInBounds_toArray, List.set_cons_zero, List.set_cons_succ]
          refine hg_reg 1 (some 15) rfl rfl (by kernel_rfl) (by kernel_rfl) (by kernel_rfl) (fun _ _ _ _ h => h) HS (List.sublist_append_right lr _) (.bool true) rfl (fun _ => by rfl) ?_
          try simp only [Act.put, List.setIfInBounds_toArray, List.set_cons_zero, List.set_cons_succ]
          refine hg_reg 2 (some 16) rfl rfl (by kernel_rfl) (by kernel_rfl) (by kernel_rfl) (fun _ _ _ _ h => h) HS (List.sublist_append_right lr _) (.bool true) rfl (fun _ => by rfl) ?_
          try simp only [Act.put, List.setIfInBounds_toArray, List.set_cons_zero, List.set_cons_succ]
          refine hg_reg 3 (some 17) rfl rfl (by kernel_rfl) (by kernel_rfl) (by kernel_rfl) (fun _ _ _ _ h => h) HS (List.sublist_append_right lr _) (.slice (some ⟨gq, off, none⟩) m cap) rfl (fun _ => by rfl) ?_
          try simp only [Act.put, List.setIfInBounds_toArray, List.set_cons_zero, List.set_cons_succ]
          refine hg_reg 4 (some 18) rfl rfl (by kernel_rfl) (by kernel_rfl) (by kernel_rfl) (fun _ _ _ _ h => h) HS (List.sublist_append_right lr _) (.int .i64 (i : Int)) rfl (fun _ => by rfl) ?_
          try simp only [Act.put, List.setIfInBounds_toArray, List.set_cons_zero, List.set_cons_succ]
          refine hg_reg 5 (some 19) rfl rfl (by kernel_rfl) (by kernel_rfl) (by kernel_rfl) (fun _ _ _ _ h => h) HS (List.sublist_append_right lr _) (.pointer (some ⟨gq, off + i * 4, none⟩)) rfl (fun _ => by go_simp) ?_
          try simp only [Act.put, List.setIfInBounds_toArray, List.set_cons_zero, List.set_cons_succ]
          refine hg_loadsC 6 (some 20) rfl rfl (by kernel_rfl) (by kernel_rfl) (by kernel_rfl) (fun _ _ _ _ h => h) HS (List.sublist_append_right lr _) rfl 29 _ rfl gq (off + i * 4) rfl 4 sh29 (x.lst) rfl (fun w2 h2 => HC.out w2 h2.isExt) ?_
          try simp only [Act.put, List.setIfInBounds_toArray, List.set_cons_zero, List.set_cons_succ]
          refine hg_loads 7 (some 21) rfl rfl (by kernel_rfl) (by kernel_rfl) (by kernel_rfl) (fun _ _ _ _ h => h) HS (List.sublist_append_right lr _) rfl 29 _ rfl 0 _ _ _ rfl 0 rfl 4 sh29 [.int .i64 g.tx, .int .i64 g.page, .int .i64 g.slot, .int .i64 g.mode] rfl ⟨rfl, rfl, rfl, rfl, trivial⟩ ?_
          try simp only [Act.put, List.setIfInBounds_toArray, List.set_cons_zero, List.set_cons_succ]
          refine hk_x1 8 (by kernel_rfl) ?_
          refine hg_call 8 (some 22) rfl rfl rfl HS (List.sublist_append_right lr _) 60 _ _ rfl Tryz.func60 (by kernel_rfl) rfl _ (fun v => v = .bool false) ((rf_less x g _).mono (fun e w1 h => by obtain ⟨rfl, hx⟩ := h; exact ⟨_, rfl, by rw [hlb], HS.out.ext hx⟩)) rfl ?_
          clear HS; rintro _ w rfl HS
          try simp only [Act.put, List.setIfInBounds_toArray, List.set_cons_zero, List.set_cons_succ]
          refine hg_reg 9 (some 23) rfl rfl (by kernel_rfl) (by kernel_rfl) (by kernel_rfl) (fun _ _ _ _ h => h) HS (List.sublist_append_right lr _) (.bool true) rfl (fun _ => by rfl) ?_
          try simp only [Act.put, List.setIfInBounds_toArray, List.set_cons_zero, List.set_cons_succ]
          refine hg_reg 10 (some 24) rfl rfl (by kernel_rfl) (by kernel_rfl) (by kernel_rfl) (fun _ _ _ _ h => h) HS (List.sublist_append_right lr _) (.bool true) rfl (fun _ => by rfl) ?_
          try simp only [Act.put, List.setIfInBounds_toArray, List.set_cons_zero, List.set_cons_succ]
          refine hk_done (by kernel_rfl) ?_
          have HLB := Lib.hid hlb
          clear hlb
          go_wp2_with (first | (refine sx_loads HS (by rfl) 29 (.tmp 3) rfl lr.length b3 29 [.int .i64 g.tx, .int .i64 g.page, .int .i64 g.slot, .int .i64 g.mode] (by simp) 0 rfl 4 sh29 [.int .i64 g.tx, .int .i64 g.page, .int .i64 g.slot, .int .i64 g.mode] rfl ⟨rfl, rfl, rfl, rfl, trivial⟩ ?_) | (refine sx_build HS (by rfl) 23 29 1 [(0, .tmp 26)] rfl [(0, .agg g.arr)] rfl g.lst (fun w => build_grant g w) ?_; clear HS; intro w bn HS) | (at_builtin; refine sx_appendO (front := [(bn, 29, g.lst)]) (lr := lr) (ll := [(b3, 29, [.int .i64 g.tx, .int .i64 g.page, .int .i64 g.slot, .int .i64 g.mode])]) HS (by rfl) (.tmp 25) (.tmp 27) 23 rfl 29 ie _ 4 _ Tryz.underlying23 HIE.out HIZ.out HIS.out rfl rfl _ k (gL acc) rfl HR.out _ rfl 1 g.lst (SrcAt.box (HS.out.box (i := 0) rfl) rfl rfl) (by unfold maxLen; omega) (Nat.le_trans (Nat.mul_le_mul (show k + 1 ≤ 300001 by omega) HIB.out) (by decide)) ?_; clear HS; intro vv w lq HS HR2))
          replace HS : Hid (St none default w0 _ (lq ++ [(b3, 29, [.int .i64 g.tx, .int .i64 g.page, .int .i64 g.slot, .int .i64 g.mode])])) := Lib.hid (HS.out.drop 1)
          clear HR
          have HR : Hid (OwnRow 29 4 lq vv (k + 1) (gL (acc ++ [g]))) := Lib.hid (by have h := HR2.out; rw [gL_append, gL_one]; exact h)
          clear HR2
          obtain ⟨ao3, cp3, rfl, hd4, hd5⟩ := HR.out.form
          have hd6 : cp3 ≤ 9223372036854775807 := hd5
          clear hd5
          have c0 : w.cell? ⟨gq, off + i * 4, none⟩ = some (.int .i64 x.tx) := HC.out w HS.out.isExt 0 _ rfl
          have c1 : w.cell? ⟨gq, off + i * 4 + 1, none⟩ = some (.int .i64 x.page) := HC.out w HS.out.isExt 1 _ rfl
          have c2 : w.cell? ⟨gq, off + i * 4 + 2, none⟩ = some (.int .i64 x.slot) := HC.out w HS.out.isExt 2 _ rfl
          have hb3 : PBox w b3 29 [.int .i64 g.tx, .int .i64 g.page, .int .i64 g.slot, .int .i64 g.mode] := ((Bx_iff.1 HS.out.own).1 (b3, 29, [.int .i64 g.tx, .int .i64 g.page, .int .i64 g.slot, .int .i64 g.mode]) (List.mem_append_right _ (by simp))).2
          have d0 := hb3.cell (o := 0) (v := .int .i64 g.tx) rfl
          have d1 := hb3.cell (o := 1) (v := .int .i64 g.page) rfl
          have d2 := hb3.cell (o := 2) (v := .int .i64 g.slot) rfl
          clear hb3
          have hq := neq_lock x.page x.slot g.page g.slot
          cases h1 : (x.tx != g.tx) with
          | true =>
            have HKP : Hid (((x.tx != g.tx) || !sameLock x g) = true) := Lib.hid (by rw [h1]; rfl)
            go_quiet (fail)
            replace HS := Lib.hid (HS.out.drewN nq)
            clear c0 c1 c2 d0 d1 d2 hq
            go_wp2_with (first | (refine sx_loadsC (by rfl) 29 _ rfl gq (off + i * 4) rfl 4 sh29 (x.lst) rfl (HC.out _ HS.out.isExt) ?_) | (refine sx_build HS (by rfl) 23 29 1 [(0, .tmp 51)] rfl [(0, .agg x.arr)] rfl x.lst (fun w => build_grant x w) ?_; clear HS; intro w bn HS) | (at_builtin; refine sx_appendO (front := [(bn, 29, x.lst)]) (lr := lq) (ll := [(b3, 29, [.int .i64 g.tx, .int .i64 g.page, .int .i64 g.slot, .int .i64 g.mode])]) HS (by rfl) (.tmp 47) (.tmp 52) 23 rfl 29 ie _ 4 _ Tryz.underlying23 HIE.out HIZ.out HIS.out rfl rfl _ (k + 1) (gL (acc ++ [g])) rfl HR.out _ rfl 1 x.lst (SrcAt.box (HS.out.box (i := 0) rfl) rfl rfl) (by unfold maxLen; omega) (Nat.le_trans (Nat.mul_le_mul (show (k + 1) + 1 ≤ 300001 by omega) HIB.out) (by decide)) ?_; clear HS; intro vv w lq HS HR2))
            have HR9 : Hid (OwnRow 29 4 lq vv (acc ++ [g] ++ [x]).length (gL (acc ++ [g] ++ [x]))) := Lib.hid (by rw [gL_append (acc ++ [g]), gL_one, List.length_append]; have h := HR2.out; rw [HK.out] at h; simpa [Nat.add_assoc] using h)
            replace HS : Hid (St none default w0 _ (lq ++ [(b3, 29, [.int .i64 g.tx, .int .i64 g.page, .int .i64 g.slot, .int .i64 g.mode])])) := Lib.hid (HS.out.drop 1)
            go_roundw
            case rel => exact ⟨true, i + 1, acc ++ [g] ++ [x], lq, by omega, rfl, by go_num, Lib.hid (by rw [HA.out, HST.out, HKP.out, HLB.out]; simp), HR9, HS⟩
            case measure => simp [intOf]; omega
          | false =>
            cases h2 : ((x.page == g.page) && (x.slot == g.slot)) with
            | false =>
              rw [h2] at hq
              have HKP : Hid (((x.tx != g.tx) || !sameLock x g) = true) := Lib.hid (by unfold sameLock; rw [h1, h2]; rfl)
              go_quiet (fail)
              replace HS := Lib.hid (HS.out.drewN nq)
              clear c0 c1 c2 d0 d1 d2 hq
              go_wp2_with (first | (refine sx_loadsC (by rfl) 29 _ rfl gq (off + i * 4) rfl 4 sh29 (x.lst) rfl (HC.out _ HS.out.isExt) ?_) | (refine sx_build HS (by rfl) 23 29 1 [(0, .tmp 51)] rfl [(0, .agg x.arr)] rfl x.lst (fun w => build_grant x w) ?_; clear HS; intro w bn HS) | (at_builtin; refine sx_appendO (front := [(bn, 29, x.lst)]) (lr := lq) (ll := [(b3, 29, [.int .i64 g.tx, .int .i64 g.page, .int .i64 g.slot, .int .i64 g.mode])]) HS (by rfl) (.tmp 47) (.tmp 52) 23 rfl 29 ie _ 4 _ Tryz.underlying23 HIE.out HIZ.out HIS.out rfl rfl _ (k + 1) (gL (acc ++ [g])) rfl HR.out _ rfl 1 x.lst (SrcAt.box (HS.out.box (i := 0) rfl) rfl rfl) (by unfold maxLen; omega) (Nat.le_trans (Nat.mul_le_mul (show (k + 1) + 1 ≤ 300001 by omega) HIB.out) (by decide)) ?_; clear HS; intro vv w lq HS HR2))
              have HR9 : Hid (OwnRow 29 4 lq vv (acc ++ [g] ++ [x]).length (gL (acc ++ [g] ++ [x]))) := Lib.hid (by rw [gL_append (acc ++ [g]), gL_one, List.length_append]; have h := HR2.out; rw [HK.out] at h; simpa [Nat.add_assoc] using h)
              replace HS : Hid (St none default w0 _ (lq ++ [(b3, 29, [.int .i64 g.tx, .int .i64 g.page, .int .i64 g.slot, .int .i64 g.mode])])) := Lib.hid (HS.out.drop 1)
              go_roundw
              case rel => exact ⟨true, i + 1, acc ++ [g] ++ [x], lq, by omega, rfl, by go_num, Lib.hid (by rw [HA.out, HST.out, HKP.out, HLB.out]; simp), HR9, HS⟩
              case measure => simp [intOf]; omega
            | true =>
              rw [h2] at hq
              have HKP : Hid (((x.tx != g.tx) || !sameLock x g) = false) := Lib.hid (by unfold sameLock; rw [h1, h2]; rfl)
              go_quiet (fail)
              replace HS := Lib.hid (HS.out.drewN nq)
              clear c0 c1 c2 d0 d1 d2 hq
              go_wp2_with fail
              go_roundw
              case rel => exact ⟨true, i + 1, acc ++ [g], lq, by omega, rfl, by go_num, Lib.hid (by rw [HA.out, HST.out, HKP.out, HLB.out]; simp), Lib.hid (by first | (rw [← HK.out]; exact HR.out) | (rw [List.length_append, ← HK.out]; exact HR.out)), HS⟩
              case measure => simp [intOf]; omega
    · skip
      have him : i = m := by omega
      subst him
      cases d with
      | true =>
        have HF : Hid (holdF g false l = acc) := Lib.hid (by rw [HA.out, List.drop_eq_nil_of_le (by rw [← HM.out]; exact Nat.le_refl _)]; simp [holdF])
        go_wp2_with fail
        go_ret
        exact ⟨_, lr, rfl, HS.out.sub (List.sublist_append_left _ _), by rw [HF.out, ← HK.out]; exact HR.out⟩
      | false =>
        have HF : Hid (holdF g false l = acc ++ [g]) := Lib.hid (by rw [HA.out, List.drop_eq_nil_of_le (by rw [← HM.out]; exact Nat.le_refl _)]; simp [holdF])
        go_wp2_with (first | (refine sx_loads HS (by rfl) 29 (.tmp 3) rfl lr.length b3 29 [.int .i64 g.tx, .int .i64 g.page, .int .i64 g.slot, .int .i64 g.mode] (by simp) 0 rfl 4 sh29 [.int .i64 g.tx, .int .i64 g.page, .int .i64 g.slot, .int .i64 g.mode] rfl ⟨rfl, rfl, rfl, rfl, trivial⟩ ?_) | (refine sx_build HS (by rfl) 23 29 1 [(0, .tmp 57)] rfl [(0, .agg g.arr)] rfl g.lst (fun w => build_grant g w) ?_; clear HS; intro w bn HS) | (at_builtin; refine sx_appendO (front := [(bn, 29, g.lst)]) (lr := lr) (ll := [(b3, 29, [.int .i64 g.tx, .int .i64 g.page, .int .i64 g.slot, .int .i64 g.mode])]) HS (by rfl) (.tmp 56) (.tmp 58) 23 rfl 29 ie _ 4 _ Tryz.underlying23 HIE.out HIZ.out HIS.out rfl rfl _ k (gL acc) rfl HR.out _ rfl 1 g.lst (SrcAt.box (HS.out.box (i := 0) rfl) rfl rfl) (by unfold maxLen; omega) (Nat.le_trans (Nat.mul_le_mul (show k + 1 ≤ 300001 by omega) HIB.out) (by decide)) ?_; clear HS; intro vv w lq HS HR2))
        go_ret
        refine ⟨_, lq, rfl, (HS.out.drop 1).sub (List.sublist_append_left _ _), ?_⟩
        rw [HF.out, List.length_append, ← HK.out, gL_append, gL_one]
        exact HR2.out
theorem filter_step {p : G → Bool} {l : List G} {i : Nat} {x : G} (hx : l[i]? = some x) : (l.drop i).filter p = (if p x then [x] else []) ++ (l.drop (i + 1)).filter p := by
  obtain ⟨hi, rfl⟩ := List.getElem?_eq_some_iff.1 hx
  rw [← List.getElem_cons_drop (h := hi), List.filter_cons]
  split <;> simp
set_option maxHeartbeats 8000000 in
set_option maxRecDepth 100000 in
theorem rf_left (w0 : World) (v : Value) (l : List G) (tx : Int) (h : GsAt w0 v l) (hl : l.length ≤ 100000) : Calls Tryz.prog 36 #[v, .int .i64 tx, .bool false, .agg #[.int .i64 0, .int .i64 0]] w0 (GrPost (l.filter fun x => !(x.tx == tx)) w0) := by
  obtain ⟨ao, cap, rfl, hc1, hc2, hat⟩ := h.get
  obtain ⟨ie, hie, hiz, his, hib⟩ := info_grant
  have HIE := Lib.hid hie
  have HIZ := Lib.hid hiz
  have HIS := Lib.hid his
  have HIB := Lib.hid hib
  clear hie hiz his hib
  have hlen := List.length_filter_le (fun x : G => !(x.tx == tx)) l
  obtain ⟨m, hm⟩ : ∃ m, m = l.length := ⟨_, rfl⟩
  rw [← hm] at hc1 hat hl hlen ⊢
  have HM := Lib.hid hm
  have HAT := Lib.hid hat
  have HLN := Lib.hid hlen
  clear hm hat h hlen
  have HS : Hid (St none default w0 w0 []) := St.start w0
  go_enter Tryz.func36, Tryz.ntmps36
  go_wp2_with (first | (refine sx_box HS rfl 27 (.tmp 3) rfl [.int .i64 0, .int .i64 0] rfl ?_; clear HS; intro w b7 HS))
  replace HS : Hid (St none default w0 w [(b7, 27, [.int .i64 0, .int .i64 0])]) := HS
  go_loopw [9, 10] (fun s9 s10 wr => ∃ (i : Nat) (acc : List G) (lr : List (Nat × TypeId × List Value)), i ≤ m ∧ s10 = .int .i64 i ∧ Hid ((l.filter fun x => !(x.tx == tx)) = acc ++ (l.drop i).filter fun x => !(x.tx == tx)) ∧ Hid (OwnRow 29 4 lr s9 acc.length (gL acc)) ∧ Hid (St none default w0 wr (lr ++ [(b7, 27, [.int .i64 0, .int .i64 0])]))) (fun _ s10 _ => m - (intOf s10).toNat)
  case atStart => exact ⟨0, [], [], Nat.zero_le _, rfl, rfl, OwnRow.nil, HS⟩
  case round =>
    clear HS
    obtain ⟨i, acc, lr, hi, rfl, HA, HR, HS⟩ := hrel
    obtain ⟨ao2, cp2, rfl, hd1, hd2⟩ := HR.out.form
    have hd3 : cp2 ≤ 9223372036854775807 := hd2
    obtain ⟨k, hk⟩ : ∃ k, k = acc.length := ⟨_, rfl⟩
    have hkl : k ≤ 200001 := by have h1 := HLN.out; rw [HA.out, List.length_append, ← hk] at h1; omega
    rw [← hk] at HR hd1 ⊢
    have HK := Lib.hid hk
    clear hk hd2
    by_cases hlt : i < m
    · skip
      obtain ⟨x, hx⟩ := list_get_of_lt l i m HM.out.symm hlt
      obtain ⟨gq, off, rfl, hcell⟩ := HAT.out (by omega)
      have HX := Lib.hid hx
      have HC := Lib.hid (hcell i x hx)
      have HST := Lib.hid (filter_step (p := fun x => !(x.tx == tx)) hx)
      clear hcell hx
      go_wp2_with fail
      have c0 : wr.cell? ⟨gq, off + i * 4, none⟩ = some (.int .i64 x.tx) := HC.out wr HS.out.isExt 0 _ rfl
      cases h1 : (x.tx == tx) with
      | true =>
        have h2 : (x.tx != tx) = false := by simp [bne, h1]
        have HP : Hid ((!(x.tx == tx)) = false) := Lib.hid (by rw [h1]; rfl)
        go_quiet (fail)
        replace HS := Lib.hid (HS.out.drewN nq)
        clear c0
        go_wp2_with fail
        go_roundw
        case rel => exact ⟨i + 1, acc, lr, by omega, by go_num, Lib.hid (by rw [HA.out, HST.out, HP.out]; simp), Lib.hid (by rw [← HK.out]; exact HR.out), HS⟩
        case measure => simp [intOf]; omega
      | false =>
        have h2 : (x.tx != tx) = true := by simp [bne, h1]
        have HP : Hid ((!(x.tx == tx)) = true) := Lib.hid (by rw [h1]; rfl)
        go_quiet (fail)
        replace HS := Lib.hid (HS.out.drewN nq)
        clear c0
        go_wp2_with (first | (refine sx_loadsC (by rfl) 29 _ rfl gq (off + i * 4) rfl 4 sh29 (x.lst) rfl (HC.out _ HS.out.isExt) ?_) | (refine sx_build HS (by rfl) 23 29 1 [(0, .tmp 40)] rfl [(0, .agg x.arr)] rfl x.lst (fun w => build_grant x w) ?_; clear HS; intro w bn HS) | (at_builtin; refine sx_appendO (front := [(bn, 29, x.lst)]) (lr := lr) (ll := [(b7, 27, [.int .i64 0, .int .i64 0])]) HS (by rfl) (.tmp 36) (.tmp 41) 23 rfl 29 ie _ 4 _ Tryz.underlying23 HIE.out HIZ.out HIS.out rfl rfl _ k (gL acc) rfl HR.out _ rfl 1 x.lst (SrcAt.box (HS.out.box (i := 0) rfl) rfl rfl) (by unfold maxLen; omega) (Nat.le_trans (Nat.mul_le_mul (show k + 1 ≤ 300001 by omega) HIB.out) (by decide)) ?_; clear HS; intro vv w lq HS HR2))
        have HR9 : Hid (OwnRow 29 4 lq vv (acc ++ [x]).length (gL (acc ++ [x]))) := Lib.hid (by rw [gL_append acc, gL_one, List.length_append, ← HK.out]; exact HR2.out)
        replace HS : Hid (St none default w0 _ (lq ++ [(b7, 27, [.int .i64 0, .int .i64 0])])) := Lib.hid (HS.out.drop 1)
        go_roundw
        case rel => exact ⟨i + 1, acc ++ [x], lq, by omega, by go_num, Lib.hid (by rw [HA.out, HST.out, HP.out]; simp), HR9, HS⟩
        case measure => simp [intOf]; omega
    · skip
      have him : i = m := by omega
      subst him
      have HF : Hid ((l.filter fun x => !(x.tx == tx)) = acc) := Lib.hid (by rw [HA.out, List.drop_eq_nil_of_le (by rw [← HM.out]; exact Nat.le_refl _)]; simp)
      go_wp2_with fail
      go_ret
      exact ⟨_, lr, rfl, HS.out.sub (List.sublist_append_left _ _), by rw [HF.out, ← HK.out]; exact HR.out⟩
end Go.Proofs.YtnfkplohpjfocaaGreat
