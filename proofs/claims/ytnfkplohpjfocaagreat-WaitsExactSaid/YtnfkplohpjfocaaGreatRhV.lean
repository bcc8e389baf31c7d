/-
  The contract of the reference's closed.
-/
import Derived.Test.YtnfkplohpjfocaaGreatRhH
import Derived.Test.YtnfkplohpjfocaaGreatReqF
import Derived.Test.YtnfkplohpjfocaaGreatRhF
set_option linter.unusedVariables false
set_option linter.unusedSimpArgs false
namespace Go.Proofs.YtnfkplohpjfocaaGreat
open Go.RowKit
theorem tryF_step {f : List Int → List Int} {way ns : List Int} {j : Nat} {x : Int} (hx : ns[j]? = some x) : Xc.tryF f way (ns.drop j) = if way.contains x then Xc.tryF f way (ns.drop (j + 1)) else if (f (way ++ [x])).isEmpty then Xc.tryF f way (ns.drop (j + 1)) else f (way ++ [x]) := by
  obtain ⟨hj, rfl⟩ := List.getElem?_eq_some_iff.1 hx
  rw [← List.getElem_cons_drop (h := hj)]
  conv => lhs; unfold Xc.tryF
theorem tryF_end {f : List Int → List Int} {way ns : List Int} {j : Nat} (h : ns.length ≤ j) : Xc.tryF f way (ns.drop j) = [] := by
  rw [List.drop_eq_nil_of_le h]
  rfl
theorem has_step {way : List Int} {i : Nat} {y x : Int} (hy : way[i]? = some y) : (way.take (i + 1)).contains x = ((way.take i).contains x || (x == y)) := by
  rw [take_nx hy, Bool.eq_iff_iff]
  simp [List.contains_iff_mem]
/-- What the search gives back. -/
def IsPost (ns : List Int) (w0 : World) (e : Ending) (w' : World) : Prop := ∃ v', e = .returned v' ∧ Ext w0 w' ∧ IsAt w' v' ns
theorem IsAt.src {w : World} {ad : Addr} {n cap : Nat} {ns : List Int} (h : IsAt w (.slice (some ad) n cap) ns) : SrcAt w 1 (.slice (some ad) n cap) n (ns.map iV) := by
  obtain ⟨ao, c2, e, h1, h2, hat⟩ := h.get
  cases e
  refine ⟨by simp, by rw [List.all_eq_true]; intro u hu; obtain ⟨x, _, rfl⟩ := List.mem_map.1 hu; rfl, .inl ⟨ad, cap, rfl, fun j u hj => ?_⟩⟩
  rw [List.getElem?_map, Option.map_eq_some_iff] at hj
  obtain ⟨x, hx, rfl⟩ := hj
  have hlt := (List.getElem?_eq_some_iff.1 hx).1
  obtain ⟨g, off, e, hc⟩ := hat (by omega)
  cases e
  rw [addr_add]
  exact hc j x hx w (Ext.refl _)
section
variable {w0 w : World} {e : Nat × TypeId × List Value} {l t : List (Nat × TypeId × List Value)}
theorem St1A (h : Hid (St none default w0 w (l ++ (e :: t)))) : Hid (St none default w0 w (e :: (l ++ t))) := Lib.hid (h.out.perm (List.perm_middle.symm))
theorem St1B (h : Hid (St none default w0 w (e :: t))) : Hid (St none default w0 w (t ++ [e])) := Lib.hid (h.out.perm (List.perm_append_singleton e t))
end
set_option maxHeartbeats 8000000 in
set_option maxRecDepth 100000 in
theorem rf_closed (hs ws : List G) (vh vw : Value) (hb1 : hs.length ≤ 40000) (hb2 : ws.length ≤ 40000) (tx : Int) : ∀ (k : Nat) (w0 : World) (vp : Value) (way : List Int), GsAt w0 vh hs → GsAt w0 vw ws → IsAt w0 vp way → way[0]? = some tx → way.length + k ≤ 100000 →
    Calls Tryz.prog 32 #[.agg #[vh, vw], vp, .int .i64 ((way.length + k : Nat) : Int)] w0 (IsPost (Xc.closF (forF hs ws) tx k way) w0) := by
  intro k
  induction k with
  | zero =>
    intro w0 vp way h1 h2 h3 h0 hlen
    have HGh := Lib.hid h1
    clear h1
    have HGw := Lib.hid h2
    clear h2
    obtain ⟨aop, cpp, rfl, hp1, hp2, hatp⟩ := h3.get
    have HW := Lib.hid h3
    obtain ⟨np, hnp⟩ : ∃ n, n = way.length := ⟨_, rfl⟩
    rw [← hnp] at hp1 hatp HW hlen ⊢
    have hpos : 0 < np := by rw [hnp]; exact (List.getElem?_eq_some_iff.1 h0).1
    obtain ⟨gp, op, rfl, hcp⟩ := hatp hpos
    have HNP := Lib.hid hnp
    have HCP := Lib.hid hcp
    have H0 := Lib.hid h0
    clear hatp hcp h0 h3 hnp
    obtain ⟨lx, hlx⟩ : ∃ x, way[np - 1]? = some x := ⟨_, List.getElem?_eq_getElem (by rw [← HNP.out]; omega)⟩
    have HLX := Lib.hid hlx
    have HLI : Hid (lastI way = lx) := Lib.hid (lastI_eq (by rw [← HNP.out]; exact hlx))
    clear hlx
    obtain ⟨aoh, nh, cph, hvh⟩ : ∃ a n c, vh = .slice a n c := by obtain ⟨a, c, e, _⟩ := HGh.out.get; exact ⟨a, _, c, e⟩
    obtain ⟨aow, nw, cpw, hvw⟩ : ∃ a n c, vw = .slice a n c := by obtain ⟨a, c, e, _⟩ := HGw.out.get; exact ⟨a, _, c, e⟩
    have HCL : Hid (Xc.closF (forF hs ws) tx 0 way = if (forF hs ws (lastI way)).contains tx then way else []) := Lib.hid rfl
    obtain ⟨m, hm⟩ : ∃ m, m = np + 0 := ⟨_, rfl⟩
    rw [← hm]
    have HM := Lib.hid hm
    clear hm
    have HS : Hid (St none default w0 w0 []) := St.start w0
    have HVH := Lib.hid hvh
    have HVW := Lib.hid hvw
    clear hvh hvw
    go_enter Tryz.func32, Tryz.ntmps32
    go_upto_region 1 with (first | (refine sx_box HS rfl 25 (.tmp 0) rfl [vh, vw] rfl ?_; clear HS; intro w b3 HS))
    replace HS : Hid (St none default w0 w [(b3, 25, [vh, vw])]) := HS
    refine hg_begin [(b3, 25, [vh, vw])] HS (by kernel_rfl) ?_
    clear HS; intro w HS
    refine hg_loads 0 (some 16) rfl rfl (by kernel_rfl) (by kernel_rfl) (by kernel_rfl) (fun _ _ _ _ h => h) HS (List.Sublist.refl _) rfl 25 _ rfl 0 _ _ _ rfl 0 rfl 2 sh25 [vh, vw] rfl ⟨rfl, rfl, trivial⟩ ?_
    try simp only [Act.put, List.setIfInBounds_toArray, List.set_cons_zero, List.set_cons_succ]
    refine hg_reg 1 (some 17) rfl rfl (by kernel_rfl) (by kernel_rfl) (by kernel_rfl) (fun _ _ _ _ h => h) HS (List.Sublist.refl _) (.slice (some ⟨gp, op, none⟩) np cpp) rfl (fun _ => by rfl) ?_
    try simp only [Act.put, List.setIfInBounds_toArray, List.set_cons_zero, List.set_cons_succ]
    refine hg_reg 2 (some 18) rfl rfl (by kernel_rfl) (by kernel_rfl) (by kernel_rfl) (fun _ _ _ _ h => h) HS (List.Sublist.refl _) (.slice (some ⟨gp, op, none⟩) np cpp) rfl (fun _ => by rfl) ?_
    try simp only [Act.put, List.setIfInBounds_toArray, List.set_cons_zero, List.set_cons_succ]
    refine hg_reg 3 (some 19) rfl rfl (by kernel_rfl) (by kernel_rfl) (by kernel_rfl) (fun _ _ _ _ h => h) HS (List.Sublist.refl _) (.int .i64 (np : Int)) rfl (fun _ => by go_simp) ?_
    try simp only [Act.put, List.setIfInBounds_toArray, List.set_cons_zero, List.set_cons_succ]
    refine hg_reg 4 (some 20) rfl rfl (by kernel_rfl) (by kernel_rfl) (by kernel_rfl) (fun _ _ _ _ h => h) HS (List.Sublist.refl _) (.int .i64 ((np : Int) - 1)) rfl (fun _ => by go_simp <;> first | assumption | omega | exact IntWalk.i64_in _ (by omega)) ?_
    try simp only [Act.put, List.setIfInBounds_toArray, List.set_cons_zero, List.set_cons_succ]
    refine hg_reg 5 (some 21) rfl rfl (by kernel_rfl) (by kernel_rfl) (by kernel_rfl) (fun _ _ _ _ h => h) HS (List.Sublist.refl _) (.pointer (some ⟨gp, op + (np - 1), none⟩)) rfl (fun _ => by go_simp <;> first | assumption | omega | (congr 2; omega)) ?_
    try simp only [Act.put, List.setIfInBounds_toArray, List.set_cons_zero, List.set_cons_succ]
    refine hg_load1 6 (some 22) rfl rfl (by kernel_rfl) (by kernel_rfl) (by kernel_rfl) (fun _ _ _ _ h => h) HS (List.Sublist.refl _) rfl 3 _ rfl gp (op + (np - 1)) rfl _ sh3 (.int .i64 lx) (fun w2 h2 => HCP.out _ _ HLX.out w2 h2.isExt) ?_
    try simp only [Act.put, List.setIfInBounds_toArray, List.set_cons_zero, List.set_cons_succ]
    refine hk_x1 7 (by kernel_rfl) ?_
    refine hg_callR 7 (some 23) rfl rfl rfl HS (List.Sublist.refl _) 11 _ _ rfl Tryz.func11 (by kernel_rfl) rfl [.agg #[vh, vw], .int .i64 lx] (fun v l => OwnRow 3 1 l v (forF hs ws lx).length ((forF hs ws lx).map iV)) ((rf_forF w _ _ hs ws (HGh.out.ext HS.out.isExt) (HGw.out.ext HS.out.isExt) hb1 hb2 lx).mono (fun e w1 h => by obtain ⟨v, rfl, l, h1, h2⟩ := h; exact ⟨v, l, rfl, h2, HS.out.call h1⟩)) rfl ?_
    clear HS; intro v7 w l7 hr7 HS
    have HR7 := Lib.hid hr7
    clear hr7
    try simp only [Act.put, List.setIfInBounds_toArray, List.set_cons_zero, List.set_cons_succ]
    refine hg_reg 8 (some 7) rfl rfl (by kernel_rfl) (by kernel_rfl) (by kernel_rfl) (fun _ _ _ _ h => h) HS (List.sublist_append_right l7 _) (v7) rfl (fun _ => by rfl) ?_
    try simp only [Act.put, List.setIfInBounds_toArray, List.set_cons_zero, List.set_cons_succ]
    refine hk_done (by kernel_rfl) ?_
    have HX7 : Hid (IsAt w v7 (forF hs ws lx)) := Lib.hid (IsAt.own HS.out (fun e he => List.mem_append_left _ he) HR7.out)
    have HE01 := Lib.hid HS.out.isExt
    have HB3 : Hid (PBox w b3 25 [vh, vw]) := Lib.hid ((Bx_iff.1 HS.out.own).1 (b3, 25, [vh, vw]) (by simp)).2
    replace HGh := Lib.hid (HGh.out.ext HE01.out)
    replace HGw := Lib.hid (HGw.out.ext HE01.out)
    replace HW := Lib.hid (HW.out.ext HE01.out)
    replace HCP := Lib.hid (fun (i : Nat) (x : Int) (hx : way[i]? = some x) (w9 : World) (h9 : Ext w w9) => HCP.out i x hx w9 (HE01.out.trans h9))
    clear HS HR7
    obtain ⟨w1, hw1⟩ : ∃ w1 : World, w1 = w := ⟨_, rfl⟩
    obtain ⟨ns, hns⟩ : ∃ ns, ns = forF hs ws lx := ⟨_, rfl⟩
    rw [← hns] at HX7
    have HNS : Hid (forF hs ws (lastI way) = ns) := Lib.hid (by rw [HLI.out, hns])
    clear hns
    obtain ⟨ao7, cp7, rfl, hq1, hq2, hat7⟩ := HX7.out.get
    obtain ⟨nn, hnn⟩ : ∃ n, n = ns.length := ⟨_, rfl⟩
    rw [← hnn] at hq1 hat7 HX7 ⊢
    have HNN := Lib.hid hnn
    have HAT7 := Lib.hid hat7
    clear hnn hat7
    rw [← hw1] at HX7 HE01 HB3 HGh HGw HW HCP HAT7
    have HS : Hid (St none default w1 w []) := Lib.hid (by rw [hw1]; exact St.start w)
    clear hw1
    have hm2 : np = m := HM.out.symm
    subst hm2
    go_wp2_with fail
    go_loopw [30] (fun s30 wr => ∃ j : Nat, j ≤ nn ∧ s30 = .int .i64 j ∧ Hid (∀ (i : Nat) (y : Int), i < j → ns[i]? = some y → (y == tx) = false) ∧ Hid (St none default w1 wr [])) (fun s30 _ => nn - (intOf s30).toNat)
    case atStart => exact ⟨0, Nat.zero_le _, rfl, (fun i y hi => absurd hi (Nat.not_lt_zero _)), HS⟩
    case round =>
      clear HS
      obtain ⟨j, hj, rfl, HA, HS⟩ := hrel
      by_cases hlt : j < nn
      · skip
        obtain ⟨y, hy⟩ := list_get_of_lt ns j nn HNN.out.symm hlt
        obtain ⟨gn, on, rfl, hcn⟩ := HAT7.out (by omega)
        have HY := Lib.hid hy
        have HC := Lib.hid (hcn j y hy)
        clear hy hcn
        cases hyx : (y == tx) with
        | true =>
          have HF : Hid (Xc.closF (forF hs ws) tx 0 way = way) := Lib.hid (by
            have e : y = tx := by simpa using hyx
            rw [HCL.out, HNS.out, if_pos]
            rw [List.contains_iff_mem, ← e]
            exact List.mem_of_getElem? HY.out)
          go_wp2_with (first | (refine sx_load1 (by rfl) 3 _ rfl gn (on + j) rfl _ sh3 (.int .i64 y) (HC.out _ HS.out.isExt) ?_) | (refine sx_load1 (by rfl) 3 _ rfl gp (op) rfl _ sh3 (.int .i64 tx) (HCP.out 0 tx H0.out _ HS.out.isExt) ?_))
          go_ret
          exact ⟨_, rfl, HE01.out.trans HS.out.isExt, by rw [HF.out]; exact HW.out.ext HS.out.isExt⟩
        | false =>
          have HA2 : Hid (∀ (i : Nat) (z : Int), i < j + 1 → ns[i]? = some z → (z == tx) = false) := Lib.hid (fun i z hi hz => by
            rcases Nat.lt_or_ge i j with h | h
            · exact HA.out i z h hz
            · obtain rfl : i = j := by omega
              rw [HY.out] at hz
              cases hz
              exact hyx)
          go_wp2_with (first | (refine sx_load1 (by rfl) 3 _ rfl gn (on + j) rfl _ sh3 (.int .i64 y) (HC.out _ HS.out.isExt) ?_) | (refine sx_load1 (by rfl) 3 _ rfl gp (op) rfl _ sh3 (.int .i64 tx) (HCP.out 0 tx H0.out _ HS.out.isExt) ?_))
          go_roundw
          case rel => exact ⟨j + 1, by omega, by go_num, HA2, HS⟩
          case measure => simp [intOf]; omega
      · skip
        have hjn : j = nn := by omega
        subst hjn
        have HF : Hid (Xc.closF (forF hs ws) tx 0 way = []) := Lib.hid (by
          rw [HCL.out, HNS.out, if_neg]
          rw [List.contains_iff_mem]
          intro h
          obtain ⟨i, hi, e⟩ := List.getElem_of_mem h
          have := HA.out i tx (by rw [HNN.out]; exact hi) (by rw [List.getElem?_eq_getElem hi, e])
          simp at this)
        go_wp2_with fail
        go_ret
        exact ⟨_, rfl, HE01.out.trans HS.out.isExt, by rw [HF.out]; exact IsAt.nil _⟩
    | succ k ih =>
      have IH := Lib.hid ih
      clear ih
      intro w0 vp way h1 h2 h3 h0 hlen
      have HGh := Lib.hid h1
      clear h1
      have HGw := Lib.hid h2
      clear h2
      obtain ⟨aop, cpp, rfl, hp1, hp2, hatp⟩ := h3.get
      have HW := Lib.hid h3
      obtain ⟨np, hnp⟩ : ∃ n, n = way.length := ⟨_, rfl⟩
      rw [← hnp] at hp1 hatp HW hlen ⊢
      have hpos : 0 < np := by rw [hnp]; exact (List.getElem?_eq_some_iff.1 h0).1
      obtain ⟨gp, op, rfl, hcp⟩ := hatp hpos
      have HNP := Lib.hid hnp
      have HCP := Lib.hid hcp
      have H0 := Lib.hid h0
      clear hatp hcp h0 h3 hnp
      obtain ⟨lx, hlx⟩ : ∃ x, way[np - 1]? = some x := ⟨_, List.getElem?_eq_getElem (by rw [← HNP.out]; omega)⟩
      have HLX := Lib.hid hlx
      have HLI : Hid (lastI way = lx) := Lib.hid (lastI_eq (by rw [← HNP.out]; exact hlx))
      clear hlx
      obtain ⟨aoh, nh, cph, hvh⟩ : ∃ a n c, vh = .slice a n c := by obtain ⟨a, c, e, _⟩ := HGh.out.get; exact ⟨a, _, c, e⟩
      obtain ⟨aow, nw, cpw, hvw⟩ : ∃ a n c, vw = .slice a n c := by obtain ⟨a, c, e, _⟩ := HGw.out.get; exact ⟨a, _, c, e⟩
      have HCL : Hid (Xc.closF (forF hs ws) tx (k + 1) way = Xc.tryF (Xc.closF (forF hs ws) tx k) way (forF hs ws (lastI way))) := Lib.hid rfl
      obtain ⟨ie, hie, hiz, his, hib⟩ := info_int
      have HIE := Lib.hid hie
      have HIZ := Lib.hid hiz
      have HIS := Lib.hid his
      have HIB := Lib.hid hib
      clear hie hiz his hib
      obtain ⟨m, hm⟩ : ∃ m, m = np + (k + 1) := ⟨_, rfl⟩
      rw [← hm]
      have HM := Lib.hid hm
      clear hm
      have HS : Hid (St none default w0 w0 []) := St.start w0
      have HVH := Lib.hid hvh
      have HVW := Lib.hid hvw
      clear hvh hvw
      go_enter Tryz.func32, Tryz.ntmps32
      go_upto_region 1 with (first | (refine sx_box HS rfl 25 (.tmp 0) rfl [vh, vw] rfl ?_; clear HS; intro w b3 HS))
      replace HS : Hid (St none default w0 w [(b3, 25, [vh, vw])]) := HS
      refine hg_begin [(b3, 25, [vh, vw])] HS (by kernel_rfl) ?_
      clear HS; intro w HS
      refine hg_loads 0 (some 16) rfl rfl (by kernel_rfl) (by kernel_rfl) (by kernel_rfl) (fun _ _ _ _ h => h) HS (List.Sublist.refl _) rfl 25 _ rfl 0 _ _ _ rfl 0 rfl 2 sh25 [vh, vw] rfl ⟨rfl, rfl, trivial⟩ ?_
      try simp only [Act.put, List.setIfInBounds_toArray, List.set_cons_zero, List.set_cons_succ]
      refine hg_reg 1 (some 17) rfl rfl (by kernel_rfl) (by kernel_rfl) (by kernel_rfl) (fun _ _ _ _ h => h) HS (List.Sublist.refl _) (.slice (some ⟨gp, op, none⟩) np cpp) rfl (fun _ => by rfl) ?_
      try simp only [Act.put, List.setIfInBounds_toArray, List.set_cons_zero, List.set_cons_succ]
      refine hg_reg 2 (some 18) rfl rfl (by kernel_rfl) (by kernel_rfl) (by kernel_rfl) (fun _ _ _ _ h => h) HS (List.Sublist.refl _) (.slice (some ⟨gp, op, none⟩) np cpp) rfl (fun _ => by rfl) ?_
      try simp only [Act.put, List.setIfInBounds_toArray, List.set_cons_zero, List.set_cons_succ]
      refine hg_reg 3 (some 19) rfl rfl (by kernel_rfl) (by kernel_rfl) (by kernel_rfl) (fun _ _ _ _ h => h) HS (List.Sublist.refl _) (.int .i64 (np : Int)) rfl (fun _ => by go_simp) ?_
      try simp only [Act.put, List.setIfInBounds_toArray, List.set_cons_zero, List.set_cons_succ]
      refine hg_reg 4 (some 20) rfl rfl (by kernel_rfl) (by kernel_rfl) (by kernel_rfl) (fun _ _ _ _ h => h) HS (List.Sublist.refl _) (.int .i64 ((np : Int) - 1)) rfl (fun _ => by go_simp <;> first | assumption | omega | exact IntWalk.i64_in _ (by omega)) ?_
      try simp only [Act.put, List.setIfInBounds_toArray, List.set_cons_zero, List.set_cons_succ]
      refine hg_reg 5 (some 21) rfl rfl (by kernel_rfl) (by kernel_rfl) (by kernel_rfl) (fun _ _ _ _ h => h) HS (List.Sublist.refl _) (.pointer (some ⟨gp, op + (np - 1), none⟩)) rfl (fun _ => by go_simp <;> first | assumption | omega | (congr 2; omega)) ?_
      try simp only [Act.put, List.setIfInBounds_toArray, List.set_cons_zero, List.set_cons_succ]
      refine hg_load1 6 (some 22) rfl rfl (by kernel_rfl) (by kernel_rfl) (by kernel_rfl) (fun _ _ _ _ h => h) HS (List.Sublist.refl _) rfl 3 _ rfl gp (op + (np - 1)) rfl _ sh3 (.int .i64 lx) (fun w2 h2 => HCP.out _ _ HLX.out w2 h2.isExt) ?_
      try simp only [Act.put, List.setIfInBounds_toArray, List.set_cons_zero, List.set_cons_succ]
      refine hk_x1 7 (by kernel_rfl) ?_
      refine hg_callR 7 (some 23) rfl rfl rfl HS (List.Sublist.refl _) 11 _ _ rfl Tryz.func11 (by kernel_rfl) rfl [.agg #[vh, vw], .int .i64 lx] (fun v l => OwnRow 3 1 l v (forF hs ws lx).length ((forF hs ws lx).map iV)) ((rf_forF w _ _ hs ws (HGh.out.ext HS.out.isExt) (HGw.out.ext HS.out.isExt) hb1 hb2 lx).mono (fun e w1 h => by obtain ⟨v, rfl, l, h1, h2⟩ := h; exact ⟨v, l, rfl, h2, HS.out.call h1⟩)) rfl ?_
      clear HS; intro v7 w l7 hr7 HS
      have HR7 := Lib.hid hr7
      clear hr7
      try simp only [Act.put, List.setIfInBounds_toArray, List.set_cons_zero, List.set_cons_succ]
      refine hg_reg 8 (some 7) rfl rfl (by kernel_rfl) (by kernel_rfl) (by kernel_rfl) (fun _ _ _ _ h => h) HS (List.sublist_append_right l7 _) (v7) rfl (fun _ => by rfl) ?_
      try simp only [Act.put, List.setIfInBounds_toArray, List.set_cons_zero, List.set_cons_succ]
      refine hk_done (by kernel_rfl) ?_
      have HX7 : Hid (IsAt w v7 (forF hs ws lx)) := Lib.hid (IsAt.own HS.out (fun e he => List.mem_append_left _ he) HR7.out)
      have HE01 := Lib.hid HS.out.isExt
      have HB3 : Hid (PBox w b3 25 [vh, vw]) := Lib.hid ((Bx_iff.1 HS.out.own).1 (b3, 25, [vh, vw]) (by simp)).2
      replace HGh := Lib.hid (HGh.out.ext HE01.out)
      replace HGw := Lib.hid (HGw.out.ext HE01.out)
      replace HW := Lib.hid (HW.out.ext HE01.out)
      replace HCP := Lib.hid (fun (i : Nat) (x : Int) (hx : way[i]? = some x) (w9 : World) (h9 : Ext w w9) => HCP.out i x hx w9 (HE01.out.trans h9))
      clear HS HR7
      obtain ⟨w1, hw1⟩ : ∃ w1 : World, w1 = w := ⟨_, rfl⟩
      obtain ⟨ns, hns⟩ : ∃ ns, ns = forF hs ws lx := ⟨_, rfl⟩
      rw [← hns] at HX7
      have HNS : Hid (forF hs ws (lastI way) = ns) := Lib.hid (by rw [HLI.out, hns])
      clear hns
      obtain ⟨ao7, cp7, rfl, hq1, hq2, hat7⟩ := HX7.out.get
      obtain ⟨nn, hnn⟩ : ∃ n, n = ns.length := ⟨_, rfl⟩
      rw [← hnn] at hq1 hat7 HX7 ⊢
      have HNN := Lib.hid hnn
      have HAT7 := Lib.hid hat7
      clear hnn hat7
      rw [← hw1] at HX7 HE01 HB3 HGh HGw HW HCP HAT7
      have HS : Hid (St none default w1 w []) := Lib.hid (by rw [hw1]; exact St.start w)
      clear hw1
      have hmn : ((np : Int) == (m : Int)) = false := by have := HM.out; rw [beq_eq_false_iff_ne]; omega
      have hm3 : m ≤ 100000 := by have := HM.out; omega
      go_wp2_with fail
      clear hmn
      obtain ⟨f, hf⟩ : ∃ f, f = Xc.closF (forF hs ws) tx k := ⟨_, rfl⟩
      rw [← hf] at HCL
      have HFK := Lib.hid hf
      clear hf
      go_loopw [43] (fun s43 wr => ∃ j : Nat, j ≤ nn ∧ s43 = .int .i64 j ∧ Hid (Xc.closF (forF hs ws) tx (k + 1) way = Xc.tryF f way (ns.drop j)) ∧ Hid (St none default w1 wr [])) (fun s43 _ => nn - (intOf s43).toNat)
      case atStart => exact ⟨0, Nat.zero_le _, rfl, Lib.hid (by rw [HCL.out, HNS.out]; rfl), HS⟩
      case round =>
        clear HS
        obtain ⟨j, hj, rfl, HA, HS⟩ := hrel
        by_cases hlt : j < nn
        · skip
          obtain ⟨y, hy⟩ := list_get_of_lt ns j nn HNN.out.symm hlt
          obtain ⟨gn, on, rfl, hcn⟩ := HAT7.out (by omega)
          have HY := Lib.hid hy
          have HC := Lib.hid (hcn j y hy)
          have HST := Lib.hid (tryF_step (f := f) (way := way) hy)
          clear hy hcn
          go_wp2_with (first | (refine sx_load1 (by rfl) 3 _ rfl gn (on + j) rfl _ sh3 (.int .i64 y) (HC.out _ HS.out.isExt) ?_))
          go_loopw [12, 49] (fun s12 s49 wx => ∃ i : Nat, i ≤ np ∧ s12 = .bool ((way.take i).contains y) ∧ s49 = .int .i64 i ∧ Hid (St none default w1 wx [])) (fun _ s49 _ => np - (intOf s49).toNat)
          case atStart => exact ⟨0, Nat.zero_le _, by simp, rfl, HS⟩
          case round =>
            clear HS
            obtain ⟨i, hi, rfl, rfl, HS⟩ := hrel
            by_cases hlt2 : i < np
            · skip
              obtain ⟨z, hz⟩ := list_get_of_lt way i np HNP.out.symm hlt2
              have HCZ := Lib.hid (HCP.out i z hz)
              have hst := has_step (x := y) hz
              clear hz
              obtain ⟨bs, hbs⟩ : ∃ b, b = (way.take i).contains y := ⟨_, rfl⟩
              rw [← hbs] at hst ⊢
              have HHB := Lib.hid hst
              clear hst hbs
              have hbb : bs = true ∨ bs = false := by cases bs <;> simp
              rcases hbb with hbs | hbs
              · skip
                have HBS := Lib.hid hbs
                clear hbs
                go_upto_region 17 with (first | (refine sx_load1 (by rfl) 3 _ rfl gp (op + i) rfl _ sh3 (.int .i64 z) (HCZ.out _ HS.out.isExt) ?_))
                go_step
                refine sx_run (by rfl) (.bool bs) (by rfl) ?_
                try simp only [Act.put, List.setIfInBounds_toArray, List.set_cons_zero, List.set_cons_succ]
                refine sx_run (by rfl) (.bool bs) (by rfl) ?_
                try simp only [Act.put, List.setIfInBounds_toArray, List.set_cons_zero, List.set_cons_succ]
                refine wpList_skip (by have hbs := HBS.out; subst hbs; rfl) ?_
                try simp only [Act.put, List.setIfInBounds_toArray, List.set_cons_zero, List.set_cons_succ]
                refine wpList_skip (by have hbs := HBS.out; subst hbs; rfl) ?_
                try simp only [Act.put, List.setIfInBounds_toArray, List.set_cons_zero, List.set_cons_succ]
                refine wpList_skip (by have hbs := HBS.out; subst hbs; rfl) ?_
                try simp only [Act.put, List.setIfInBounds_toArray, List.set_cons_zero, List.set_cons_succ]
                refine sx_run (by rfl) (.bool bs) (by have hbs := HBS.out; subst hbs; rfl) ?_
                try simp only [Act.put, List.setIfInBounds_toArray, List.set_cons_zero, List.set_cons_succ]
                refine sx_run (by rfl) (.bool bs) (by rfl) ?_
                try simp only [Act.put, List.setIfInBounds_toArray, List.set_cons_zero, List.set_cons_succ]
                go_wp2_with fail
                go_roundw
                case rel => exact ⟨i + 1, by omega, by rw [HHB.out, HBS.out]; rfl, by go_num, HS⟩
                case measure => simp [intOf]; omega
              · skip
                subst hbs
                cases hyz : (y == z) with
                | true =>
                  go_wp2_with (first | (refine sx_load1 (by rfl) 3 _ rfl gp (op + i) rfl _ sh3 (.int .i64 z) (HCZ.out _ HS.out.isExt) ?_))
                  go_roundw
                  case rel => exact ⟨i + 1, by omega, by rw [HHB.out, hyz]; rfl, by go_num, HS⟩
                  case measure => simp [intOf]; omega
                | false =>
                  go_wp2_with (first | (refine sx_load1 (by rfl) 3 _ rfl gp (op + i) rfl _ sh3 (.int .i64 z) (HCZ.out _ HS.out.isExt) ?_))
                  go_roundw
                  case rel => exact ⟨i + 1, by omega, by rw [HHB.out, hyz]; rfl, by go_num, HS⟩
                  case measure => simp [intOf]; omega
            · skip
              have hin : i = np := by omega
              subst hin
              have e1 : way.take i = way := List.take_of_length_le (by rw [HNP.out]; exact Nat.le_refl _)
              rw [e1]
              clear e1
              cases hbw : way.contains y with
              | true =>
                have HA2 : Hid (Xc.closF (forF hs ws) tx (k + 1) way = Xc.tryF f way (ns.drop (j + 1))) := Lib.hid (by rw [HA.out, HST.out, if_pos hbw])
                clear hbw
                go_wp2_with fail
                go_roundw
                case rel => exact ⟨j + 1, by omega, by go_num, HA2, HS⟩
                case measure => simp [intOf]; omega
              | false =>
                have HA2 : Hid (Xc.closF (forF hs ws) tx (k + 1) way = if (f (way ++ [y])).isEmpty then Xc.tryF f way (ns.drop (j + 1)) else f (way ++ [y])) := Lib.hid (by rw [HA.out, HST.out, if_neg (by rw [hbw]; simp)])
                clear hbw
                go_wp2_with fail
                go_cut [15, 61, 62, 63, 64, 65, 66, 67, 68] (fun s15 _ _ _ _ _ _ _ _  wc => ∃ vr : Value, s15 = vr ∧ Hid (IsAt wc vr (f (way ++ [y]))) ∧ Hid (St none default w1 wc []))
                case first =>
                  refine hg_begin [] HS (by kernel_rfl) ?_
                  clear HS; intro w HS
                  refine hg_loadsC 0 (some 61) rfl rfl (by kernel_rfl) (by kernel_rfl) (by kernel_rfl) (fun _ _ _ _ h => h) HS (List.nil_sublist _) rfl 25 _ rfl b3 0 rfl 2 sh25 [vh, vw] rfl (fun w2 h2 j2 u2 hj2 => by rw [Nat.zero_add]; exact (h2.isExt.pbox HB3.out).cell hj2) ?_
                  try simp only [Act.put, List.setIfInBounds_toArray, List.set_cons_zero, List.set_cons_succ]
                  refine hg_reg 1 (some 62) rfl rfl (by kernel_rfl) (by kernel_rfl) (by kernel_rfl) (fun _ _ _ _ h => h) HS (List.nil_sublist _) (.slice (some ⟨gp, op, none⟩) i cpp) rfl (fun _ => by rfl) ?_
                  try simp only [Act.put, List.setIfInBounds_toArray, List.set_cons_zero, List.set_cons_succ]
                  refine hg_reg 3 (some 64) rfl rfl (by kernel_rfl) (by kernel_rfl) (by kernel_rfl) (fun _ _ _ _ h => h) HS (List.nil_sublist _) (.int .i64 y) rfl (fun _ => by rfl) ?_
                  try simp only [Act.put, List.setIfInBounds_toArray, List.set_cons_zero, List.set_cons_succ]
                  refine hg_reg 6 (some 67) rfl rfl (by kernel_rfl) (by kernel_rfl) (by kernel_rfl) (fun _ _ _ _ h => h) HS (List.nil_sublist _) (.int .i64 (m : Int)) rfl (fun _ => by rfl) ?_
                  try simp only [Act.put, List.setIfInBounds_toArray, List.set_cons_zero, List.set_cons_succ]
                  refine hk_x2 2 4 (by kernel_rfl) ?_ ?_
                  · skip
                    refine hg_appendS 2 (some 63) rfl rfl rfl (front := []) (lr := []) (ll := []) HS (fun _ => List.nil_sublist _) _ _ 38 rfl 3 ie _ 1 _ Tryz.underlying38 HIE.out HIZ.out HIS.out rfl rfl (by decide) _ 0 [] rfl RowEnt.nil _ rfl i (way.map iV) ((HW.out.ext HS.out.isExt).src) (by unfold maxLen; omega) (Nat.le_trans (Nat.mul_le_mul (show 0 + i ≤ 300001 by omega) HIB.out) (by decide)) ?_
                    clear HS; intro v5 w l5 HS HR5
                    replace HS : Hid (St none default w1 w (l5 ++ [])) := HS
                    try simp only [Act.put, List.setIfInBounds_toArray, List.set_cons_zero, List.set_cons_succ]
                    refine hk_x1 4 (by kernel_rfl) ?_
                    refine hg_build 4 (some 65) rfl rfl rfl HS (List.nil_sublist _) 38 3 1 [(0, .tmp 64)] rfl [(0, .int .i64 y)] rfl [.int .i64 y] (fun w => build_int y w) ?_
                    clear HS; intro w bn HS
                    replace HS := St1B HS
                    replace HS : Hid (St none default w1 w (l5 ++ [(bn, 3, [.int .i64 y])])) := Lib.hid (by have h := HS.out; simpa using h)
                    try simp only [Act.put, List.setIfInBounds_toArray, List.set_cons_zero, List.set_cons_succ]
                    refine hk_x1 5 (by kernel_rfl) ?_
                    refine hg_appendS 5 (some 66) rfl rfl rfl (front := []) (lr := l5) (ll := [(bn, 3, [.int .i64 y])]) HS (fun _ => List.nil_sublist _) _ _ 38 rfl 3 ie _ 1 _ Tryz.underlying38 HIE.out HIZ.out HIS.out rfl rfl (by decide) _ (0 + i) ([] ++ way.map iV) rfl HR5.out _ rfl 1 [Value.int .i64 y] (SrcAt.box (HS.out.box (i := l5.length) (show _ = some (bn, 3, [Value.int .i64 y]) by simp)) rfl rfl) (by unfold maxLen; omega) (Nat.le_trans (Nat.mul_le_mul (show 0 + i + 1 ≤ 300001 by omega) HIB.out) (by decide)) ?_
                    clear HS HR5; intro v6 w l6 HS HR6
                    replace HS : Hid (St none default w1 w (l6 ++ [(bn, 3, [.int .i64 y])])) := HS
                    have HR7 : Hid (OwnRow 3 1 l6 v6 (way ++ [y]).length ((way ++ [y]).map iV)) := Lib.hid (by have h := OwnRow.of HR6.out; rw [Nat.zero_add, List.nil_append] at h; rw [List.length_append, List.map_append, ← HNP.out]; exact h)
                    try simp only [Act.put, List.setIfInBounds_toArray, List.set_cons_zero, List.set_cons_succ]
                    refine hk_x1 7 (by kernel_rfl) ?_
                    refine hg_callT 7 (some 68) rfl rfl rfl 32 _ _ rfl Tryz.func32 (by kernel_rfl) rfl [.agg #[vh, vw], v6, .int .i64 (m : Int)] (fun v w2 => St none default w1 w2 [] ∧ IsAt w2 v (f (way ++ [y]))) (by
                      have e1 : m = (way ++ [y]).length + k := by rw [List.length_append, ← HNP.out]; have := HM.out; simp only [List.length_cons, List.length_nil]; omega
                      rw [e1, HFK.out]
                      refine (IH.out w v6 (way ++ [y]) (HGh.out.ext HS.out.isExt) (HGw.out.ext HS.out.isExt) (IsAt.own HS.out (fun e he => List.mem_append_left _ he) HR7.out) (by rw [List.getElem?_append_left (by rw [← HNP.out]; omega)]; exact H0.out) (by omega)).mono ?_
                      rintro e w2 ⟨v, rfl, hx, hv⟩
                      exact ⟨v, rfl, (HS.out.ext hx).sub (List.nil_sublist _), hv⟩) (fun v w2 h => h.1) rfl ?_
                    clear HS; rintro vr w ⟨hst, hvr⟩
                    have HS := Lib.hid hst
                    have HVR := Lib.hid hvr
                    clear hst hvr
                    try simp only [Act.put, List.setIfInBounds_toArray, List.set_cons_zero, List.set_cons_succ]
                    refine hg_reg 8 (some 15) rfl rfl (by kernel_rfl) (by kernel_rfl) (by kernel_rfl) (fun _ _ _ _ h => h) HS (List.nil_sublist _) (vr) rfl (fun _ => by rfl) ?_
                    try simp only [Act.put, List.setIfInBounds_toArray, List.set_cons_zero, List.set_cons_succ]
                    refine hk_done (by kernel_rfl) ?_
                    try go_wp2_with fail
                    go_meet
                    exact ⟨_, rfl, HVR, HS⟩
                  · skip
                    refine hg_build 4 (some 65) rfl rfl rfl HS (List.nil_sublist _) 38 3 1 [(0, .tmp 64)] rfl [(0, .int .i64 y)] rfl [.int .i64 y] (fun w => build_int y w) ?_
                    clear HS; intro w bn HS
                    try simp only [Act.put, List.setIfInBounds_toArray, List.set_cons_zero, List.set_cons_succ]
                    refine hk_x1 2 (by kernel_rfl) ?_
                    replace HS : Hid (St none default w1 w ([] ++ ([] ++ [(bn, 3, [.int .i64 y])]))) := HS
                    refine hg_appendS 2 (some 63) rfl rfl rfl (front := []) (lr := []) (ll := [(bn, 3, [.int .i64 y])]) HS (fun _ => List.nil_sublist _) _ _ 38 rfl 3 ie _ 1 _ Tryz.underlying38 HIE.out HIZ.out HIS.out rfl rfl (by decide) _ 0 [] rfl RowEnt.nil _ rfl i (way.map iV) ((HW.out.ext HS.out.isExt).src) (by unfold maxLen; omega) (Nat.le_trans (Nat.mul_le_mul (show 0 + i ≤ 300001 by omega) HIB.out) (by decide)) ?_
                    clear HS; intro v5 w l5 HS HR5
                    replace HS : Hid (St none default w1 w (l5 ++ [(bn, 3, [.int .i64 y])])) := HS
                    try simp only [Act.put, List.setIfInBounds_toArray, List.set_cons_zero, List.set_cons_succ]
                    refine hk_x1 5 (by kernel_rfl) ?_
                    refine hg_appendS 5 (some 66) rfl rfl rfl (front := []) (lr := l5) (ll := [(bn, 3, [.int .i64 y])]) HS (fun _ => List.nil_sublist _) _ _ 38 rfl 3 ie _ 1 _ Tryz.underlying38 HIE.out HIZ.out HIS.out rfl rfl (by decide) _ (0 + i) ([] ++ way.map iV) rfl HR5.out _ rfl 1 [Value.int .i64 y] (SrcAt.box (HS.out.box (i := l5.length) (show _ = some (bn, 3, [Value.int .i64 y]) by simp)) rfl rfl) (by unfold maxLen; omega) (Nat.le_trans (Nat.mul_le_mul (show 0 + i + 1 ≤ 300001 by omega) HIB.out) (by decide)) ?_
                    clear HS HR5; intro v6 w l6 HS HR6
                    replace HS : Hid (St none default w1 w (l6 ++ [(bn, 3, [.int .i64 y])])) := HS
                    have HR7 : Hid (OwnRow 3 1 l6 v6 (way ++ [y]).length ((way ++ [y]).map iV)) := Lib.hid (by have h := OwnRow.of HR6.out; rw [Nat.zero_add, List.nil_append] at h; rw [List.length_append, List.map_append, ← HNP.out]; exact h)
                    try simp only [Act.put, List.setIfInBounds_toArray, List.set_cons_zero, List.set_cons_succ]
                    refine hk_x1 7 (by kernel_rfl) ?_
                    refine hg_callT 7 (some 68) rfl rfl rfl 32 _ _ rfl Tryz.func32 (by kernel_rfl) rfl [.agg #[vh, vw], v6, .int .i64 (m : Int)] (fun v w2 => St none default w1 w2 [] ∧ IsAt w2 v (f (way ++ [y]))) (by
                      have e1 : m = (way ++ [y]).length + k := by rw [List.length_append, ← HNP.out]; have := HM.out; simp only [List.length_cons, List.length_nil]; omega
                      rw [e1, HFK.out]
                      refine (IH.out w v6 (way ++ [y]) (HGh.out.ext HS.out.isExt) (HGw.out.ext HS.out.isExt) (IsAt.own HS.out (fun e he => List.mem_append_left _ he) HR7.out) (by rw [List.getElem?_append_left (by rw [← HNP.out]; omega)]; exact H0.out) (by omega)).mono ?_
                      rintro e w2 ⟨v, rfl, hx, hv⟩
                      exact ⟨v, rfl, (HS.out.ext hx).sub (List.nil_sublist _), hv⟩) (fun v w2 h => h.1) rfl ?_
                    clear HS; rintro vr w ⟨hst, hvr⟩
                    have HS := Lib.hid hst
                    have HVR := Lib.hid hvr
                    clear hst hvr
                    try simp only [Act.put, List.setIfInBounds_toArray, List.set_cons_zero, List.set_cons_succ]
                    refine hg_reg 8 (some 15) rfl rfl (by kernel_rfl) (by kernel_rfl) (by kernel_rfl) (fun _ _ _ _ h => h) HS (List.nil_sublist _) (vr) rfl (fun _ => by rfl) ?_
                    try simp only [Act.put, List.setIfInBounds_toArray, List.set_cons_zero, List.set_cons_succ]
                    refine hk_done (by kernel_rfl) ?_
                    try go_wp2_with fail
                    go_meet
                    exact ⟨_, rfl, HVR, HS⟩
                case rest =>
                  clear HS
                  obtain ⟨vr, rfl, HVR, HS⟩ := hcut
                  obtain ⟨aor, cpr, rfl, hr1, hr2, -⟩ := HVR.out.get
                  obtain ⟨nr, hnr⟩ : ∃ n, n = (f (way ++ [y])).length := ⟨_, rfl⟩
                  rw [← hnr] at HVR hr1 ⊢
                  have HNR := Lib.hid hnr
                  clear hnr
                  by_cases hz : nr = 0
                  · skip
                    have HA3 : Hid (Xc.closF (forF hs ws) tx (k + 1) way = Xc.tryF f way (ns.drop (j + 1))) := Lib.hid (by rw [HA2.out, if_pos]; rw [List.isEmpty_iff]; exact List.eq_nil_of_length_eq_zero (by rw [← HNR.out]; exact hz))
                    subst hz
                    go_wp2_with fail
                    go_roundw
                    case rel => exact ⟨j + 1, by omega, by go_num, HA3, HS⟩
                    case measure => simp [intOf]; omega
                  · skip
                    have HA3 : Hid (Xc.closF (forF hs ws) tx (k + 1) way = f (way ++ [y])) := Lib.hid (by rw [HA2.out, if_neg]; rw [List.isEmpty_iff]; intro e; rw [e] at HNR; exact hz HNR.out)
                    have hz2 : 0 < nr := by omega
                    go_wp2_with fail
                    go_ret
                    exact ⟨_, rfl, HE01.out.trans HS.out.isExt, by rw [HA3.out]; exact HVR.out⟩
        · skip
          have hjn : j = nn := by omega
          subst hjn
          have HF : Hid (Xc.closF (forF hs ws) tx (k + 1) way = []) := Lib.hid (by rw [HA.out]; exact tryF_end (by rw [← HNN.out]; exact Nat.le_refl _))
          go_wp2_with fail
          go_ret
          exact ⟨_, rfl, HE01.out.trans HS.out.isExt, by rw [HF.out]; exact IsAt.nil _⟩
end Go.Proofs.YtnfkplohpjfocaaGreat

namespace Go.Proofs.YtnfkplohpjfocaaGreat
open Go.RowKit
theorem cycL_step {nx : Int → List Int} {tx : Int} {m j : Nat} (hj : j < m) : Xc.cycL nx tx ((List.range m).drop j) = if (Xc.closF nx tx j [tx]).isEmpty then Xc.cycL nx tx ((List.range m).drop (j + 1)) else Xc.closF nx tx j [tx] := by
  have h : j < (List.range m).length := by simpa using hj
  rw [← List.getElem_cons_drop (h := h), List.getElem_range]
  conv => lhs; unfold Xc.cycL
theorem cycL_end {nx : Int → List Int} {tx : Int} {m j : Nat} (hj : m ≤ j) : Xc.cycL nx tx ((List.range m).drop j) = [] := by
  rw [List.drop_eq_nil_of_le (by simpa using hj)]
  rfl
theorem waiters_le (hs ws : List G) : (waitersF hs ws).length ≤ ws.length := by
  unfold waitersF
  split
  · exact wAcc_len ws
  · simp
theorem IsAt.one {w : World} {b : Nat} {T : TypeId} {x : Int} (h : PBox w b T [.int .i64 x]) : IsAt w (.slice (some ⟨b, 0, none⟩) 1 1) [x] := by
  refine ⟨_, 1, rfl, Nat.le_refl _, by decide, fun _ => ⟨b, 0, rfl, fun i r hi j u hj => ?_⟩⟩
  match i, hi with
  | 0, hi =>
    simp at hi
    subst hi
    match j, hj with
    | 0, hj => exact h.cell hj
theorem req_len2 {hs ws u v : List G} {g : G} {b : Bool} (h : reqF hs ws g = some (u, v, b)) : u.length + v.length ≤ hs.length + ws.length + 1 := by
  unfold reqF at h
  split at h
  · split at h
    · split at h
      · cases h; omega
      · cases h
    · split at h
      · cases h; omega
      · split at h
        · cases h
        · cases h
          have := settle_len hs (ws.take (placeF hs ws g) ++ g :: ws.drop (placeF hs ws g))
          simp only [List.length_append, List.length_cons, List.length_take, List.length_drop] at this
          omega
  · cases h
set_option maxHeartbeats 8000000 in
set_option maxRecDepth 100000 in
theorem rf_cycle (w0 : World) (vh vw : Value) (hs ws : List G) (h1 : GsAt w0 vh hs) (h2 : GsAt w0 vw ws) (hb1 : hs.length ≤ 40000) (hb2 : ws.length ≤ 40000) (tx : Int) : Calls Tryz.prog 13 #[.agg #[vh, vw], .int .i64 tx] w0 (IsPost (cycR hs ws tx) w0) := by
  have HGh := Lib.hid h1
  have HBh := Lib.hid hb1
  obtain ⟨aoh, cph, rfl, hch1, hch2, hath⟩ := h1.get
  obtain ⟨nh, hnh⟩ : ∃ n, n = hs.length := ⟨_, rfl⟩
  rw [← hnh] at HGh hch1 hath hb1 ⊢
  have HNh := Lib.hid hnh
  have HATh := Lib.hid hath
  clear hnh hath h1
  have HGw := Lib.hid h2
  have HBw := Lib.hid hb2
  obtain ⟨aow, cpw, rfl, hcw1, hcw2, hatw⟩ := h2.get
  obtain ⟨nw, hnw⟩ : ∃ n, n = ws.length := ⟨_, rfl⟩
  rw [← hnw] at HGw hcw1 hatw hb2 ⊢
  have HNw := Lib.hid hnw
  have HATw := Lib.hid hatw
  clear hnw hatw h2
  have HS : Hid (St none default w0 w0 []) := St.start w0
  go_enter Tryz.func13, Tryz.ntmps13
  go_wp2_with (first | (refine sx_box HS rfl 25 (.tmp 0) rfl [.slice aoh nh cph, .slice aow nw cpw] rfl ?_; clear HS; intro w b2 HS))
  replace HS : Hid (St none default w0 w [(b2, 25, [.slice aoh nh cph, .slice aow nw cpw])]) := HS
  obtain ⟨m, hm⟩ : ∃ m, m = (waitersF hs ws).length := ⟨_, rfl⟩
  have hmw : m ≤ 40000 := by rw [hm]; have := waiters_le hs ws; have := HBw.out; omega
  have HF0 : Hid (cycR hs ws tx = Xc.cycL (forF hs ws) tx (List.range m)) := Lib.hid (by rw [hm]; rfl)
  have HM := Lib.hid hm
  clear hm
  go_loopw [5] (fun s5 wr => ∃ j : Nat, j ≤ m ∧ s5 = .int .i64 ((j : Int) + 1) ∧ Hid (cycR hs ws tx = Xc.cycL (forF hs ws) tx ((List.range m).drop j)) ∧ Hid (St none default w0 wr [(b2, 25, [.slice aoh nh cph, .slice aow nw cpw])])) (fun s5 _ => m + 1 - (intOf s5).toNat)
  case atStart => exact ⟨0, Nat.zero_le _, by go_num, HF0, HS⟩
  case round =>
    clear HS
    obtain ⟨j, hj, rfl, HA, HS⟩ := hrel
    go_wp2_with (first | (refine sx_loads HS (by rfl) 25 _ rfl 0 _ _ _ rfl 0 rfl 2 sh25 [.slice aoh nh cph, .slice aow nw cpw] rfl ⟨rfl, rfl, trivial⟩ ?_))
    refine (rf_waiters _ _ _ hs ws (HGh.out.ext HS.out.isExt) (HGw.out.ext HS.out.isExt) (by have := HBh.out; omega) (by have := HBw.out; omega)).mono ?_
    rintro e w9 ⟨v9, rfl, hnew⟩
    obtain ⟨hx9, he9⟩ := hnew.is
    replace HS := Lib.hid (HS.out.ext he9)
    obtain ⟨ao9, cp9, rfl, -, -, -⟩ := hx9.get
    rw [← HM.out]
    clear hnew hx9 he9
    by_cases hlt : j < m
    · skip
      go_wp2_with (first | (refine sx_loads HS (by rfl) 25 _ rfl 0 _ _ _ rfl 0 rfl 2 sh25 [.slice aoh nh cph, .slice aow nw cpw] rfl ⟨rfl, rfl, trivial⟩ ?_) | (refine sx_build HS (by rfl) 38 3 1 [(0, .tmp 15)] rfl [(0, .int .i64 tx)] rfl [.int .i64 tx] (fun w => build_int tx w) ?_; clear HS; intro w bn HS) | (refine sx_loads HS (by rfl) 25 _ rfl 1 _ _ _ rfl 0 rfl 2 sh25 [.slice aoh nh cph, .slice aow nw cpw] rfl ⟨rfl, rfl, trivial⟩ ?_))
      have hcl := rf_closed hs ws (.slice aoh nh cph) (.slice aow nw cpw) HBh.out HBw.out tx j w (.slice (some ⟨bn, 0, none⟩) 1 1) [tx] (HGh.out.ext HS.out.isExt) (HGw.out.ext HS.out.isExt) (IsAt.one (HS.out.box (i := 0) rfl)) rfl (by simp only [List.length_cons, List.length_nil]; omega)
      rw [show (([tx].length + j : Nat) : Int) = (j : Int) + 1 by simp only [List.length_cons, List.length_nil]; omega] at hcl
      refine hcl.mono ?_
      rintro e w8 ⟨vr, rfl, hx, hv⟩
      replace HS : Hid (St none default w0 w8 [(b2, 25, [.slice aoh nh cph, .slice aow nw cpw])]) := Lib.hid ((HS.out.ext hx).drop 1)
      have HV := Lib.hid hv
      clear hcl hx hv
      obtain ⟨aor, cpr, rfl, hr1, hr2, -⟩ := HV.out.get
      obtain ⟨nr, hnr⟩ : ∃ n, n = (Xc.closF (forF hs ws) tx j [tx]).length := ⟨_, rfl⟩
      rw [← hnr] at HV hr1 ⊢
      have HNR := Lib.hid hnr
      clear hnr
      by_cases hz : nr = 0
      · skip
        have HA2 : Hid (cycR hs ws tx = Xc.cycL (forF hs ws) tx ((List.range m).drop (j + 1))) := Lib.hid (by rw [HA.out, cycL_step hlt, if_pos]; rw [List.isEmpty_iff]; exact List.eq_nil_of_length_eq_zero (by rw [← HNR.out]; exact hz))
        subst hz
        go_wp2_with fail
        go_roundw
        case rel => exact ⟨j + 1, by omega, by go_num, HA2, HS⟩
        case measure => simp [intOf]; omega
      · skip
        have HA2 : Hid (cycR hs ws tx = Xc.closF (forF hs ws) tx j [tx]) := Lib.hid (by rw [HA.out, cycL_step hlt, if_neg]; rw [List.isEmpty_iff]; intro e; rw [e] at HNR; exact hz HNR.out)
        have hz2 : 0 < nr := by omega
        go_wp2_with fail
        go_ret
        exact ⟨_, rfl, HS.out.isExt, by rw [HA2.out]; exact HV.out⟩
    · skip
      have hjm : j = m := by omega
      subst hjm
      have HF : Hid (cycR hs ws tx = []) := Lib.hid (by rw [HA.out]; exact cycL_end (Nat.le_refl _))
      go_wp2_with fail
      go_ret
      exact ⟨_, rfl, HS.out.isExt, by rw [HF.out]; exact IsAt.nil _⟩
def WrPost (hs ws : List G) (g : G) (w0 : World) (e : Ending) (w' : World) : Prop :=
  (reqF hs ws g = none ∧ reqE hs ws g ≠ 0 ∧ e = .returned (.tuple #[.slice none 0 0, .int .i64 (reqE hs ws g)]) ∧ Ext w0 w') ∨
  (∃ (u v : List G) (b : Bool) (vl : Value), reqF hs ws g = some (u, v, b) ∧ reqE hs ws g = 0 ∧ e = .returned (.tuple #[vl, .int .i64 0]) ∧ Ext w0 w' ∧ IsAt w' vl (cycR u v g.tx))
set_option maxHeartbeats 8000000 in
set_option maxRecDepth 100000 in
theorem rf_would (w0 : World) (vh vw : Value) (hs ws : List G) (g : G) (h1 : GsAt w0 vh hs) (h2 : GsAt w0 vw ws) (hb1 : hs.length ≤ 10000) (hb2 : ws.length ≤ 10000) : Calls Tryz.prog 16 #[.agg #[vh, vw], .agg g.arr] w0 (WrPost hs ws g w0) := by
  have HGh := Lib.hid h1
  have HBh := Lib.hid hb1
  obtain ⟨aoh, cph, rfl, hch1, hch2, hath⟩ := h1.get
  obtain ⟨nh, hnh⟩ : ∃ n, n = hs.length := ⟨_, rfl⟩
  rw [← hnh] at HGh hch1 hath hb1 ⊢
  have HNh := Lib.hid hnh
  have HATh := Lib.hid hath
  clear hnh hath h1
  have HGw := Lib.hid h2
  have HBw := Lib.hid hb2
  obtain ⟨aow, cpw, rfl, hcw1, hcw2, hatw⟩ := h2.get
  obtain ⟨nw, hnw⟩ : ∃ n, n = ws.length := ⟨_, rfl⟩
  rw [← hnw] at HGw hcw1 hatw hb2 ⊢
  have HNw := Lib.hid hnw
  have HATw := Lib.hid hatw
  clear hnw hatw h2
  have HS : Hid (St none default w0 w0 []) := St.start w0
  go_enter Tryz.func16, Tryz.ntmps16
  go_wp2_with (first | (refine sx_box HS rfl 25 (.tmp 0) rfl [.slice aoh nh cph, .slice aow nw cpw] rfl ?_; clear HS; intro w b2 HS) | (refine sx_box HS rfl 29 (.tmp 1) rfl g.lst rfl ?_; clear HS; intro w b3 HS) | (refine sx_loads HS (by rfl) 25 _ rfl 1 _ _ _ rfl 0 rfl 2 sh25 [.slice aoh nh cph, .slice aow nw cpw] rfl ⟨rfl, rfl, trivial⟩ ?_) | (refine sx_load_all HS (by rfl) 29 _ rfl 0 _ _ _ rfl rfl 4 sh29 rfl ?_))
  replace HS : Hid (St none default w0 w [(b3, 29, g.lst), (b2, 25, [.slice aoh nh cph, .slice aow nw cpw])]) := HS
  refine (rf_request w _ _ hs ws g (HGh.out.ext HS.out.isExt) (HGw.out.ext HS.out.isExt) (by have := HBh.out; omega) (by have := HBw.out; omega)).mono ?_
  rintro e w1 (⟨hF, hE, he, hx⟩ | ⟨R, b, v1, v2, lr, hF, hE, he, hst, hk1, hk2⟩)
  · skip
    obtain ⟨E, hEE⟩ : ∃ E, E = reqE hs ws g := ⟨_, rfl⟩
    rw [← hEE] at hE he
    have HEE := Lib.hid hEE
    have HF := Lib.hid hF
    subst he
    replace HS := Lib.hid (HS.out.ext hx)
    clear hx hEE hF
    go_wp2_with (first | (refine sx_alloc HS rfl 25 rfl _ zr25 ?_; clear HS; intro w b6 HS) | (refine sx_store_all HS (by rfl) 25 _ _ rfl rfl 0 _ _ _ rfl rfl [.slice none 0 0, .slice none 0 0] rfl 2 sh25 rfl rfl rfl ?_; clear HS; intro w HS))
    go_ret2
    refine .inl ⟨HF.out, by rw [← HEE.out]; exact hE, ?_, HS.out.isExt⟩
    rw [← HEE.out]
    rfl
  · skip
    have HE := Lib.hid hE
    have HF := Lib.hid hF
    have HRL := Lib.hid (req_len2 hF)
    subst he
    replace HS : Hid (St none default w0 w1 ((b3, 29, g.lst) :: (b2, 25, [.slice aoh nh cph, .slice aow nw cpw]) :: lr)) := Lib.hid ((HS.out.call hst).perm (by simpa using List.perm_append_comm (l₁ := [(b3, 29, g.lst), (b2, 25, [.slice aoh nh cph, .slice aow nw cpw])]) (l₂ := lr)))
    have HK1 := Lib.hid hk1
    have HK2 := Lib.hid hk2
    clear hst hk1 hk2 hE hF
    have HO : Hid (v1.oneCell' = true ∧ v2.oneCell' = true) := Lib.hid ⟨HK1.out.one rfl, HK2.out.one rfl⟩
    go_wp2_with (first | (refine sx_alloc HS rfl 25 rfl _ zr25 ?_; clear HS; intro w b6 HS) | (refine sx_store_all HS (by rfl) 25 _ _ rfl rfl 0 _ _ _ rfl rfl [v1, v2] rfl 2 sh25 rfl rfl (by simp [HO.out.1, HO.out.2]) ?_; clear HS; intro w HS) | (refine sx_loads HS (by rfl) 25 (.tmp 6) rfl 0 _ _ _ rfl 0 rfl 2 sh25 [v1, v2] rfl ⟨rfl, rfl, trivial⟩ ?_) | (refine sx_load HS (by rfl) 3 _ rfl 1 _ _ _ rfl 0 rfl _ sh3 (.int .i64 g.tx) rfl ?_))
    refine (rf_cycle _ _ _ R.1 R.2 (HK1.out.at HGh.out HS.out (fun e he => by simp [he])) (HK2.out.at HGw.out HS.out (fun e he => by simp [he])) (by have := HRL.out; have := HBh.out; have := HBw.out; omega) (by have := HRL.out; have := HBh.out; have := HBw.out; omega) g.tx).mono ?_
    rintro e w2 ⟨vl, rfl, hx, hv⟩
    replace HS := Lib.hid (HS.out.ext hx)
    have HV := Lib.hid hv
    clear hx hv
    go_wp2_with fail
    go_ret2
    exact .inr ⟨R.1, R.2, b, vl, HF.out, HE.out, rfl, HS.out.isExt, HV.out⟩
end Go.Proofs.YtnfkplohpjfocaaGreat
