/-
  The contract of the reference's settle.
-/
import Derived.Test.YtnfkplohpjfocaaGreatRhW
import Derived.Test.YtnfkplohpjfocaaGreatReqF
set_option linter.unusedVariables false
set_option linter.unusedSimpArgs false
namespace Go.Proofs.YtnfkplohpjfocaaGreat
open Go.RowKit
set_option maxHeartbeats 8000000 in
set_option maxRecDepth 100000 in
theorem rf_settle (w0 : World) (vh0 vw0 : Value) (hs0 ws0 : List G) (h1 : GsAt w0 vh0 hs0) (h2 : GsAt w0 vw0 ws0) (hb : hs0.length + ws0.length ≤ 2000) (ht : TV hs0 ws0) : Calls Tryz.prog 35 #[.agg #[vh0, vw0]] w0 (TbK vh0 vw0 hs0 ws0 (settle hs0 ws0) w0) := by
  have H1 := Lib.hid h1
  have H2 := Lib.hid h2
  have HB0 := Lib.hid hb
  have HRS := Lib.hid (RSInv.start ht)
  have o1 := h1.one
  have o2 := h2.one
  have HO1 := Lib.hid o1
  have HO2 := Lib.hid o2
  obtain ⟨R, hR⟩ : ∃ R, R = settle hs0 ws0 := ⟨_, rfl⟩
  rw [← hR] at HRS ⊢
  clear hR ht h1 h2 hb o1 o2
  have HS : Hid (St none default w0 w0 []) := St.start w0
  go_enter Tryz.func35, Tryz.ntmps35
  go_wp2_with (first | (refine sx_box HS rfl 25 (.tmp 0) rfl [vh0, vw0] rfl ?_; clear HS; intro w b1 HS) | (refine sx_alloc HS rfl 25 rfl _ zr25 ?_; clear HS; intro w b2 HS))
  replace HS : Hid (St none default w0 w ((b2, 25, [.slice none 0 0, .slice none 0 0]) :: (b1, 25, [vh0, vw0]) :: [])) := HS
  go_loopg [3] (ws0.length * 3000 + ws0.length) (fun k s3 wr => ∃ (i : Nat) (hs ws : List G) (v1 v2 : Value) (lr : List (Nat × TypeId × List Value)), s3 = .int .i64 i ∧ ws.length * 3000 + (ws.length - i) ≤ k ∧ Hid (RSInv R hs ws i) ∧ Hid (hs.length + ws.length ≤ 2000) ∧ Hid (Kp vh0 hs0 lr v1 hs) ∧ Hid (Kp vw0 ws0 lr v2 ws) ∧ Hid (St none default w0 wr ((b2, 25, [.slice none 0 0, .slice none 0 0]) :: (b1, 25, [v1, v2]) :: lr)))
  case atStart => exact ⟨0, hs0, ws0, vh0, vw0, [], rfl, by omega, HRS, HB0, Lib.hid Kp.refl, Lib.hid Kp.refl, HS⟩
  case round =>
    clear HS HRS HB0
    obtain ⟨m, hm⟩ : ∃ k, k = gk := ⟨gk, rfl⟩
    subst hm
    obtain ⟨i, hs, ws, v1, v2, lr, rfl, hk, HRS, HB, HK1, HK2, HS⟩ := hrel
    obtain ⟨aoh, cph, rfl, hch1, hch2, hath⟩ := HK1.out.form H1.out HS.out (fun e he => by simp [he])
    obtain ⟨aow, cpw, rfl, hcw1, hcw2, hatw⟩ := HK2.out.form H2.out HS.out (fun e he => by simp [he])
    have him := HRS.out.le
    have hb := HB.out
    obtain ⟨nh, hnh⟩ : ∃ n, n = hs.length := ⟨_, rfl⟩
    obtain ⟨nw, hnw⟩ : ∃ n, n = ws.length := ⟨_, rfl⟩
    rw [← hnh] at hch1 hath hb HK1 HS
    rw [← hnw] at hcw1 hatw hb him hk HK2 HS
    have HNh := Lib.hid hnh
    have HNw := Lib.hid hnw
    have HATw := Lib.hid hatw
    clear hnh hnw hath hatw
    by_cases hlt : i < nw
    · skip
      obtain ⟨gw, ow, rfl, hcell⟩ := HATw.out (by omega)
      obtain ⟨g, hg⟩ := list_get_of_lt ws i nw HNw.out.symm hlt
      have HG := Lib.hid hg
      have HC := Lib.hid (hcell i g hg)
      clear hg hcell
      go_wp2_with (first | (refine sx_load HS (by rfl) 23 _ rfl 1 _ _ _ rfl 1 rfl _ sh23 (.slice (some ⟨gw, ow, none⟩) nw cpw) rfl ?_) | (refine sx_loads HS (by rfl) 25 _ rfl 1 _ _ _ rfl 0 rfl 2 sh25 [.slice aoh nh cph, .slice (some ⟨gw, ow, none⟩) nw cpw] rfl ⟨rfl, rfl, trivial⟩ ?_))
      refine (rf_able wr _ _ hs ws i (HK1.out.at H1.out HS.out (fun e he => by simp [he])) (HK2.out.at H2.out HS.out (fun e he => by simp [he])) (by rw [← HNh.out]; omega) (by rw [← HNw.out]; omega) (by rw [← HNw.out]; exact hlt)).mono ?_
      rintro e w ⟨he, hx⟩
      replace HS := Lib.hid (HS.out.ext hx)
      clear hx
      cases hbk : blockedB hs ws i with
      | true =>
        rw [hbk] at he
        have he2 : e = .returned (.bool false) := he
        clear he
        subst he2
        have HRS2 := Lib.hid (HRS.out.skip HG.out hbk)
        clear hbk
        go_wp2_with fail
        go_roundg (nw * 3000 + (nw - (i + 1)))
        case measure => omega
        case rel => exact ⟨i + 1, hs, ws, _, _, lr, by go_num, by rw [← HNw.out]; exact Nat.le_refl _, HRS2, HB, HK1, HK2, HS⟩
      | false =>
        rw [hbk] at he
        have he2 : e = .returned (.bool true) := he
        clear he
        subst he2
        have HRS2 := Lib.hid (HRS.out.move HG.out hbk)
        clear hbk
        have HPU : Hid (holdF g false hs = putF g hs) := Lib.hid (hold_put HRS.out.tv.srt)
        have HPL : Hid ((putF g hs).length ≤ nh + 1) := Lib.hid (by rw [HNh.out]; exact putF_len g hs)
        go_wp2_with fail
        go_cut [14, 15, 16, 17, 18, 19, 20, 21, 22] (fun _ _ _ _ _ _ _ _ _  wx => ∃ (v3 : Value) (l3 : List (Nat × TypeId × List Value)), Hid (Kp vh0 hs0 l3 v3 (putF g hs)) ∧ Hid (Kp vw0 ws0 l3 (.slice (some ⟨gw, ow, none⟩) nw cpw) ws) ∧ Hid (St none default w0 wx ((b2, 25, [.slice none 0 0, .slice none 0 0]) :: (b1, 25, [v3, .slice (some ⟨gw, ow, none⟩) nw cpw]) :: l3)))
        case first =>
          refine hg_begin lr HS (by kernel_rfl) ?_
          clear HS; intro w HS
          refine hg_reg 0 (some 14) rfl rfl (by kernel_rfl) (by kernel_rfl) (by kernel_rfl) (fun _ _ _ _ h => h) HS (List.Sublist.cons _ (List.Sublist.cons _ (List.Sublist.refl _))) (.pointer (some ⟨b1, 0, none⟩)) rfl (fun _ => by go_simp) ?_
          try simp only [Act.put, List.setIfInBounds_toArray, List.set_cons_zero, List.set_cons_succ]
          refine hg_reg 2 (some 16) rfl rfl (by kernel_rfl) (by kernel_rfl) (by kernel_rfl) (fun _ _ _ _ h => h) HS (List.Sublist.cons _ (List.Sublist.cons _ (List.Sublist.refl _))) (.pointer (some ⟨b1, 1, none⟩)) rfl (fun _ => by go_simp) ?_
          try simp only [Act.put, List.setIfInBounds_toArray, List.set_cons_zero, List.set_cons_succ]
          refine hg_reg 4 (some 18) rfl rfl (by kernel_rfl) (by kernel_rfl) (by kernel_rfl) (fun _ _ _ _ h => h) HS (List.Sublist.cons _ (List.Sublist.cons _ (List.Sublist.refl _))) (.int .i64 (i : Int)) rfl (fun _ => by rfl) ?_
          try simp only [Act.put, List.setIfInBounds_toArray, List.set_cons_zero, List.set_cons_succ]
          refine hk_x2 1 3 (by kernel_rfl) ?_ ?_
          · skip
            refine hx_load 1 (some 15) rfl rfl rfl HS (List.Sublist.cons _ (List.Sublist.cons _ (List.Sublist.refl _))) 23 _ rfl 1 _ _ _ rfl 0 rfl _ sh23 (.slice aoh nh cph) rfl ?_
            try simp only [Act.put, List.setIfInBounds_toArray, List.set_cons_zero, List.set_cons_succ]
            refine hk_x1 3 (by kernel_rfl) ?_
            refine hx_load 3 (some 17) rfl rfl rfl HS (List.Sublist.cons _ (List.Sublist.cons _ (List.Sublist.refl _))) 23 _ rfl 1 _ _ _ rfl 1 rfl _ sh23 (.slice (some ⟨gw, ow, none⟩) nw cpw) rfl ?_
            try simp only [Act.put, List.setIfInBounds_toArray, List.set_cons_zero, List.set_cons_succ]
            refine hg_reg 5 (some 19) rfl rfl (by kernel_rfl) (by kernel_rfl) (by kernel_rfl) (fun _ _ _ _ h => h) HS (List.Sublist.cons _ (List.Sublist.cons _ (List.Sublist.refl _))) (.pointer (some ⟨gw, ow + i * 4, none⟩)) rfl (fun _ => by go_simp) ?_
            try simp only [Act.put, List.setIfInBounds_toArray, List.set_cons_zero, List.set_cons_succ]
            refine hg_loadsC 6 (some 20) rfl rfl (by kernel_rfl) (by kernel_rfl) (by kernel_rfl) (fun _ _ _ _ h => h) HS (List.Sublist.cons _ (List.Sublist.cons _ (List.Sublist.refl _))) rfl 29 _ rfl gw (ow + i * 4) rfl 4 sh29 (g.lst) rfl (fun w2 h2 => HC.out w2 lr h2 (fun e he => he)) ?_
            try simp only [Act.put, List.setIfInBounds_toArray, List.set_cons_zero, List.set_cons_succ]
            refine hk_x1 7 (by kernel_rfl) ?_
            refine hg_callR 7 (some 21) rfl rfl rfl HS (List.Sublist.cons _ (List.Sublist.cons _ (List.Sublist.refl _))) 62 _ _ rfl Tryz.func62 (by kernel_rfl) rfl [.slice aoh nh cph, .agg g.arr] (fun v l => OwnRow 29 4 l v (putF g hs).length (gL (putF g hs))) ((rf_hold w _ hs g (HK1.out.at H1.out HS.out (fun e he => by simp [he])) (by rw [← HNh.out]; omega)).mono (fun e w1 h => by rw [HPU.out] at h; obtain ⟨v, l, rfl, h1, h2⟩ := h; exact ⟨v, l, rfl, h2, HS.out.call h1⟩)) rfl ?_
            clear HS; intro v3 w l3 hr3 HS
            have HR3 := Lib.hid hr3
            clear hr3
            replace HS : Hid (St none default w0 w ((b2, 25, [.slice none 0 0, .slice none 0 0]) :: (b1, 25, [.slice aoh nh cph, .slice (some ⟨gw, ow, none⟩) nw cpw]) :: (l3 ++ lr))) := Lib.hid (HS.out.perm (by simpa using (List.perm_append_comm_assoc [(b2, 25, [.slice none 0 0, .slice none 0 0]), (b1, 25, [.slice aoh nh cph, .slice (some ⟨gw, ow, none⟩) nw cpw])] l3 lr)))
            try simp only [Act.put, List.setIfInBounds_toArray, List.set_cons_zero, List.set_cons_succ]
            refine hg_reg 8 (some 22) rfl rfl (by kernel_rfl) (by kernel_rfl) (by kernel_rfl) (fun _ _ _ _ h => h) HS (List.Sublist.cons _ (List.Sublist.cons _ (List.sublist_append_right l3 lr))) (.pointer (some ⟨b1, 0, none⟩)) rfl (fun _ => by go_simp) ?_
            try simp only [Act.put, List.setIfInBounds_toArray, List.set_cons_zero, List.set_cons_succ]
            refine hk_x1 9 (by kernel_rfl) ?_
            refine hg_storeM (front := [(b2, 25, [.slice none 0 0, .slice none 0 0])]) (ll := l3 ++ lr) 9 rfl rfl HS 23 _ _ rfl rfl 0 rfl v3 rfl sh23 HR3.out.one (by simp) [v3, .slice (some ⟨gw, ow, none⟩) nw cpw] rfl (List.Sublist.cons _ (List.Sublist.cons _ (List.sublist_append_right l3 lr))) ?_
            clear HS; intro w HS
            try simp only [Act.put, List.setIfInBounds_toArray, List.set_cons_zero, List.set_cons_succ]
            refine hk_done (by kernel_rfl) ?_
            try go_wp2_with fail
            go_meet
            exact ⟨v3, l3 ++ lr, Lib.hid (.inr ⟨l3, fun e he => List.mem_append_left _ he, HR3.out⟩), Lib.hid (HK2.out.mono (fun e he => List.mem_append_right _ he)), HS⟩
          · skip
            refine hx_load 3 (some 17) rfl rfl rfl HS (List.Sublist.cons _ (List.Sublist.cons _ (List.Sublist.refl _))) 23 _ rfl 1 _ _ _ rfl 1 rfl _ sh23 (.slice (some ⟨gw, ow, none⟩) nw cpw) rfl ?_
            try simp only [Act.put, List.setIfInBounds_toArray, List.set_cons_zero, List.set_cons_succ]
            refine hg_reg 5 (some 19) rfl rfl (by kernel_rfl) (by kernel_rfl) (by kernel_rfl) (fun _ _ _ _ h => h) HS (List.Sublist.cons _ (List.Sublist.cons _ (List.Sublist.refl _))) (.pointer (some ⟨gw, ow + i * 4, none⟩)) rfl (fun _ => by go_simp) ?_
            try simp only [Act.put, List.setIfInBounds_toArray, List.set_cons_zero, List.set_cons_succ]
            refine hg_loadsC 6 (some 20) rfl rfl (by kernel_rfl) (by kernel_rfl) (by kernel_rfl) (fun _ _ _ _ h => h) HS (List.Sublist.cons _ (List.Sublist.cons _ (List.Sublist.refl _))) rfl 29 _ rfl gw (ow + i * 4) rfl 4 sh29 (g.lst) rfl (fun w2 h2 => HC.out w2 lr h2 (fun e he => he)) ?_
            try simp only [Act.put, List.setIfInBounds_toArray, List.set_cons_zero, List.set_cons_succ]
            refine hk_x1 1 (by kernel_rfl) ?_
            refine hx_load 1 (some 15) rfl rfl rfl HS (List.Sublist.cons _ (List.Sublist.cons _ (List.Sublist.refl _))) 23 _ rfl 1 _ _ _ rfl 0 rfl _ sh23 (.slice aoh nh cph) rfl ?_
            try simp only [Act.put, List.setIfInBounds_toArray, List.set_cons_zero, List.set_cons_succ]
            refine hk_x1 7 (by kernel_rfl) ?_
            refine hg_callR 7 (some 21) rfl rfl rfl HS (List.Sublist.cons _ (List.Sublist.cons _ (List.Sublist.refl _))) 62 _ _ rfl Tryz.func62 (by kernel_rfl) rfl [.slice aoh nh cph, .agg g.arr] (fun v l => OwnRow 29 4 l v (putF g hs).length (gL (putF g hs))) ((rf_hold w _ hs g (HK1.out.at H1.out HS.out (fun e he => by simp [he])) (by rw [← HNh.out]; omega)).mono (fun e w1 h => by rw [HPU.out] at h; obtain ⟨v, l, rfl, h1, h2⟩ := h; exact ⟨v, l, rfl, h2, HS.out.call h1⟩)) rfl ?_
            clear HS; intro v3 w l3 hr3 HS
            have HR3 := Lib.hid hr3
            clear hr3
            replace HS : Hid (St none default w0 w ((b2, 25, [.slice none 0 0, .slice none 0 0]) :: (b1, 25, [.slice aoh nh cph, .slice (some ⟨gw, ow, none⟩) nw cpw]) :: (l3 ++ lr))) := Lib.hid (HS.out.perm (by simpa using (List.perm_append_comm_assoc [(b2, 25, [.slice none 0 0, .slice none 0 0]), (b1, 25, [.slice aoh nh cph, .slice (some ⟨gw, ow, none⟩) nw cpw])] l3 lr)))
            try simp only [Act.put, List.setIfInBounds_toArray, List.set_cons_zero, List.set_cons_succ]
            refine hg_reg 8 (some 22) rfl rfl (by kernel_rfl) (by kernel_rfl) (by kernel_rfl) (fun _ _ _ _ h => h) HS (List.Sublist.cons _ (List.Sublist.cons _ (List.sublist_append_right l3 lr))) (.pointer (some ⟨b1, 0, none⟩)) rfl (fun _ => by go_simp) ?_
            try simp only [Act.put, List.setIfInBounds_toArray, List.set_cons_zero, List.set_cons_succ]
            refine hk_x1 9 (by kernel_rfl) ?_
            refine hg_storeM (front := [(b2, 25, [.slice none 0 0, .slice none 0 0])]) (ll := l3 ++ lr) 9 rfl rfl HS 23 _ _ rfl rfl 0 rfl v3 rfl sh23 HR3.out.one (by simp) [v3, .slice (some ⟨gw, ow, none⟩) nw cpw] rfl (List.Sublist.cons _ (List.Sublist.cons _ (List.sublist_append_right l3 lr))) ?_
            clear HS; intro w HS
            try simp only [Act.put, List.setIfInBounds_toArray, List.set_cons_zero, List.set_cons_succ]
            refine hk_done (by kernel_rfl) ?_
            try go_wp2_with fail
            go_meet
            exact ⟨v3, l3 ++ lr, Lib.hid (.inr ⟨l3, fun e he => List.mem_append_left _ he, HR3.out⟩), Lib.hid (HK2.out.mono (fun e he => List.mem_append_right _ he)), HS⟩
        case rest =>
          clear HS HK1 HK2 HC HATw lr
          obtain ⟨v3, lr, HK1, HK2, HS⟩ := hcut
          obtain ⟨ie, hie, hiz, his, hib⟩ := info_grant
          have HIE := Lib.hid hie
          have HIZ := Lib.hid hiz
          have HIS := Lib.hid his
          have HIB := Lib.hid hib
          clear hie hiz his hib
          obtain ⟨sv, hsv⟩ : ∃ sv, sv = sliced (some (⟨gw, ow, none⟩ : Addr)) (i + 1) nw cpw 4 := ⟨_, rfl⟩
          have HSV := Lib.hid hsv
          clear hsv
          obtain ⟨n2, hn2⟩ : ∃ n2, n2 = nw - (i + 1) := ⟨_, rfl⟩
          have hn3 : n2 + (i + 1) = nw := by omega
          have HN2 := Lib.hid hn2
          clear hn2
          go_wp2_with fail
          go_cut [23, 24, 25, 26, 27, 28, 29, 30, 31, 32, 33, 34] (fun _ _ _ _ _ _ _ _ _ _ _ _  wx => ∃ (v4 : Value) (l4 : List (Nat × TypeId × List Value)), Hid (Kp vh0 hs0 l4 v3 (putF g hs)) ∧ Hid (Kp vw0 ws0 l4 v4 (ws.take i ++ ws.drop (i + 1))) ∧ Hid (St none default w0 wx ((b2, 25, [.slice none 0 0, .slice none 0 0]) :: (b1, 25, [v3, v4]) :: l4)))
          case first =>
            refine hg_begin [] HS (by kernel_rfl) ?_
            clear HS; intro w HS
            refine hg_reg 0 (some 23) rfl rfl (by kernel_rfl) (by kernel_rfl) (by kernel_rfl) (fun _ _ _ _ h => h) HS (List.nil_sublist _) (.pointer (some ⟨b1, 1, none⟩)) rfl (fun _ => by go_simp) ?_
            try simp only [Act.put, List.setIfInBounds_toArray, List.set_cons_zero, List.set_cons_succ]
            refine hg_reg 2 (some 25) rfl rfl (by kernel_rfl) (by kernel_rfl) (by kernel_rfl) (fun _ _ _ _ h => h) HS (List.nil_sublist _) (.int .i64 (i : Int)) rfl (fun _ => by rfl) ?_
            try simp only [Act.put, List.setIfInBounds_toArray, List.set_cons_zero, List.set_cons_succ]
            refine hg_reg 5 (some 28) rfl rfl (by kernel_rfl) (by kernel_rfl) (by kernel_rfl) (fun _ _ _ _ h => h) HS (List.nil_sublist _) (.pointer (some ⟨b1, 1, none⟩)) rfl (fun _ => by go_simp) ?_
            try simp only [Act.put, List.setIfInBounds_toArray, List.set_cons_zero, List.set_cons_succ]
            refine hg_reg 7 (some 30) rfl rfl (by kernel_rfl) (by kernel_rfl) (by kernel_rfl) (fun _ _ _ _ h => h) HS (List.nil_sublist _) (.int .i64 (i : Int)) rfl (fun _ => by rfl) ?_
            try simp only [Act.put, List.setIfInBounds_toArray, List.set_cons_zero, List.set_cons_succ]
            refine hg_reg 8 (some 31) rfl rfl (by kernel_rfl) (by kernel_rfl) (by kernel_rfl) (fun _ _ _ _ h => h) HS (List.nil_sublist _) (.int .i64 ((i : Int) + 1)) rfl (fun _ => by go_simp <;> first | assumption | omega | exact IntWalk.i64_in _ (by omega)) ?_
            try simp only [Act.put, List.setIfInBounds_toArray, List.set_cons_zero, List.set_cons_succ]
            refine hk_x2 1 6 (by kernel_rfl) ?_ ?_
            · skip
              refine hx_load 1 (some 24) rfl rfl rfl HS (List.nil_sublist _) 23 _ rfl 1 _ _ _ rfl 1 rfl _ sh23 (.slice (some ⟨gw, ow, none⟩) nw cpw) rfl ?_
              try simp only [Act.put, List.setIfInBounds_toArray, List.set_cons_zero, List.set_cons_succ]
              refine hg_reg 3 (some 26) rfl rfl (by kernel_rfl) (by kernel_rfl) (by kernel_rfl) (fun _ _ _ _ h => h) HS (List.nil_sublist _) (.slice (some ⟨gw, ow, none⟩) i cpw) rfl (fun _ => by exact run_sl_hi (n := nw) (s := 4) rfl Tryz.underlying23 (by kernel_rfl) rfl rfl (by omega) (sliced_hi4 _ _ _ 4).symm) ?_
              try simp only [Act.put, List.setIfInBounds_toArray, List.set_cons_zero, List.set_cons_succ]
              refine hk_x2 4 6 (by kernel_rfl) ?_ ?_
              · skip
                refine hg_appendS 4 (some 27) rfl rfl rfl (front := []) (lr := []) (ll := (b2, 25, [.slice none 0 0, .slice none 0 0]) :: (b1, 25, [v3, .slice (some ⟨gw, ow, none⟩) nw cpw]) :: lr) HS (fun _ => List.nil_sublist _) _ _ 23 rfl 29 ie _ 4 _ Tryz.underlying23 HIE.out HIZ.out HIS.out rfl rfl (by decide) _ 0 [] rfl RowEnt.nil _ rfl i (gL (ws.take i)) ((HK2.out.at H2.out HS.out (fun e he => by simp [he])).hi (by omega)) (by unfold maxLen; omega) (Nat.le_trans (Nat.mul_le_mul (show 0 + i ≤ 300001 by omega) HIB.out) (by decide)) ?_
                clear HS; intro v5 w l5 HS HR5
                replace HS : Hid (St none default w0 w (l5 ++ ((b2, 25, [.slice none 0 0, .slice none 0 0]) :: (b1, 25, [v3, .slice (some ⟨gw, ow, none⟩) nw cpw]) :: lr))) := HS
                replace HR5 : Hid (RowEnt 29 4 l5 v5 i (gL (ws.take i))) := Lib.hid (by have h := HR5.out; rw [Nat.zero_add, List.nil_append] at h; exact h)
                try simp only [Act.put, List.setIfInBounds_toArray, List.set_cons_zero, List.set_cons_succ]
                refine hk_x1 6 (by kernel_rfl) ?_
                refine hx_load 6 (some 29) rfl rfl rfl HS (List.nil_sublist _) 23 _ rfl (l5.length + 1) b1 25 [v3, .slice (some ⟨gw, ow, none⟩) nw cpw] (by simp) 1 rfl _ sh23 (.slice (some ⟨gw, ow, none⟩) nw cpw) rfl ?_
                try simp only [Act.put, List.setIfInBounds_toArray, List.set_cons_zero, List.set_cons_succ]
                refine hg_reg 9 (some 32) rfl rfl (by kernel_rfl) (by kernel_rfl) (by kernel_rfl) (fun _ _ _ _ h => h) HS (List.nil_sublist _) (sv) rfl (fun _ => by exact run_sl_lo (ao := some ⟨gw, ow, none⟩) (n := nw) (cap := cpw) (k := i + 1) (s := 4) rfl Tryz.underlying23 (by kernel_rfl) rfl rfl (by omega) HSV.out) ?_
                try simp only [Act.put, List.setIfInBounds_toArray, List.set_cons_zero, List.set_cons_succ]
                refine hk_x1 10 (by kernel_rfl) ?_
                refine hg_appendS 10 (some 33) rfl rfl rfl (front := []) (lr := l5) (ll := (b2, 25, [.slice none 0 0, .slice none 0 0]) :: (b1, 25, [v3, .slice (some ⟨gw, ow, none⟩) nw cpw]) :: lr) HS (fun _ => List.nil_sublist _) _ _ 23 rfl 29 ie _ 4 _ Tryz.underlying23 HIE.out HIZ.out HIS.out rfl rfl (by decide) _ i (gL (ws.take i)) rfl HR5.out _ rfl n2 (gL (ws.drop (i + 1))) (by rw [HSV.out, HN2.out]; exact (HK2.out.at H2.out HS.out (fun e he => by simp [he])).lo (by omega)) (by unfold maxLen; omega) (Nat.le_trans (Nat.mul_le_mul (show i + n2 ≤ 300001 by omega) HIB.out) (by decide)) ?_
                clear HS HR5; intro v6 w l6 HS HR6
                replace HS : Hid (St none default w0 w ((b2, 25, [.slice none 0 0, .slice none 0 0]) :: (b1, 25, [v3, .slice (some ⟨gw, ow, none⟩) nw cpw]) :: (l6 ++ lr))) := Lib.hid (HS.out.perm (by simpa using (List.perm_append_comm_assoc [(b2, 25, [.slice none 0 0, .slice none 0 0]), (b1, 25, [v3, .slice (some ⟨gw, ow, none⟩) nw cpw])] l6 lr)))
                have HR7 : Hid (OwnRow 29 4 l6 v6 (ws.take i ++ ws.drop (i + 1)).length (gL (ws.take i ++ ws.drop (i + 1)))) := Lib.hid (by have h := OwnRow.of HR6.out; rw [gL_append, List.length_append, List.length_take, List.length_drop, ← HNw.out, ← HN2.out, Nat.min_eq_left (by omega)]; exact h)
                clear HR6
                try simp only [Act.put, List.setIfInBounds_toArray, List.set_cons_zero, List.set_cons_succ]
                refine hg_reg 11 (some 34) rfl rfl (by kernel_rfl) (by kernel_rfl) (by kernel_rfl) (fun _ _ _ _ h => h) HS (List.nil_sublist _) (.pointer (some ⟨b1, 1, none⟩)) rfl (fun _ => by go_simp) ?_
                try simp only [Act.put, List.setIfInBounds_toArray, List.set_cons_zero, List.set_cons_succ]
                refine hk_x1 12 (by kernel_rfl) ?_
                refine hg_storeM (front := [(b2, 25, [.slice none 0 0, .slice none 0 0])]) (ll := l6 ++ lr) 12 rfl rfl HS 23 _ _ rfl rfl 1 rfl v6 rfl sh23 HR7.out.one (by simp) [v3, v6] rfl (List.nil_sublist _) ?_
                clear HS; intro w HS
                try simp only [Act.put, List.setIfInBounds_toArray, List.set_cons_zero, List.set_cons_succ]
                refine hk_done (by kernel_rfl) ?_
                try go_wp2_with fail
                go_meet
                exact ⟨v6, l6 ++ lr, Lib.hid (HK1.out.mono (fun e he => List.mem_append_right _ he)), Lib.hid (.inr ⟨l6, fun e he => List.mem_append_left _ he, HR7.out⟩), HS⟩
              · skip
                refine hx_load 6 (some 29) rfl rfl rfl HS (List.nil_sublist _) 23 _ rfl 1 _ _ _ rfl 1 rfl _ sh23 (.slice (some ⟨gw, ow, none⟩) nw cpw) rfl ?_
                try simp only [Act.put, List.setIfInBounds_toArray, List.set_cons_zero, List.set_cons_succ]
                refine hg_reg 9 (some 32) rfl rfl (by kernel_rfl) (by kernel_rfl) (by kernel_rfl) (fun _ _ _ _ h => h) HS (List.nil_sublist _) (sv) rfl (fun _ => by exact run_sl_lo (ao := some ⟨gw, ow, none⟩) (n := nw) (cap := cpw) (k := i + 1) (s := 4) rfl Tryz.underlying23 (by kernel_rfl) rfl rfl (by omega) HSV.out) ?_
                try simp only [Act.put, List.setIfInBounds_toArray, List.set_cons_zero, List.set_cons_succ]
                refine hk_x1 4 (by kernel_rfl) ?_
                refine hg_appendS 4 (some 27) rfl rfl rfl (front := []) (lr := []) (ll := (b2, 25, [.slice none 0 0, .slice none 0 0]) :: (b1, 25, [v3, .slice (some ⟨gw, ow, none⟩) nw cpw]) :: lr) HS (fun _ => List.nil_sublist _) _ _ 23 rfl 29 ie _ 4 _ Tryz.underlying23 HIE.out HIZ.out HIS.out rfl rfl (by decide) _ 0 [] rfl RowEnt.nil _ rfl i (gL (ws.take i)) ((HK2.out.at H2.out HS.out (fun e he => by simp [he])).hi (by omega)) (by unfold maxLen; omega) (Nat.le_trans (Nat.mul_le_mul (show 0 + i ≤ 300001 by omega) HIB.out) (by decide)) ?_
                clear HS; intro v5 w l5 HS HR5
                replace HS : Hid (St none default w0 w (l5 ++ ((b2, 25, [.slice none 0 0, .slice none 0 0]) :: (b1, 25, [v3, .slice (some ⟨gw, ow, none⟩) nw cpw]) :: lr))) := HS
                replace HR5 : Hid (RowEnt 29 4 l5 v5 i (gL (ws.take i))) := Lib.hid (by have h := HR5.out; rw [Nat.zero_add, List.nil_append] at h; exact h)
                try simp only [Act.put, List.setIfInBounds_toArray, List.set_cons_zero, List.set_cons_succ]
                refine hk_x1 10 (by kernel_rfl) ?_
                refine hg_appendS 10 (some 33) rfl rfl rfl (front := []) (lr := l5) (ll := (b2, 25, [.slice none 0 0, .slice none 0 0]) :: (b1, 25, [v3, .slice (some ⟨gw, ow, none⟩) nw cpw]) :: lr) HS (fun _ => List.nil_sublist _) _ _ 23 rfl 29 ie _ 4 _ Tryz.underlying23 HIE.out HIZ.out HIS.out rfl rfl (by decide) _ i (gL (ws.take i)) rfl HR5.out _ rfl n2 (gL (ws.drop (i + 1))) (by rw [HSV.out, HN2.out]; exact (HK2.out.at H2.out HS.out (fun e he => by simp [he])).lo (by omega)) (by unfold maxLen; omega) (Nat.le_trans (Nat.mul_le_mul (show i + n2 ≤ 300001 by omega) HIB.out) (by decide)) ?_
                clear HS HR5; intro v6 w l6 HS HR6
                replace HS : Hid (St none default w0 w ((b2, 25, [.slice none 0 0, .slice none 0 0]) :: (b1, 25, [v3, .slice (some ⟨gw, ow, none⟩) nw cpw]) :: (l6 ++ lr))) := Lib.hid (HS.out.perm (by simpa using (List.perm_append_comm_assoc [(b2, 25, [.slice none 0 0, .slice none 0 0]), (b1, 25, [v3, .slice (some ⟨gw, ow, none⟩) nw cpw])] l6 lr)))
                have HR7 : Hid (OwnRow 29 4 l6 v6 (ws.take i ++ ws.drop (i + 1)).length (gL (ws.take i ++ ws.drop (i + 1)))) := Lib.hid (by have h := OwnRow.of HR6.out; rw [gL_append, List.length_append, List.length_take, List.length_drop, ← HNw.out, ← HN2.out, Nat.min_eq_left (by omega)]; exact h)
                clear HR6
                try simp only [Act.put, List.setIfInBounds_toArray, List.set_cons_zero, List.set_cons_succ]
                refine hg_reg 11 (some 34) rfl rfl (by kernel_rfl) (by kernel_rfl) (by kernel_rfl) (fun _ _ _ _ h => h) HS (List.nil_sublist _) (.pointer (some ⟨b1, 1, none⟩)) rfl (fun _ => by go_simp) ?_
                try simp only [Act.put, List.setIfInBounds_toArray, List.set_cons_zero, List.set_cons_succ]
                refine hk_x1 12 (by kernel_rfl) ?_
                refine hg_storeM (front := [(b2, 25, [.slice none 0 0, .slice none 0 0])]) (ll := l6 ++ lr) 12 rfl rfl HS 23 _ _ rfl rfl 1 rfl v6 rfl sh23 HR7.out.one (by simp) [v3, v6] rfl (List.nil_sublist _) ?_
                clear HS; intro w HS
                try simp only [Act.put, List.setIfInBounds_toArray, List.set_cons_zero, List.set_cons_succ]
                refine hk_done (by kernel_rfl) ?_
                try go_wp2_with fail
                go_meet
                exact ⟨v6, l6 ++ lr, Lib.hid (HK1.out.mono (fun e he => List.mem_append_right _ he)), Lib.hid (.inr ⟨l6, fun e he => List.mem_append_left _ he, HR7.out⟩), HS⟩
            · skip
              refine hx_load 6 (some 29) rfl rfl rfl HS (List.nil_sublist _) 23 _ rfl 1 _ _ _ rfl 1 rfl _ sh23 (.slice (some ⟨gw, ow, none⟩) nw cpw) rfl ?_
              try simp only [Act.put, List.setIfInBounds_toArray, List.set_cons_zero, List.set_cons_succ]
              refine hg_reg 9 (some 32) rfl rfl (by kernel_rfl) (by kernel_rfl) (by kernel_rfl) (fun _ _ _ _ h => h) HS (List.nil_sublist _) (sv) rfl (fun _ => by exact run_sl_lo (ao := some ⟨gw, ow, none⟩) (n := nw) (cap := cpw) (k := i + 1) (s := 4) rfl Tryz.underlying23 (by kernel_rfl) rfl rfl (by omega) HSV.out) ?_
              try simp only [Act.put, List.setIfInBounds_toArray, List.set_cons_zero, List.set_cons_succ]
              refine hk_x1 1 (by kernel_rfl) ?_
              refine hx_load 1 (some 24) rfl rfl rfl HS (List.nil_sublist _) 23 _ rfl 1 _ _ _ rfl 1 rfl _ sh23 (.slice (some ⟨gw, ow, none⟩) nw cpw) rfl ?_
              try simp only [Act.put, List.setIfInBounds_toArray, List.set_cons_zero, List.set_cons_succ]
              refine hg_reg 3 (some 26) rfl rfl (by kernel_rfl) (by kernel_rfl) (by kernel_rfl) (fun _ _ _ _ h => h) HS (List.nil_sublist _) (.slice (some ⟨gw, ow, none⟩) i cpw) rfl (fun _ => by exact run_sl_hi (n := nw) (s := 4) rfl Tryz.underlying23 (by kernel_rfl) rfl rfl (by omega) (sliced_hi4 _ _ _ 4).symm) ?_
              try simp only [Act.put, List.setIfInBounds_toArray, List.set_cons_zero, List.set_cons_succ]
              refine hk_x1 4 (by kernel_rfl) ?_
              refine hg_appendS 4 (some 27) rfl rfl rfl (front := []) (lr := []) (ll := (b2, 25, [.slice none 0 0, .slice none 0 0]) :: (b1, 25, [v3, .slice (some ⟨gw, ow, none⟩) nw cpw]) :: lr) HS (fun _ => List.nil_sublist _) _ _ 23 rfl 29 ie _ 4 _ Tryz.underlying23 HIE.out HIZ.out HIS.out rfl rfl (by decide) _ 0 [] rfl RowEnt.nil _ rfl i (gL (ws.take i)) ((HK2.out.at H2.out HS.out (fun e he => by simp [he])).hi (by omega)) (by unfold maxLen; omega) (Nat.le_trans (Nat.mul_le_mul (show 0 + i ≤ 300001 by omega) HIB.out) (by decide)) ?_
              clear HS; intro v5 w l5 HS HR5
              replace HS : Hid (St none default w0 w (l5 ++ ((b2, 25, [.slice none 0 0, .slice none 0 0]) :: (b1, 25, [v3, .slice (some ⟨gw, ow, none⟩) nw cpw]) :: lr))) := HS
              replace HR5 : Hid (RowEnt 29 4 l5 v5 i (gL (ws.take i))) := Lib.hid (by have h := HR5.out; rw [Nat.zero_add, List.nil_append] at h; exact h)
              try simp only [Act.put, List.setIfInBounds_toArray, List.set_cons_zero, List.set_cons_succ]
              refine hk_x1 10 (by kernel_rfl) ?_
              refine hg_appendS 10 (some 33) rfl rfl rfl (front := []) (lr := l5) (ll := (b2, 25, [.slice none 0 0, .slice none 0 0]) :: (b1, 25, [v3, .slice (some ⟨gw, ow, none⟩) nw cpw]) :: lr) HS (fun _ => List.nil_sublist _) _ _ 23 rfl 29 ie _ 4 _ Tryz.underlying23 HIE.out HIZ.out HIS.out rfl rfl (by decide) _ i (gL (ws.take i)) rfl HR5.out _ rfl n2 (gL (ws.drop (i + 1))) (by rw [HSV.out, HN2.out]; exact (HK2.out.at H2.out HS.out (fun e he => by simp [he])).lo (by omega)) (by unfold maxLen; omega) (Nat.le_trans (Nat.mul_le_mul (show i + n2 ≤ 300001 by omega) HIB.out) (by decide)) ?_
              clear HS HR5; intro v6 w l6 HS HR6
              replace HS : Hid (St none default w0 w ((b2, 25, [.slice none 0 0, .slice none 0 0]) :: (b1, 25, [v3, .slice (some ⟨gw, ow, none⟩) nw cpw]) :: (l6 ++ lr))) := Lib.hid (HS.out.perm (by simpa using (List.perm_append_comm_assoc [(b2, 25, [.slice none 0 0, .slice none 0 0]), (b1, 25, [v3, .slice (some ⟨gw, ow, none⟩) nw cpw])] l6 lr)))
              have HR7 : Hid (OwnRow 29 4 l6 v6 (ws.take i ++ ws.drop (i + 1)).length (gL (ws.take i ++ ws.drop (i + 1)))) := Lib.hid (by have h := OwnRow.of HR6.out; rw [gL_append, List.length_append, List.length_take, List.length_drop, ← HNw.out, ← HN2.out, Nat.min_eq_left (by omega)]; exact h)
              clear HR6
              try simp only [Act.put, List.setIfInBounds_toArray, List.set_cons_zero, List.set_cons_succ]
              refine hg_reg 11 (some 34) rfl rfl (by kernel_rfl) (by kernel_rfl) (by kernel_rfl) (fun _ _ _ _ h => h) HS (List.nil_sublist _) (.pointer (some ⟨b1, 1, none⟩)) rfl (fun _ => by go_simp) ?_
              try simp only [Act.put, List.setIfInBounds_toArray, List.set_cons_zero, List.set_cons_succ]
              refine hk_x1 12 (by kernel_rfl) ?_
              refine hg_storeM (front := [(b2, 25, [.slice none 0 0, .slice none 0 0])]) (ll := l6 ++ lr) 12 rfl rfl HS 23 _ _ rfl rfl 1 rfl v6 rfl sh23 HR7.out.one (by simp) [v3, v6] rfl (List.nil_sublist _) ?_
              clear HS; intro w HS
              try simp only [Act.put, List.setIfInBounds_toArray, List.set_cons_zero, List.set_cons_succ]
              refine hk_done (by kernel_rfl) ?_
              try go_wp2_with fail
              go_meet
              exact ⟨v6, l6 ++ lr, Lib.hid (HK1.out.mono (fun e he => List.mem_append_right _ he)), Lib.hid (.inr ⟨l6, fun e he => List.mem_append_left _ he, HR7.out⟩), HS⟩
          case rest =>
            clear HS HK1 HK2 lr
            obtain ⟨v4, lr, HK1, HK2, HS⟩ := hcut
            go_wp2_with fail
            have hl : (ws.take i ++ ws.drop (i + 1)).length = i + n2 := by rw [List.length_append, List.length_take, List.length_drop, ← HNw.out, ← HN2.out, Nat.min_eq_left (by omega)]
            go_roundg ((i + n2) * 3000 + (i + n2))
            case measure => omega
            case rel => exact ⟨0, putF g hs, ws.take i ++ ws.drop (i + 1), v3, v4, lr, by go_num, by rw [hl]; omega, HRS2, Lib.hid (by rw [hl]; have := HPL.out; omega), HK1, HK2, HS⟩
    · skip
      have hin : i = nw := by omega
      subst hin
      have HF : Hid (R = (hs, ws)) := Lib.hid (HRS.out.done (by rw [← HNw.out]; exact Nat.le_refl _))
      go_wp2_with (first | (refine sx_load HS (by rfl) 23 _ rfl 1 _ _ _ rfl 1 rfl _ sh23 (.slice aow i cpw) rfl ?_) | (refine sx_loads HS (by rfl) 25 _ rfl 1 _ _ _ rfl 0 rfl 2 sh25 [.slice aoh nh cph, .slice aow i cpw] rfl ⟨rfl, rfl, trivial⟩ ?_) | (refine sx_store_all HS (by rfl) 25 _ _ rfl rfl 0 _ _ _ rfl rfl [.slice aoh nh cph, .slice aow i cpw] rfl 2 sh25 rfl rfl rfl ?_; clear HS; intro w HS))
      have hB : PBox w b2 25 [.slice aoh nh cph, .slice aow i cpw] := HS.out.box (i := 0) rfl
      refine bodyPost_ret (results_c rfl rfl (run_load_cells sh25 rfl (fun j u hj => by rw [Nat.zero_add]; exact hB.cell hj))) rfl ?_
      exact ⟨_, _, lr, rfl, HS.out.drop 2, by rw [HF.out]; exact HK1.out, by rw [HF.out]; exact HK2.out⟩
end Go.Proofs.YtnfkplohpjfocaaGreat
