/-
  Sorting, compacting and asking of rows of numbers of the call's own; the waits' conflict and closure.
-/
import Derived.Test.YtnfkplohpjfocaaGreatBlA
import Derived.Test.YtnfkplohpjfocaaGreatShelf
import Derived.Test.YtnfkplohpjfocaaGreatLkE
set_option linter.unusedVariables false
set_option linter.unusedSimpArgs false
namespace Go.Proofs.YtnfkplohpjfocaaGreat
open Go.RowKit
def sortI (ns : List Int) : List Int := ns.mergeSort fun x y => decide (x ≤ y)
theorem sortI_len (ns : List Int) : (sortI ns).length = ns.length := List.length_mergeSort _
section
variable {cc : Option Nat} {q : CodeRow} {w0 w : World} {front lr ll : List (Nat × TypeId × List Value)} {v : Value} {ns : List Int}
theorem sort_row (HS : St cc q w0 w (front ++ (lr ++ ll))) (hr : OwnRow 3 1 lr v ns.length (ns.map iV)) (hlen : ns.length < 4611686018427387904) :
    Calls Tryz.prog 49 #[v] w (fun e w' => e = .returned (.tuple #[]) ∧ ∃ lr', St cc q w0 w' (front ++ (lr' ++ ll)) ∧ OwnRow 3 1 lr' v ns.length ((sortI ns).map iV)) := by
  rcases hr.2 with ⟨hlr, ⟨ao, rfl⟩, hn0⟩ | ⟨g, cap, pre, junk, rfl, rfl, hnc, hcm, hj⟩
  · have hns : ns = [] := List.eq_nil_of_length_eq_zero hn0
    subst hns
    refine (Tryz.slices_Sort_int_none ao 0 w).mono fun e w' h => ?_
    obtain ⟨rfl, rfl⟩ := h
    exact ⟨rfl, lr, HS, by simpa [sortI] using hr⟩
  · have hB : PBox w g 3 (pre ++ (ns.map iV ++ junk)) := ((Bx_iff.1 HS.own).1 (g, 3, pre ++ (ns.map iV ++ junk)) (by simp)).2
    refine (Tryz.slices_Sort_int g pre.length cap ns w (holds_of hB) hB.lt hlen).mono fun e w' h => ?_
    obtain ⟨rfl, n, os, rfl⟩ := h
    have hB1 : PBox (Go.Sort.ahead w n) g 3 (pre ++ (ns.map iV ++ junk)) := (ahead_ext n).pbox hB
    have hp := put_box hB1 (sortI_len ns)
    have h1 := (HS.ext (ahead_ext n)).chg hp.2 hp.1
    have h2 := h1.ext (grow_ext os)
    exact ⟨rfl, [(g, 3, pre ++ ((sortI ns).map iV ++ junk))], h2, by rw [List.length_map, sortI_len]; simp, .inr ⟨g, cap, pre, junk, rfl, rfl, hnc, hcm, hj⟩⟩
theorem compact_len_le (ns : List Int) : (Lib.compact ns).length ≤ ns.length := by
  unfold Lib.compact Lib.compactUpTo
  rw [List.length_map]
  have := List.length_filter_le (Lib.keeps ns.toArray) (List.range ns.length)
  rwa [List.length_range] at this
theorem compact_row (HS : St cc q w0 w (front ++ (lr ++ ll))) (hr : OwnRow 3 1 lr v ns.length (ns.map iV)) :
    Calls Tryz.prog 50 #[v] w (fun e w' => ∃ v' lr', e = .returned v' ∧ St cc q w0 w' (front ++ (lr' ++ ll)) ∧ OwnRow 3 1 lr' v' (Lib.compact ns).length ((Lib.compact ns).map iV)) := by
  rcases hr.2 with ⟨hlr, ⟨ao, rfl⟩, hn0⟩ | ⟨g, cap, pre, junk, rfl, rfl, hnc, hcm, hj⟩
  · have hns : ns = [] := List.eq_nil_of_length_eq_zero hn0
    subst hns
    refine (Tryz.slices_Compact_int_empty ao 0 w).mono fun e w' h => ?_
    obtain ⟨rfl, rfl⟩ := h
    exact ⟨_, lr, rfl, HS, hr⟩
  · have hB : PBox w g 3 (pre ++ (ns.map iV ++ junk)) := ((Bx_iff.1 HS.own).1 (g, 3, pre ++ (ns.map iV ++ junk)) (by simp)).2
    refine (Tryz.slices_Compact_int g pre.length cap ns w (holds_of hB) (by unfold maxLen at hcm; omega) hnc).mono fun e w' h => ?_
    obtain ⟨rfl, n, rfl⟩ := h
    have hB1 : PBox (Go.Sort.ahead w n) g 3 (pre ++ (ns.map iV ++ junk)) := (ahead_ext n).pbox hB
    have hle := compact_len_le ns
    have hp := put_box (ms := Lib.compact ns ++ List.replicate (ns.length - (Lib.compact ns).length) 0) hB1 (by rw [List.length_append, List.length_replicate]; omega)
    have h1 := (HS.ext (ahead_ext n)).chg hp.2 hp.1
    have e1 : pre ++ ((Lib.compact ns ++ List.replicate (ns.length - (Lib.compact ns).length) 0).map iV ++ junk) = pre ++ ((Lib.compact ns).map iV ++ ((List.replicate (ns.length - (Lib.compact ns).length) 0).map iV ++ junk)) := by rw [List.map_append, List.append_assoc]
    rw [e1] at h1
    refine ⟨_, _, rfl, h1, by simp, .inr ⟨g, cap, pre, _, rfl, rfl, by omega, hcm, ?_⟩⟩
    simp only [List.length_append, List.length_map, List.length_replicate, hj]
    omega
end
theorem wt_blockers1 (x : G) (tx : Int) (b : Nat) (w : World) (h0 : w.cell? ⟨b, 0, none⟩ = some (.int .i64 tx)) : Calls Tryz.prog 47 #[.agg x.arr, .pointer (some ⟨b, 0, none⟩)] w fun e w' => e = .returned (.bool (x.tx == tx)) ∧ Ext w w' := by
  have hlt : b < w.heap.size := block_lt_of_cell h0
  obtain ⟨x1, x2, x3, x4⟩ := x
  unfold G.arr G.lst
  dsimp only
  go_enter Tryz.func47, Tryz.ntmps47
  go_wp2
  go_ret
  exact ⟨rfl, (Ext.refl _).alloc _⟩
end Go.Proofs.YtnfkplohpjfocaaGreat

namespace Go.Proofs.YtnfkplohpjfocaaGreat
open Go.RowKit
def outsF (ys : List G) (g : G) : List Int := (ys.filter fun x => conflictB x g).map G.tx
def blockF (hs ws : List G) (tx : Int) : List Int := match ws.findIdx? (fun x => x.tx == tx) with
  | none => []
  | some i => match ws[i]? with | some g => Lib.compact (sortI (outsF (hs ++ ws.take i) g)) | none => []
theorem outsF_yes {ys : List G} {x g : G} (h : conflictB x g = true) : outsF (ys ++ [x]) g = outsF ys g ++ [x.tx] := by simp [outsF, h]
theorem outsF_no {ys : List G} {x g : G} (h : conflictB x g = false) : outsF (ys ++ [x]) g = outsF ys g := by simp [outsF, h]
theorem outsF_len (ys : List G) (g : G) : (outsF ys g).length ≤ ys.length := by unfold outsF; rw [List.length_map]; exact List.length_filter_le _ _
theorem sliced_hi (ao : Option Addr) (k cap s : Nat) : sliced ao 0 k cap s = .slice ao k cap := by
  unfold sliced
  cases ao with
  | none => split <;> simp
  | some a => obtain ⟨b, o, t⟩ := a; split <;> simp [Addr.add]
theorem info_int1 : ∃ ie, Tryz.prog.info? 3 = some ie ∧ ie.zero = some (.int .i64 0) ∧ ie.size = 1 ∧ ie.bytes ≤ 1000000 := info_int
def BlkPost (hs ws : List G) (tx : Int) (w0 : World) (e : Ending) (w' : World) : Prop := ∃ (v : Value) (lr : List (Nat × TypeId × List Value)), e = .returned v ∧ St none default w0 w' lr ∧ OwnRow 3 1 lr v (blockF hs ws tx).length ((blockF hs ws tx).map iV)
theorem take_next {α : Type} {rs : List α} {j : Nat} {r : α} (h : rs[j]? = some r) : rs.take (j + 1) = rs.take j ++ [r] := by
  obtain ⟨hj, rfl⟩ := List.getElem?_eq_some_iff.1 h
  rw [List.take_succ_eq_append_getElem hj]
set_option maxHeartbeats 8000000 in
set_option maxRecDepth 100000 in
theorem wt_blockers (w0 : World) (vh vw : Value) (hs ws : List G) (tx : Int) (h1 : GsAt w0 vh hs) (h2 : GsAt w0 vw ws) (hb1 : hs.length ≤ 1000000) (hb2 : ws.length ≤ 1000000) : Calls Tryz.prog 22 #[.agg #[vh, vw], .int .i64 tx] w0 (BlkPost hs ws tx w0) := by
  obtain ⟨aoh, cph, rfl, hch1, hch2, hath⟩ := h1.get
  have HGh := Lib.hid h1
  obtain ⟨nh, hnh⟩ : ∃ n, n = hs.length := ⟨_, rfl⟩
  rw [← hnh] at hch1 hath HGh hb1 ⊢
  have HNh := Lib.hid hnh
  have HATh := Lib.hid hath
  clear hnh hath h1
  obtain ⟨aow, cpw, rfl, hcw1, hcw2, hatw⟩ := h2.get
  have HGw := Lib.hid h2
  obtain ⟨nw, hnw⟩ : ∃ n, n = ws.length := ⟨_, rfl⟩
  rw [← hnw] at hcw1 hatw HGw hb2 ⊢
  have HNw := Lib.hid hnw
  have HATw := Lib.hid hatw
  clear hnw hatw h2
  obtain ⟨ie, hie, hiz, his, hib⟩ := info_int1
  have HIE := Lib.hid hie
  have HIZ := Lib.hid hiz
  have HIS := Lib.hid his
  have HIB := Lib.hid hib
  clear hie hiz his hib
  have HS : Hid (St none default w0 w0 []) := St.start w0
  go_enter Tryz.func22, Tryz.ntmps22
  go_wp2_with (first | (refine sx_box HS rfl _ _ rfl [.slice aoh nh cph, .slice aow nw cpw] rfl ?_; clear HS; intro w b2 HS) | (refine sx_box1 HS rfl _ _ rfl (.int .i64 tx) rfl rfl ?_; clear HS; intro w b3 HS) | (refine sx_load HS rfl 23 _ rfl 1 _ _ _ rfl 1 rfl _ sh23 (.slice aow nw cpw) rfl ?_))
  replace HS : Hid (St none default w0 w [(b3, 3, [.int .i64 tx]), (b2, 25, [.slice aoh nh cph, .slice aow nw cpw])]) := HS
  have hpr : Pred w ws 47 [.pointer (some ⟨b3, 0, none⟩)] (fun x => x.tx == tx) := ⟨⟨_, Tryz.func47, (by kernel_rfl), (by kernel_rfl)⟩, fun z _ w2 k2 => wt_blockers1 z tx b3 w2 ((k2.pbox (HS.out.box (i := 0) rfl)).cell rfl)⟩
  refine (indexFunc_any _ _ ws (HGw.out.ext HS.out.isExt) 47 [.pointer (some ⟨b3, 0, none⟩)] (fun x => x.tx == tx) hpr).mono ?_
  rintro e w ⟨he, hx⟩
  replace HS := Lib.hid (HS.out.ext hx)
  clear hx hpr
  cases hfi : ws.findIdx? (fun x => x.tx == tx) with
  | none =>
    have hix : idxI ws (fun x => x.tx == tx) = -1 := by unfold idxI; rw [hfi]
    rw [hix] at he
    subst he
    have hbl : blockF hs ws tx = [] := by unfold blockF; rw [hfi]
    have HBL := Lib.hid hbl
    clear hix hfi hbl
    go_wp2_with fail
    go_ret
    exact ⟨_, [], rfl, HS.out.sub (List.nil_sublist _), by rw [HBL.out]; exact OwnRow.nil⟩
  | some i =>
    have hix : idxI ws (fun x => x.tx == tx) = (i : Int) := by unfold idxI; rw [hfi]
    rw [hix] at he
    subst he
    obtain ⟨g, hg⟩ : ∃ g, ws[i]? = some g := by
      rw [List.findIdx?_eq_some_iff_getElem] at hfi
      exact ⟨_, List.getElem?_eq_getElem hfi.1⟩
    have hin : i < nw := by rw [HNw.out]; exact (List.getElem?_eq_some_iff.1 hg).1
    have hbl : blockF hs ws tx = Lib.compact (sortI (outsF (hs ++ ws.take i) g)) := by unfold blockF; rw [hfi]; simp only [hg]
    have HBL := Lib.hid hbl
    obtain ⟨gw, ow, rfl, hcellw⟩ := HATw.out (by omega)
    have HCG := Lib.hid (hcellw i g hg)
    have HGI := Lib.hid hg
    clear hix hfi hbl hg hcellw
    have HSV : Hid (GsAt w0 (.slice (some ⟨gw, ow, none⟩) i cpw) (ws.take i)) := by have h := HGw.out.take (k := i) (by omega); rw [sliced_hi] at h; exact h
    go_wp2_with fail
    refine hg_begin [(b3, 3, [.int .i64 tx]), (b2, 25, [.slice aoh nh cph, .slice (some ⟨gw, ow, none⟩) nw cpw])] HS (by kernel_rfl) ?_
    clear HS; intro w HS
    refine hg_reg 0 (some 17) rfl rfl (by kernel_rfl) (by kernel_rfl) (by kernel_rfl) (fun _ _ _ _ h => h) HS (by simp) (.pointer (some ⟨b2, 0, none⟩)) rfl (fun _ => by go_simp) ?_
    try simp only [Act.put, List.setIfInBounds_toArray, List.set_cons_zero, List.set_cons_succ]
    refine hg_load 1 (some 18) rfl rfl (by kernel_rfl) (by kernel_rfl) (by kernel_rfl) (fun _ _ _ _ h => h) HS (by simp) rfl 23 _ rfl 1 _ _ _ rfl 0 rfl _ sh23 (.slice aoh nh cph) rfl ?_
    try simp only [Act.put, List.setIfInBounds_toArray, List.set_cons_zero, List.set_cons_succ]
    refine hg_reg 2 (some 19) rfl rfl (by kernel_rfl) (by kernel_rfl) (by kernel_rfl) (fun _ _ _ _ h => h) HS (by simp) (.pointer (some ⟨b2, 1, none⟩)) rfl (fun _ => by go_simp) ?_
    try simp only [Act.put, List.setIfInBounds_toArray, List.set_cons_zero, List.set_cons_succ]
    refine hg_load 3 (some 20) rfl rfl (by kernel_rfl) (by kernel_rfl) (by kernel_rfl) (fun _ _ _ _ h => h) HS (by simp) rfl 23 _ rfl 1 _ _ _ rfl 1 rfl _ sh23 (.slice (some ⟨gw, ow, none⟩) nw cpw) rfl ?_
    try simp only [Act.put, List.setIfInBounds_toArray, List.set_cons_zero, List.set_cons_succ]
    refine hg_reg 4 (some 21) rfl rfl (by kernel_rfl) (by kernel_rfl) (by kernel_rfl) (fun _ _ _ _ h => h) HS (by simp) (.int .i64 (i : Int)) rfl (fun _ => by rfl) ?_
    try simp only [Act.put, List.setIfInBounds_toArray, List.set_cons_zero, List.set_cons_succ]
    refine hg_reg 5 (some 22) rfl rfl (by kernel_rfl) (by kernel_rfl) (by kernel_rfl) (fun _ _ _ _ h => h) HS (by simp) (.slice (some ⟨gw, ow, none⟩) i cpw) rfl (fun _ => run_sl_hi (n := nw) (s := 4) rfl Tryz.underlying23 (by kernel_rfl) rfl rfl (by omega) (sliced_hi _ _ _ 4).symm) ?_
    try simp only [Act.put, List.setIfInBounds_toArray, List.set_cons_zero, List.set_cons_succ]
    refine hg_reg 8 (some 25) rfl rfl (by kernel_rfl) (by kernel_rfl) (by kernel_rfl) (fun _ _ _ _ h => h) HS (by simp) (.int .i64 0) rfl (fun _ => by rfl) ?_
    try simp only [Act.put, List.setIfInBounds_toArray, List.set_cons_zero, List.set_cons_succ]
    refine hk_x1 6 (by kernel_rfl) ?_
    refine hg_build 6 (some 23) rfl rfl rfl HS (by simp) 74 23 2 [(0, .tmp 18), (1, .tmp 22)] rfl [(0, .slice aoh nh cph), (1, .slice (some ⟨gw, ow, none⟩) i cpw)] rfl [.slice aoh nh cph, .slice (some ⟨gw, ow, none⟩) i cpw] (fun w => build_gss _ _ _ _ _ _ w) ?_
    clear HS; intro w b23 HS
    try simp only [Act.put, List.setIfInBounds_toArray, List.set_cons_zero, List.set_cons_succ]
    refine hg_reg 7 (some 24) rfl rfl (by kernel_rfl) (by kernel_rfl) (by kernel_rfl) (fun _ _ _ _ h => h) HS (by simp) (.int .i64 2) rfl (fun _ => by go_simp) ?_
    try simp only [Act.put, List.setIfInBounds_toArray, List.set_cons_zero, List.set_cons_succ]
    refine hk_done (by kernel_rfl) ?_
    replace HS : Hid (St none default w0 w [(b23, 23, [.slice aoh nh cph, .slice (some ⟨gw, ow, none⟩) i cpw]), (b3, 3, [.int .i64 tx]), (b2, 25, [.slice aoh nh cph, .slice (some ⟨gw, ow, none⟩) nw cpw])]) := HS
    go_wp2_with fail
    go_loopw [6, 25] (fun s6 s25 wr => ∃ (r : Nat) (ys : List G) (lr : List (Nat × TypeId × List Value)), r ≤ 2 ∧ s25 = .int .i64 r ∧ Hid (ys = ([hs, ws.take i].take r).flatten) ∧ Hid (St none default w0 wr (lr ++ [(b23, 23, [.slice aoh nh cph, .slice (some ⟨gw, ow, none⟩) i cpw]), (b3, 3, [.int .i64 tx]), (b2, 25, [.slice aoh nh cph, .slice (some ⟨gw, ow, none⟩) nw cpw])])) ∧ Hid (OwnRow 3 1 lr s6 (outsF (ys) g).length ((outsF (ys) g).map iV))) (fun _ s25 _ => 2 - (intOf s25).toNat)
    case atStart => exact ⟨0, [], [], Nat.zero_le _, rfl, rfl, HS, OwnRow.nil⟩
    case round =>
      obtain ⟨r, ys, lr, hr2, rfl, HYS, HS2, HR⟩ := hrel
      clear HS
      have HS := HS2
      clear HS2
      by_cases hlt : r < 2
      · obtain ⟨ao2, n2, cp2, ys2, hval, hgs2, hnx, hl2⟩ : ∃ (ao2 : Option Addr) (n2 cp2 : Nat) (ys2 : List G), [.slice aoh nh cph, .slice (some ⟨gw, ow, none⟩) i cpw][r]? = some (Value.slice ao2 n2 cp2) ∧ GsAt w0 (.slice ao2 n2 cp2) ys2 ∧ ([hs, ws.take i].take (r + 1)).flatten = ys ++ ys2 ∧ n2 = ys2.length := by
          have h01 : r = 0 ∨ r = 1 := by omega
          rcases h01 with rfl | rfl
          · exact ⟨aoh, nh, cph, hs, rfl, HGh.out, by rw [HYS.out]; simp, HNh.out⟩
          · exact ⟨some ⟨gw, ow, none⟩, i, cpw, ws.take i, rfl, HSV.out, by rw [HYS.out]; simp, by rw [List.length_take, ← HNw.out]; omega⟩
        obtain ⟨ao3, cp3, hv3, hc21, hc22, hat2⟩ := hgs2.get
        obtain ⟨rfl, rfl⟩ : ao2 = ao3 ∧ cp2 = cp3 := by simpa [hl2] using hv3
        rw [← hl2] at hc21 hat2
        have hys : ys.length + ys2.length ≤ 2000000 := by
          have e : (ys ++ ys2).length ≤ (hs ++ ws.take i).length := by
            rw [← hnx]
            have h01 : r = 0 ∨ r = 1 := by omega
            rcases h01 with rfl | rfl <;> simp
          rw [List.length_append, List.length_append, List.length_take, ← HNh.out, ← HNw.out] at e
          omega
        have HVAL := Lib.hid hval
        have HNX := Lib.hid hnx
        have HL2 := Lib.hid hl2
        have HAT2 := Lib.hid hat2
        clear hval hnx hl2 hat2 hv3 hgs2
        have e0 : ys = ys ++ ys2.take 0 := by simp
        rw [e0] at HR
        clear e0
        go_wp2_with (refine sx_load HS rfl 23 _ rfl lr.length b23 23 [.slice aoh nh cph, .slice (some ⟨gw, ow, none⟩) i cpw] (by simp) r rfl _ sh23 (.slice ao2 n2 cp2) HVAL.out ?_)
        obtain ⟨wo, hwo⟩ : ∃ wo : World, wo = wr := ⟨_, rfl⟩
        subst hwo
        go_loopw [6, 31] (fun s6 s31 wr => ∃ (j : Nat) (lr : List (Nat × TypeId × List Value)), j ≤ n2 ∧ s31 = .int .i64 j ∧ Hid (St none default w0 wr (lr ++ [(b23, 23, [.slice aoh nh cph, .slice (some ⟨gw, ow, none⟩) i cpw]), (b3, 3, [.int .i64 tx]), (b2, 25, [.slice aoh nh cph, .slice (some ⟨gw, ow, none⟩) nw cpw])])) ∧ Hid (OwnRow 3 1 lr s6 (outsF (ys ++ ys2.take j) g).length ((outsF (ys ++ ys2.take j) g).map iV))) (fun _ s31 _ => n2 - (intOf s31).toNat)
        case atStart => exact ⟨0, lr, Nat.zero_le _, rfl, HS, HR⟩
        case round =>
          clear HS HR lr
          obtain ⟨j, lr, hj, rfl, HS, HR⟩ := hrel
          by_cases hlt2 : j < n2
          · obtain ⟨x, hx⟩ := list_get_of_lt ys2 j n2 HL2.out.symm hlt2
            obtain ⟨g2, off2, rfl, hcell⟩ := HAT2.out (by omega)
            have HC := Lib.hid (hcell j x hx)
            have HX := Lib.hid hx
            clear hcell hx
            go_wp2_with (first | (refine sx_loadsC rfl 29 _ rfl g2 (off2 + j * 4) rfl 4 sh29 x.lst rfl (HC.out _ HS.out.isExt) ?_) | (refine sx_alloc HS rfl 29 rfl _ zr29 ?_; clear HS; intro w b10 HS) | (refine sx_store_all HS rfl 29 _ _ rfl rfl 0 _ _ _ rfl rfl x.lst rfl 4 sh29 rfl rfl rfl ?_; clear HS; intro w HS))
            try simp only [Act.put, List.setIfInBounds_toArray, List.set_cons_zero, List.set_cons_succ]
            replace HS : Hid (St none default w0 w ((b10, 29, [.int .i64 x.tx, .int .i64 x.page, .int .i64 x.slot, .int .i64 x.mode]) :: (lr ++ [(b23, 23, [.slice aoh nh cph, .slice (some ⟨gw, ow, none⟩) i cpw]), (b3, 3, [.int .i64 tx]), (b2, 25, [.slice aoh nh cph, .slice (some ⟨gw, ow, none⟩) nw cpw])]))) := HS
            cases hcf : conflictB x g with
            | false =>
              refine hg_begin [(b10, 29, [.int .i64 x.tx, .int .i64 x.page, .int .i64 x.slot, .int .i64 x.mode]), (b2, 25, [.slice aoh nh cph, .slice (some ⟨gw, ow, none⟩) nw cpw])] HS (by kernel_rfl) ?_
              clear HS; intro w HS
              refine hg_loads 0 (some 35) rfl rfl (by kernel_rfl) (by kernel_rfl) (by kernel_rfl) (fun _ _ _ _ h => h) HS ((((List.Sublist.cons _ (List.Sublist.cons _ (List.Sublist.refl _)))).trans (List.sublist_append_right lr _)).cons_cons _) rfl 29 _ rfl 0 _ _ _ rfl 0 rfl 4 sh29 [.int .i64 x.tx, .int .i64 x.page, .int .i64 x.slot, .int .i64 x.mode] rfl ⟨rfl, rfl, rfl, rfl, trivial⟩ ?_
              try simp only [Act.put, List.setIfInBounds_toArray, List.set_cons_zero, List.set_cons_succ]
              refine hg_reg 1 (some 36) rfl rfl (by kernel_rfl) (by kernel_rfl) (by kernel_rfl) (fun _ _ _ _ h => h) HS ((((List.Sublist.cons _ (List.Sublist.cons _ (List.Sublist.refl _)))).trans (List.sublist_append_right lr _)).cons_cons _) (.pointer (some ⟨b2, 1, none⟩)) rfl (fun _ => by go_simp) ?_
              try simp only [Act.put, List.setIfInBounds_toArray, List.set_cons_zero, List.set_cons_succ]
              refine hg_load 2 (some 37) rfl rfl (by kernel_rfl) (by kernel_rfl) (by kernel_rfl) (fun _ _ _ _ h => h) HS ((((List.Sublist.cons _ (List.Sublist.cons _ (List.Sublist.refl _)))).trans (List.sublist_append_right lr _)).cons_cons _) rfl 23 _ rfl 1 _ _ _ rfl 1 rfl _ sh23 (.slice (some ⟨gw, ow, none⟩) nw cpw) rfl ?_
              try simp only [Act.put, List.setIfInBounds_toArray, List.set_cons_zero, List.set_cons_succ]
              refine hg_reg 3 (some 38) rfl rfl (by kernel_rfl) (by kernel_rfl) (by kernel_rfl) (fun _ _ _ _ h => h) HS ((((List.Sublist.cons _ (List.Sublist.cons _ (List.Sublist.refl _)))).trans (List.sublist_append_right lr _)).cons_cons _) (.int .i64 (i : Int)) rfl (fun _ => by rfl) ?_
              try simp only [Act.put, List.setIfInBounds_toArray, List.set_cons_zero, List.set_cons_succ]
              refine hg_reg 4 (some 39) rfl rfl (by kernel_rfl) (by kernel_rfl) (by kernel_rfl) (fun _ _ _ _ h => h) HS ((((List.Sublist.cons _ (List.Sublist.cons _ (List.Sublist.refl _)))).trans (List.sublist_append_right lr _)).cons_cons _) (.pointer (some ⟨gw, ow + i * 4, none⟩)) rfl (fun _ => by go_simp) ?_
              try simp only [Act.put, List.setIfInBounds_toArray, List.set_cons_zero, List.set_cons_succ]
              refine hg_loadsC 5 (some 40) rfl rfl (by kernel_rfl) (by kernel_rfl) (by kernel_rfl) (fun _ _ _ _ h => h) HS ((((List.Sublist.cons _ (List.Sublist.cons _ (List.Sublist.refl _)))).trans (List.sublist_append_right lr _)).cons_cons _) rfl 29 _ rfl gw (ow + i * 4) rfl 4 sh29 (g.lst) rfl (fun w2 h2 => HCG.out w2 h2.isExt) ?_
              try simp only [Act.put, List.setIfInBounds_toArray, List.set_cons_zero, List.set_cons_succ]
              refine hk_x1 6 (by kernel_rfl) ?_
              refine hg_call 6 (some 41) rfl rfl rfl HS ((((List.Sublist.cons _ (List.Sublist.cons _ (List.Sublist.refl _)))).trans (List.sublist_append_right lr _)).cons_cons _) 48 _ _ rfl Tryz.func48 (by kernel_rfl) rfl _ (fun v => v = .bool false) ((wt_conflict x g _).mono (fun e w1 h => by obtain ⟨rfl, hx⟩ := h; exact ⟨_, rfl, by rw [hcf], HS.out.ext hx⟩)) rfl ?_
              clear HS; rintro _ w rfl HS
              try simp only [Act.put, List.setIfInBounds_toArray, List.set_cons_zero, List.set_cons_succ]
              refine hk_done (by kernel_rfl) ?_
              have HR2 : Hid (OwnRow 3 1 lr _ (outsF (ys ++ ys2.take (j + 1)) g).length ((outsF (ys ++ ys2.take (j + 1)) g).map iV)) := Lib.hid (by rw [take_next HX.out, ← List.append_assoc, outsF_no hcf]; exact HR.out)
              clear hcf
              replace HS := Lib.hid (HS.out.drop 1)
              go_wp2_with fail
              go_roundw
              case rel => exact ⟨j + 1, lr, by omega, by go_num, HS, HR2⟩
              case measure => simp [intOf]; omega
            | true =>
              refine hg_begin [(b10, 29, [.int .i64 x.tx, .int .i64 x.page, .int .i64 x.slot, .int .i64 x.mode]), (b2, 25, [.slice aoh nh cph, .slice (some ⟨gw, ow, none⟩) nw cpw])] HS (by kernel_rfl) ?_
              clear HS; intro w HS
              refine hg_loads 0 (some 35) rfl rfl (by kernel_rfl) (by kernel_rfl) (by kernel_rfl) (fun _ _ _ _ h => h) HS ((((List.Sublist.cons _ (List.Sublist.cons _ (List.Sublist.refl _)))).trans (List.sublist_append_right lr _)).cons_cons _) rfl 29 _ rfl 0 _ _ _ rfl 0 rfl 4 sh29 [.int .i64 x.tx, .int .i64 x.page, .int .i64 x.slot, .int .i64 x.mode] rfl ⟨rfl, rfl, rfl, rfl, trivial⟩ ?_
              try simp only [Act.put, List.setIfInBounds_toArray, List.set_cons_zero, List.set_cons_succ]
              refine hg_reg 1 (some 36) rfl rfl (by kernel_rfl) (by kernel_rfl) (by kernel_rfl) (fun _ _ _ _ h => h) HS ((((List.Sublist.cons _ (List.Sublist.cons _ (List.Sublist.refl _)))).trans (List.sublist_append_right lr _)).cons_cons _) (.pointer (some ⟨b2, 1, none⟩)) rfl (fun _ => by go_simp) ?_
              try simp only [Act.put, List.setIfInBounds_toArray, List.set_cons_zero, List.set_cons_succ]
              refine hg_load 2 (some 37) rfl rfl (by kernel_rfl) (by kernel_rfl) (by kernel_rfl) (fun _ _ _ _ h => h) HS ((((List.Sublist.cons _ (List.Sublist.cons _ (List.Sublist.refl _)))).trans (List.sublist_append_right lr _)).cons_cons _) rfl 23 _ rfl 1 _ _ _ rfl 1 rfl _ sh23 (.slice (some ⟨gw, ow, none⟩) nw cpw) rfl ?_
              try simp only [Act.put, List.setIfInBounds_toArray, List.set_cons_zero, List.set_cons_succ]
              refine hg_reg 3 (some 38) rfl rfl (by kernel_rfl) (by kernel_rfl) (by kernel_rfl) (fun _ _ _ _ h => h) HS ((((List.Sublist.cons _ (List.Sublist.cons _ (List.Sublist.refl _)))).trans (List.sublist_append_right lr _)).cons_cons _) (.int .i64 (i : Int)) rfl (fun _ => by rfl) ?_
              try simp only [Act.put, List.setIfInBounds_toArray, List.set_cons_zero, List.set_cons_succ]
              refine hg_reg 4 (some 39) rfl rfl (by kernel_rfl) (by kernel_rfl) (by kernel_rfl) (fun _ _ _ _ h => h) HS ((((List.Sublist.cons _ (List.Sublist.cons _ (List.Sublist.refl _)))).trans (List.sublist_append_right lr _)).cons_cons _) (.pointer (some ⟨gw, ow + i * 4, none⟩)) rfl (fun _ => by go_simp) ?_
              try simp only [Act.put, List.setIfInBounds_toArray, List.set_cons_zero, List.set_cons_succ]
              refine hg_loadsC 5 (some 40) rfl rfl (by kernel_rfl) (by kernel_rfl) (by kernel_rfl) (fun _ _ _ _ h => h) HS ((((List.Sublist.cons _ (List.Sublist.cons _ (List.Sublist.refl _)))).trans (List.sublist_append_right lr _)).cons_cons _) rfl 29 _ rfl gw (ow + i * 4) rfl 4 sh29 (g.lst) rfl (fun w2 h2 => HCG.out w2 h2.isExt) ?_
              try simp only [Act.put, List.setIfInBounds_toArray, List.set_cons_zero, List.set_cons_succ]
              refine hk_x1 6 (by kernel_rfl) ?_
              refine hg_call 6 (some 41) rfl rfl rfl HS ((((List.Sublist.cons _ (List.Sublist.cons _ (List.Sublist.refl _)))).trans (List.sublist_append_right lr _)).cons_cons _) 48 _ _ rfl Tryz.func48 (by kernel_rfl) rfl _ (fun v => v = .bool true) ((wt_conflict x g _).mono (fun e w1 h => by obtain ⟨rfl, hx⟩ := h; exact ⟨_, rfl, by rw [hcf], HS.out.ext hx⟩)) rfl ?_
              clear HS; rintro _ w rfl HS
              try simp only [Act.put, List.setIfInBounds_toArray, List.set_cons_zero, List.set_cons_succ]
              refine hk_done (by kernel_rfl) ?_
              have hle : (outsF (ys ++ ys2.take j) g).length ≤ 2000000 := by
                have h1 := outsF_len (ys ++ ys2.take j) g
                have h2 : (ys ++ ys2.take j).length ≤ ys.length + ys2.length := by rw [List.length_append, List.length_take]; omega
                omega
              have HCF := Lib.hid hcf
              clear hcf
              go_wp2_with (first | (refine sx_load HS rfl 3 _ rfl 0 _ _ _ rfl 0 rfl _ sh3 (.int .i64 x.tx) rfl ?_) | (refine sx_build HS rfl 38 3 1 [(0, .tmp 44)] rfl [(0, .int .i64 x.tx)] rfl [.int .i64 x.tx] (fun w => build_int x.tx w) ?_; clear HS; intro w b45 HS) | (at_builtin; refine sx_appendO (front := [(b45, 3, [.int .i64 x.tx]), (b10, 29, [.int .i64 x.tx, .int .i64 x.page, .int .i64 x.slot, .int .i64 x.mode])]) (lr := lr) (ll := [(b23, 23, [.slice aoh nh cph, .slice (some ⟨gw, ow, none⟩) i cpw]), (b3, 3, [.int .i64 tx]), (b2, 25, [.slice aoh nh cph, .slice (some ⟨gw, ow, none⟩) nw cpw])]) HS rfl _ _ 38 rfl 3 ie _ 1 _ Tryz.underlying38 HIE.out HIZ.out HIS.out rfl rfl _ (outsF (ys ++ ys2.take j) g).length ((outsF (ys ++ ys2.take j) g).map iV) rfl HR.out _ rfl 1 [.int .i64 x.tx] (SrcAt.box (HS.out.box (i := 0) rfl) rfl rfl) (by unfold maxLen; omega) (Nat.le_trans (Nat.mul_le_mul (show (outsF (ys ++ ys2.take j) g).length + 1 ≤ 2000001 by omega) HIB.out) (by decide)) ?_; clear HS HR; intro vv w lq HS HR))
              have HR2 : Hid (OwnRow 3 1 lq vv (outsF (ys ++ ys2.take (j + 1)) g).length ((outsF (ys ++ ys2.take (j + 1)) g).map iV)) := Lib.hid (by rw [take_next HX.out, ← List.append_assoc, outsF_yes HCF.out, List.map_append, List.length_append]; exact HR.out)
              replace HS := Lib.hid (HS.out.drop 2)
              clear HR
              go_roundw
              case rel => exact ⟨j + 1, lq, by omega, by go_num, HS, HR2⟩
              case measure => simp [intOf]; omega
          · have hj2 : j = n2 := by omega
            subst hj2
            have e1 : ys ++ ys2.take j = ([hs, ws.take i].take (r + 1)).flatten := by rw [HNX.out, List.take_of_length_le (l := ys2) (by rw [← HL2.out]; exact Nat.le_refl _)]
            rw [e1] at HR
            clear e1
            go_wp2_with fail
            go_roundw
            case rel => exact ⟨r + 1, _, lr, by omega, by go_num, rfl, HS, HR⟩
            case measure => simp [intOf]; omega
      · have hr22 : r = 2 := by omega
        subst hr22
        have e2 : ys = hs ++ ws.take i := by rw [HYS.out]; simp
        subst e2
        have hle : (outsF (hs ++ ws.take i) g).length < 4611686018427387904 := by
          have h1 := outsF_len (hs ++ ws.take i) g
          rw [List.length_append, List.length_take, ← HNh.out, ← HNw.out] at h1
          omega
        go_wp2_with fail
        refine (sort_row (front := []) (ll := [(b23, 23, [.slice aoh nh cph, .slice (some ⟨gw, ow, none⟩) i cpw]), (b3, 3, [.int .i64 tx]), (b2, 25, [.slice aoh nh cph, .slice (some ⟨gw, ow, none⟩) nw cpw])]) HS.out HR.out hle).mono ?_
        rintro e w ⟨rfl, lr2, hst, hrow⟩
        have HR2 : Hid (OwnRow 3 1 lr2 _ (sortI (outsF (hs ++ ws.take i) g)).length ((sortI (outsF (hs ++ ws.take i) g)).map iV)) := Lib.hid (by rw [sortI_len]; exact hrow)
        clear HS HR hrow
        have HS := Lib.hid hst
        clear hst
        go_wp2_with fail
        refine (compact_row (front := []) (ll := [(b23, 23, [.slice aoh nh cph, .slice (some ⟨gw, ow, none⟩) i cpw]), (b3, 3, [.int .i64 tx]), (b2, 25, [.slice aoh nh cph, .slice (some ⟨gw, ow, none⟩) nw cpw])]) HS.out HR2.out).mono ?_
        rintro e w ⟨v3, lr3, rfl, hst, hrow⟩
        have HF : Hid (BlkPost hs ws tx w0 (.returned v3) w) := ⟨v3, lr3, rfl, hst.sub (List.sublist_append_left _ _), by rw [HBL.out]; exact hrow⟩
        clear hst hrow HS
        go_wp2_with fail
        go_ret
        exact HF.out
end Go.Proofs.YtnfkplohpjfocaaGreat
