/-
  The contract of waits.Cycle.
-/
import Derived.Test.YtnfkplohpjfocaaGreatWtW
import Derived.Test.YtnfkplohpjfocaaGreatIntC
import Derived.Test.YtnfkplohpjfocaaGreatCyA
import Derived.Test.YtnfkplohpjfocaaGreatMapSet
import Derived.Deep.LoopGhost
set_option linter.unusedVariables false
set_option linter.unusedSimpArgs false
namespace Go.Proofs.YtnfkplohpjfocaaGreat
open Go.RowKit
def univ (hs ws : List G) (tx : Int) : List Int := tx :: (hs ++ ws).map G.tx
def cycF (hs ws : List G) (tx : Int) : List Int := if validT hs ws then bfsF (blockF hs ws) tx (univ hs ws tx).length [tx] [[tx]] else []
theorem compact_mem {ns : List Int} {x : Int} (h : x ∈ Lib.compact ns) : x ∈ ns := by
  unfold Lib.compact Lib.compactUpTo at h
  obtain ⟨i, hi, rfl⟩ := List.mem_map.1 h
  have hi2 : i < ns.length := by simpa using (List.mem_filter.1 hi).1
  simp [hi2]
theorem blockF_sub {hs ws : List G} {y : Int} {x : Int} (h : x ∈ blockF hs ws y) : x ∈ (hs ++ ws).map G.tx := by
  unfold blockF at h
  cases hf : ws.findIdx? (fun x => x.tx == y) with
  | none => rw [hf] at h; cases h
  | some i =>
    rw [hf] at h
    cases hg : ws[i]? with
    | none => simp only [hg] at h; cases h
    | some g =>
      simp only [hg] at h
      have h1 := compact_mem h
      unfold sortI at h1
      rw [List.mem_mergeSort] at h1
      unfold outsF at h1
      obtain ⟨z, hz, rfl⟩ := List.mem_map.1 h1
      have hz1 := (List.mem_filter.1 hz).1
      refine List.mem_map.2 ⟨z, ?_, rfl⟩
      rcases List.mem_append.1 hz1 with h2 | h2
      · exact List.mem_append_left _ h2
      · exact List.mem_append_right _ (List.mem_of_mem_take h2)
theorem blockF_len (hs ws : List G) (y : Int) : (blockF hs ws y).length ≤ hs.length + ws.length := by
  unfold blockF
  cases hf : ws.findIdx? (fun x => x.tx == y) with
  | none => simp
  | some i =>
    cases hg : ws[i]? with
    | none => simp [hg]
    | some g =>
      simp only [hg]
      have h1 := compact_len_le (sortI (outsF (hs ++ ws.take i) g))
      rw [sortI_len] at h1
      have h2 := outsF_len (hs ++ ws.take i) g
      rw [List.length_append, List.length_take] at h2
      omega
def Mq (b : Nat) (ks : List Int) : CodeRow := (default : CodeRow).withMaps [(b, ks)]
theorem St.rot {cc : Option Nat} {q : CodeRow} {w0 w : World} {a b c d : List (Nat × TypeId × List Value)} (h : St cc q w0 w (a ++ (b ++ (c ++ d)))) : St cc q w0 w (b ++ ((a ++ c) ++ d)) :=
  h.perm (by
    have h1 : (a ++ (b ++ (c ++ d))).Perm (b ++ (a ++ (c ++ d))) := List.perm_append_comm_assoc _ _ _
    rw [List.append_assoc]
    exact h1.symm)
theorem info_ints : ∃ ie, Tryz.prog.info? 38 = some ie ∧ ie.zero = some (.slice none 0 0) ∧ ie.size = 1 ∧ ie.bytes ≤ 1000000 := by
  cases hie : Tryz.prog.info? 38 with
  | none => have h := zr38; rw [hie] at h; cases h
  | some ie =>
    have h1 := zr38
    have h2 : (Tryz.prog.info? 38).map (fun i => (i.size, Nat.ble i.bytes 1000000)) = some (1, true) := by kernel_rfl
    rw [hie] at h1 h2
    simp at h2
    exact ⟨ie, rfl, h1, h2.1, h2.2⟩
theorem build_ints (v : Value) (hv : v.cells = #[v]) (w : World) : (Instr.buildSlice 62 1 ([(0, v)] : List (Nat × Value)).toArray).run Tryz.prog w = .ok (.slice (some ⟨w.heap.size, 0, none⟩) 1 1) (w.alloc (.cells [v].toArray 38)) :=
  run_slice_cells 62 38 1 (by omega) (by omega) Tryz.underlying62 (by kernel_rfl) [v] rfl (by intro u hu; simp at hu; subst hu; exact hv) w
theorem und_map : Tryz.prog.underlying 61 = some (.map 3 4) := by kernel_rfl
theorem und_int : Tryz.prog.underlying 3 = some (.int .i64) := by kernel_rfl
theorem zero_bool (w : World) : (zeroValue 4).run Tryz.prog w = .ok (.bool false) w := by
  have h := zr4
  cases hie : Tryz.prog.info? 4 with
  | none => rw [hie] at h; cases h
  | some ie => rw [hie] at h; simp at h; simp [zeroValue, typeInfo, hie, h]
theorem OwnRow.cellsOne {E : TypeId} {lr : List (Nat × TypeId × List Value)} {v : Value} {n : Nat} {xs : List Value} (h : OwnRow E 1 lr v n xs) : v.cells = #[v] := by
  obtain ⟨ao, cap, rfl, _, _⟩ := h.form
  rfl
theorem OwnRow.posn {E : TypeId} {lr : List (Nat × TypeId × List Value)} {v : Value} {n : Nat} {xs : List Value} (h : OwnRow E 1 lr v n xs) (hn : 0 < n) : ∃ g cap pre junk, lr = [(g, E, pre ++ (xs ++ junk))] ∧ v = .slice (some ⟨g, pre.length, none⟩) n cap ∧ n ≤ cap ∧ cap ≤ maxLen := by
  obtain ⟨h1, ⟨_, _, h0⟩ | ⟨g, cap, pre, junk, a, b, c, d, _⟩⟩ := h
  · omega
  · exact ⟨g, cap, pre, junk, a, b, c, d⟩
set_option maxHeartbeats 8000000 in
set_option maxRecDepth 100000 in
theorem wt_cycle (w0 : World) (vh vw : Value) (hs ws : List G) (tx : Int) (h1 : GsAt w0 vh hs) (h2 : GsAt w0 vw ws) (hb1 : hs.length ≤ 1000000) (hb2 : ws.length ≤ 1000000) : Calls Tryz.prog 12 #[.agg #[vh, vw], .int .i64 tx] w0 (RowPost (cycF hs ws tx) w0) := by
  have HG1 := Lib.hid h1
  have HG2 := Lib.hid h2
  have HB1 := Lib.hid hb1
  have HB2 := Lib.hid hb2
  obtain ⟨aoh, cph, rfl, hch1, hch2, hath⟩ := h1.get
  obtain ⟨nh, hnh⟩ : ∃ n, n = hs.length := ⟨_, rfl⟩
  rw [← hnh] at HG1 ⊢
  have HNh := Lib.hid hnh
  clear hnh hath h1 hch1 hch2
  obtain ⟨aow, cpw, rfl, hcw1, hcw2, hatw⟩ := h2.get
  obtain ⟨nw, hnw⟩ : ∃ n, n = ws.length := ⟨_, rfl⟩
  rw [← hnw] at HG2 ⊢
  have HNw := Lib.hid hnw
  clear hnw hatw h2 hcw1 hcw2
  clear hb1 hb2
  obtain ⟨ie, hie, hiz, his, hib⟩ := info_int1
  have HIE := Lib.hid hie
  have HIZ := Lib.hid hiz
  have HIS := Lib.hid his
  have HIB := Lib.hid hib
  clear hie hiz his hib
  obtain ⟨je, hie, hiz, his, hib⟩ := info_ints
  have HJE := Lib.hid hie
  have HJZ := Lib.hid hiz
  have HJS := Lib.hid his
  have HJB := Lib.hid hib
  clear hie hiz his hib
  have HS : Hid (St none default w0 w0 []) := St.start w0
  go_enter Tryz.func12, Tryz.ntmps12
  go_wp2_with (first | (refine sx_box HS rfl _ _ rfl [.slice aoh nh cph, .slice aow nw cpw] rfl ?_; clear HS; intro w b2 HS) | (refine sx_loads HS rfl 25 _ rfl 0 _ _ _ rfl 0 rfl 2 sh25 [.slice aoh nh cph, .slice aow nw cpw] rfl ⟨rfl, rfl, trivial⟩ ?_))
  replace HS : Hid (St none default w0 w [(b2, 25, [.slice aoh nh cph, .slice aow nw cpw])]) := HS
  refine (lk_valid w _ _ hs ws (HG1.out.ext HS.out.isExt) (HG2.out.ext HS.out.isExt) HB1.out HB2.out).mono ?_
  rintro e w ⟨he, hx⟩
  replace HS := Lib.hid (HS.out.ext hx)
  clear hx
  cases hval : validT hs ws with
  | false =>
    rw [hval] at he
    subst he
    have hcy : cycF hs ws tx = [] := by unfold cycF; rw [hval]; rfl
    have HCY := Lib.hid hcy
    clear hval hcy
    go_wp2_with fail
    go_ret
    exact ⟨_, [], rfl, HS.out.sub (List.nil_sublist _), by rw [HCY.out]; exact OwnRow.nil⟩
  | true =>
    rw [hval] at he
    subst he
    have hcy : cycF hs ws tx = bfsF (blockF hs ws) tx (univ hs ws tx).length [tx] [[tx]] := by unfold cycF; rw [hval]; rfl
    have HCY := Lib.hid hcy
    have hul : (univ hs ws tx).length ≤ 2000001 := by
      have := HB1.out
      have := HB2.out
      unfold univ
      simp only [List.length_cons, List.length_map, List.length_append]
      omega
    have HUL := Lib.hid hul
    clear hval hcy hul
    obtain ⟨U, hU⟩ : ∃ U, U = univ hs ws tx := ⟨_, rfl⟩
    rw [← hU] at HCY HUL
    have HU := Lib.hid hU
    clear hU
    go_wp2_with (first | (refine sx_makeMap HS rfl 61 rfl ?_; clear HS; intro w mb HS) | (refine sx_putMap HS rfl 61 3 4 _ _ _ (.inr rfl) rfl und_map und_int mb [] [] rfl (fun x hx => by cases hx) rfl tx rfl rfl (by simp) ?_; clear HS; intro w HS) | (refine sx_build HS rfl 38 3 1 [(0, .tmp 17)] rfl [(0, .int .i64 tx)] rfl [.int .i64 tx] (fun w => build_int tx w) ?_; clear HS; intro w b18 HS) | (refine sx_build HS rfl 62 38 1 [(0, .tmp 18)] rfl [(0, .slice (some ⟨b18, 0, none⟩) 1 1)] rfl [.slice (some ⟨b18, 0, none⟩) 1 1] (fun w => build_ints _ rfl w) ?_; clear HS; intro w b19 HS))
    replace HS : Hid (St none (Mq mb [tx]) w0 w ([(b19, 38, [.slice (some ⟨b18, 0, none⟩) 1 1])] ++ ([(b18, 3, [.int .i64 tx])] ++ [(b2, 25, [.slice aoh nh cph, .slice aow nw cpw])]))) := HS
    go_loopg [6] U.length (fun k s6 wr => ∃ (seen : List Int) (queue : List (List Int)) (vs : List Value) (lq L : List (Nat × TypeId × List Value)), Hid (BfInv U k seen queue) ∧ Hid (cycF hs ws tx = bfsF (blockF hs ws) tx k seen queue) ∧ Hid (Link L vs queue) ∧ Hid (OwnRow 38 1 lq s6 vs.length vs) ∧ Hid (St none (Mq mb seen) w0 wr (lq ++ (L ++ [(b2, 25, [.slice aoh nh cph, .slice aow nw cpw])]))))
    case atStart =>
      refine ⟨[tx], [[tx]], [.slice (some ⟨b18, 0, none⟩) 1 1], [(b19, 38, [.slice (some ⟨b18, 0, none⟩) 1 1])], [(b18, 3, [.int .i64 tx])], BfInv.start U tx (by rw [HU.out]; simp [univ]), HCY.out, ⟨rfl, fun i v p hv hp => ?_⟩, ⟨rfl, .inr ⟨b19, 1, [], [], rfl, rfl, Nat.le_refl _, by decide, rfl⟩⟩, HS⟩
      cases i with
      | zero =>
        simp at hv hp
        subst hv hp
        exact ⟨[(b18, 3, [.int .i64 tx])], ⟨rfl, .inr ⟨b18, 1, [], [], rfl, rfl, Nat.le_refl _, by decide, rfl⟩⟩, fun e he => he⟩
      | succ i => simp at hv
    case round =>
      clear HS HCY
      obtain ⟨seen, queue, vs, lq, L, HINV, HCY, HLK, HQ, HS⟩ := hrel
      cases queue with
      | nil =>
        have hv0 : vs = [] := List.eq_nil_of_length_eq_zero HLK.out.1
        subst hv0
        obtain ⟨aq, cq, rfl, _, _⟩ := HQ.out.form
        have HF : Hid (cycF hs ws tx = []) := HCY.out.trans bfsF_end
        clear HQ HCY HINV HLK
        go_wp2_with fail
        go_ret
        exact ⟨_, [], rfl, (HS.out.sub (List.nil_sublist _)).noMaps, by rw [HF.out]; exact OwnRow.nil⟩
      | cons p queue =>
        obtain ⟨v, vs, rfl⟩ : ∃ v vs', vs = v :: vs' := by
          cases vs with
          | nil => have := HLK.out.1; simp at this
          | cons v vs => exact ⟨v, vs, rfl⟩
        obtain ⟨hk0, hinv2, hp0, hps⟩ := HINV.out.pop
        obtain ⟨n, hn⟩ : ∃ n, n = vs.length := ⟨_, rfl⟩
        obtain ⟨m, hm⟩ : ∃ m, m = n + 1 := ⟨_, rfl⟩
        have hq : OwnRow 38 1 lq u6 m (v :: vs) := by rw [hm, hn]; exact HQ.out
        obtain ⟨gq, cq, preq, jq, hlq, rfl, hq1, hq2⟩ := hq.posn (by omega)
        obtain ⟨lq2, hlq2, hown2⟩ := (show OwnRow 38 1 lq (.slice (some ⟨gq, preq.length, none⟩) (n + 1) cq) (n + 1) (v :: vs) by rw [← hm]; exact hq).tail
        rw [← hm] at hown2
        obtain ⟨qv, hqv⟩ : ∃ qv, qv = sliced (some ⟨gq, preq.length, none⟩) 1 m cq 1 := ⟨_, rfl⟩
        rw [← hqv, hn] at hown2
        obtain ⟨lrp, hrp, hmp⟩ := HLK.out.head
        obtain ⟨r, hr⟩ : ∃ r, p.length = r + 1 := ⟨p.length - 1, by omega⟩
        have HRP := Lib.hid hrp
        rw [hr] at hrp
        obtain ⟨gp, cp, prep, jp, hlrp, rfl, hp1, hp2⟩ := hrp.posn (by omega)
        obtain ⟨x, hx⟩ := list_get_of_lt p r (r + 1) hr (by omega)
        have hl := HUL.out
        have hsl := HINV.out.seenLen
        have hm1 : 1 ≤ m := by omega
        have hr2 : r ≤ 2000001 := by omega
        have hm2 : m ≤ cq := by omega
        have hcq : cq ≤ 9223372036854775807 := hq2
        have hcp1 : r + 1 ≤ cp := by omega
        have hcp2 : cp ≤ 9223372036854775807 := hp2
        obtain ⟨oq, hoq⟩ : ∃ oq, oq = preq.length := ⟨_, rfl⟩
        obtain ⟨op, hop⟩ : ∃ op, op = prep.length := ⟨_, rfl⟩
        rw [← hoq] at hqv ⊢
        rw [← hop] at HRP HLK hrp hlq
        skip
        have HK0 := Lib.hid hk0
        have HINV2 := Lib.hid hinv2
        have HPS := Lib.hid hps
        have HN := Lib.hid hn
        have HM := Lib.hid hm
        have HLQ := Lib.hid hlq
        have HLQ2 := Lib.hid hlq2
        have HOWN := Lib.hid hown2
        have HQV := Lib.hid hqv
        have HMP := Lib.hid hmp
        have HR := Lib.hid hr
        have HLRP := Lib.hid hlrp
        have HX := Lib.hid hx
        have HOQ := Lib.hid hoq
        have HOP := Lib.hid hop
        clear hk0 hinv2 hps hn hm hlq hlq2 hown2 hqv hmp hr hlrp hx hoq hop HQ hq hq1 hq2 hp1 hp2 hrp hl hsl hp0
        have HG0 : Hid ((lq ++ (L ++ [(b2, 25, [.slice aoh nh cph, .slice aow nw cpw])]))[0]? = some (gq, 38, preq ++ ((.slice (some ⟨gp, op, none⟩) (r + 1) cp :: vs) ++ jq))) := Lib.hid (by rw [HLQ.out]; first | rfl | (rw [← HOP.out]; rfl) | (rw [HOP.out]; rfl))
        have HGV : Hid ((preq ++ ((.slice (some ⟨gp, op, none⟩) (r + 1) cp :: vs) ++ jq))[oq]? = some (.slice (some ⟨gp, op, none⟩) (r + 1) cp)) := Lib.hid (by rw [HOQ.out]; simp)
        go_wp2_with fail
        go_step3
        go_wp2_with (first | (refine sx_load HS rfl 38 _ rfl 0 _ _ _ HG0.out oq rfl _ sh38 (.slice (some ⟨gp, op, none⟩) (r + 1) cp) HGV.out ?_) | (refine sx_run rfl qv (run_sl_lo (n := m) (s := 1) rfl Tryz.underlying62 (by kernel_rfl) rfl rfl hm1 HQV.out) ?_))
        replace HS := Lib.hid (HS.out.sub (HLQ2.out.append (List.Sublist.refl _)))
        have HE : Hid ((gp, 3, prep ++ (p.map iV ++ jp)) ∈ L) := Lib.hid (HMP.out _ (by rw [HLRP.out]; simp))
        have HXV : Hid ((prep ++ (p.map iV ++ jp))[op + r]? = some (.int .i64 x)) := Lib.hid (by
          have hlt := (List.getElem?_eq_some_iff.1 HX.out).1
          rw [HOP.out, List.getElem?_append_right (by omega), Nat.add_sub_cancel_left, List.getElem?_append_left (by rw [List.length_map]; exact hlt), List.getElem?_map, HX.out]
          rfl)
        refine hg_begin [(gp, 3, prep ++ (p.map iV ++ jp)), (b2, 25, [.slice aoh nh cph, .slice aow nw cpw])] HS (by kernel_rfl) ?_
        clear HS; intro w HS
        refine hg_loads 0 (some 28) rfl rfl (by kernel_rfl) (by kernel_rfl) (by kernel_rfl) (fun _ _ _ _ h => h) HS (((List.singleton_sublist.2 HE.out).append (List.Sublist.refl _)).trans (List.sublist_append_right lq2 _)) rfl 25 _ rfl 1 _ _ _ rfl 0 rfl 2 sh25 [.slice aoh nh cph, .slice aow nw cpw] rfl ⟨rfl, rfl, trivial⟩ ?_
        try simp only [Act.put, List.setIfInBounds_toArray, List.set_cons_zero, List.set_cons_succ]
        refine hg_reg 1 (some 29) rfl rfl (by kernel_rfl) (by kernel_rfl) (by kernel_rfl) (fun _ _ _ _ h => h) HS (((List.singleton_sublist.2 HE.out).append (List.Sublist.refl _)).trans (List.sublist_append_right lq2 _)) (.slice (some ⟨gp, op, none⟩) (r + 1) cp) rfl (fun _ => by rfl) ?_
        try simp only [Act.put, List.setIfInBounds_toArray, List.set_cons_zero, List.set_cons_succ]
        refine hg_reg 2 (some 30) rfl rfl (by kernel_rfl) (by kernel_rfl) (by kernel_rfl) (fun _ _ _ _ h => h) HS (((List.singleton_sublist.2 HE.out).append (List.Sublist.refl _)).trans (List.sublist_append_right lq2 _)) (.slice (some ⟨gp, op, none⟩) (r + 1) cp) rfl (fun _ => by rfl) ?_
        try simp only [Act.put, List.setIfInBounds_toArray, List.set_cons_zero, List.set_cons_succ]
        refine hg_reg 3 (some 31) rfl rfl (by kernel_rfl) (by kernel_rfl) (by kernel_rfl) (fun _ _ _ _ h => h) HS (((List.singleton_sublist.2 HE.out).append (List.Sublist.refl _)).trans (List.sublist_append_right lq2 _)) (.int .i64 ((r : Int) + 1)) rfl (fun _ => by go_simp) ?_
        try simp only [Act.put, List.setIfInBounds_toArray, List.set_cons_zero, List.set_cons_succ]
        refine hg_reg 4 (some 32) rfl rfl (by kernel_rfl) (by kernel_rfl) (by kernel_rfl) (fun _ _ _ _ h => h) HS (((List.singleton_sublist.2 HE.out).append (List.Sublist.refl _)).trans (List.sublist_append_right lq2 _)) (.int .i64 (r : Int)) rfl (fun _ => by go_simp; first | done | go_num | (simp [IntKind.wrap, IntKind.bits, IntKind.signed]; omega) | (simp [IntKind.wrap, IntKind.bits]; omega)) ?_
        try simp only [Act.put, List.setIfInBounds_toArray, List.set_cons_zero, List.set_cons_succ]
        refine hg_reg 5 (some 33) rfl rfl (by kernel_rfl) (by kernel_rfl) (by kernel_rfl) (fun _ _ _ _ h => h) HS (((List.singleton_sublist.2 HE.out).append (List.Sublist.refl _)).trans (List.sublist_append_right lq2 _)) (.pointer (some ⟨gp, op + r, none⟩)) rfl (fun _ => by go_simp; intro h; exact absurd h (by omega)) ?_
        try simp only [Act.put, List.setIfInBounds_toArray, List.set_cons_zero, List.set_cons_succ]
        refine hg_load 6 (some 34) rfl rfl (by kernel_rfl) (by kernel_rfl) (by kernel_rfl) (fun _ _ _ _ h => h) HS (((List.singleton_sublist.2 HE.out).append (List.Sublist.refl _)).trans (List.sublist_append_right lq2 _)) rfl 3 _ rfl 0 _ _ _ rfl (op + r) rfl _ sh3 (.int .i64 x) HXV.out ?_
        try simp only [Act.put, List.setIfInBounds_toArray, List.set_cons_zero, List.set_cons_succ]
        refine hk_x1 7 (by kernel_rfl) ?_
        refine hg_callR 7 (some 35) rfl rfl rfl HS (((List.singleton_sublist.2 HE.out).append (List.Sublist.refl _)).trans (List.sublist_append_right lq2 _)) 22 _ _ rfl Tryz.func22 (by kernel_rfl) rfl [.agg #[.slice aoh nh cph, .slice aow nw cpw], .int .i64 x] (fun v lr => OwnRow 3 1 lr v (blockF hs ws x).length ((blockF hs ws x).map iV)) ((wt_blockers w _ _ hs ws x (HG1.out.ext HS.out.isExt) (HG2.out.ext HS.out.isExt) HB1.out HB2.out).mono (fun e w1 h => by obtain ⟨v, lr, rfl, h1, h2⟩ := h; exact ⟨v, lr, rfl, h2, HS.out.call h1⟩)) rfl ?_
        clear HS; intro nv w lr3 hr3 HS
        have HR3 := Lib.hid hr3
        clear hr3
        try simp only [Act.put, List.setIfInBounds_toArray, List.set_cons_zero, List.set_cons_succ]
        refine hg_reg 8 (some 8) rfl rfl (by kernel_rfl) (by kernel_rfl) (by kernel_rfl) (fun _ _ _ _ h => h) HS (List.Sublist.trans (((List.singleton_sublist.2 HE.out).append (List.Sublist.refl _)).trans (List.sublist_append_right lq2 _)) (List.sublist_append_right lr3 _)) (nv) rfl (fun _ => by rfl) ?_
        try simp only [Act.put, List.setIfInBounds_toArray, List.set_cons_zero, List.set_cons_succ]
        refine hk_done (by kernel_rfl) ?_
        replace HS := Lib.hid HS.out.rot
        have HLX : Hid (lastI p = x) := Lib.hid (lastI_eq (by rw [HR.out]; exact HX.out))
        obtain ⟨ns, hns⟩ : ∃ ns, ns = blockF hs ws x := ⟨_, rfl⟩
        rw [← hns] at HR3
        have HNS := Lib.hid hns
        clear hns
        have HIN : Hid (IsAt w nv ns) := Lib.hid (IsAt.own HS.out (fun e he => by simp [he]) HR3.out)
        have hnl : ns.length ≤ 2000000 := by
          have h1 := blockF_len hs ws x
          have := HB1.out
          have := HB2.out
          rw [HNS.out]
          omega
        have HNL := Lib.hid hnl
        clear hnl
        go_wp2_with fail
        refine (ints_contains w nv ns tx HIN.out).mono ?_
        rintro e w2 ⟨he, rfl⟩
        cases hct : ns.contains tx with
        | true =>
          rw [hct] at he
          subst he
          have HF : Hid (cycF hs ws tx = p) := Lib.hid (HCY.out.trans (bfsF_hit HK0.out (by rw [HLX.out, ← HNS.out]; exact hct)))
          clear hct
          go_wp2_with fail
          go_ret
          refine ⟨_, lrp, rfl, (HS.out.sub ?_).noMaps, by rw [HF.out]; exact HRP.out⟩
          rw [HLRP.out]
          exact List.singleton_sublist.2 (by simp [HE.out])
        | false =>
          rw [hct] at he
          subst he
          have HF : Hid (cycF hs ws tx = bfsF (blockF hs ws) tx (gk - 1) (nbF p ns seen queue).1 (nbF p ns seen queue).2) := Lib.hid (by have h := HCY.out.trans (bfsF_on HK0.out (by rw [HLX.out, ← HNS.out]; exact hct)); rw [HLX.out, ← HNS.out] at h; exact h)
          have HUS : Hid (∀ y ∈ ns, y ∈ U) := Lib.hid (fun y hy => by rw [HU.out]; rw [HNS.out] at hy; exact List.mem_cons_of_mem _ (blockF_sub hy))
          clear hct HIN
          obtain ⟨an, cn, rfl, hcn1, hcn2⟩ := HR3.out.form
          obtain ⟨nn, hnn⟩ : ∃ nn, nn = ns.length := ⟨_, rfl⟩
          rw [← hnn] at HR3 hcn1 HNL ⊢
          have HNN := Lib.hid hnn
          have hnl := HNL.out
          clear hnn
          have hcn3 : cn ≤ 9223372036854775807 := hcn2
          clear hcn2
          have HMP2 : Hid (∀ e ∈ lrp ++ lr3, e ∈ lr3 ++ L) := Lib.hid (fun e he => by
            rcases List.mem_append.1 he with h | h
            · exact List.mem_append_right _ (HMP.out e h)
            · exact List.mem_append_left _ h)
          have HLK2 : Hid (Link (lr3 ++ L) vs queue) := Lib.hid (HLK.out.tail.mono (fun e he => List.mem_append_right _ he))
          go_wp2_with fail
          try go_step3
          try go_wp2_with fail
          try go_step3
          try go_wp2_with fail
          obtain ⟨wo, hwo⟩ : ∃ wo : World, wo = w2 := ⟨_, rfl⟩
          subst hwo
          go_loopw [6, 42] (fun s6 s42 wr => ∃ (j : Nat) (sn : List Int) (qu : List (List Int)) (us : List Value) (lq L : List (Nat × TypeId × List Value)), j ≤ nn ∧ s42 = .int .i64 j ∧ Hid (BfInv U (gk - 1) sn qu) ∧ Hid (nbF p ns seen queue = nbF p (ns.drop j) sn qu) ∧ Hid (p.length ≤ sn.length) ∧ Hid (Link L us qu) ∧ Hid (∀ e ∈ lrp ++ lr3, e ∈ L) ∧ Hid (OwnRow 38 1 lq s6 us.length us) ∧ Hid (St none (Mq mb sn) w0 wr (lq ++ (L ++ [(b2, 25, [.slice aoh nh cph, .slice aow nw cpw])])))) (fun _ s42 _ => nn - (intOf s42).toNat)
          case atStart => exact ⟨0, seen, queue, vs, lq2, lr3 ++ L, Nat.zero_le _, rfl, HINV2, rfl, HPS, HLK2, HMP2, HOWN, HS⟩
          case round =>
            clear HS HLK2 HMP2
            obtain ⟨j, sn, qu, us, lqi, Li, hj, rfl, HIV, HNB, HPL, HLI, HME, HOI, HS⟩ := hrel
            by_cases hlt : j < nn
            · obtain ⟨y, hy⟩ := list_get_of_lt ns j nn HNN.out.symm hlt
              obtain ⟨_, cap5, ev, _, _, hat5⟩ := (IsAt.own (ns := ns) HS.out (fun e he => List.mem_append_right _ (List.mem_append_left _ (HME.out e (List.mem_append_right _ he)))) (by rw [← HNN.out]; exact HR3.out)).get
              obtain ⟨gn, on, ha5, hc5⟩ := hat5 (by rw [← HNN.out]; omega)
              cases ev
              subst ha5
              have hc := hc5 j y hy wr (Ext.refl _)
              have HY := Lib.hid hy
              clear hc5 hy hat5
              have HDR : Hid (ns.drop j = y :: ns.drop (j + 1)) := Lib.hid (by
                obtain ⟨h1, h2⟩ := List.getElem?_eq_some_iff.1 HY.out
                rw [← h2]
                exact List.drop_eq_getElem_cons h1)
              cases hsc : sn.contains y with
              | true =>
                have HSC := Lib.hid hsc
                clear hsc
                have HNB2 : Hid (nbF p ns seen queue = nbF p (ns.drop (j + 1)) sn qu) := Lib.hid (by rw [HNB.out, HDR.out, nbF_seen HSC.out])
                go_wp2_with ((refine sx_lookMap HS rfl 61 3 4 _ _ rfl und_map und_int zero_bool mb sn (by simp [Mq, CodeRow.withMaps]) rfl y rfl true HSC.out ?_))
                go_roundw
                case rel => exact ⟨j + 1, sn, qu, us, lqi, Li, by omega, by go_num, HIV, HNB2, HPL, HLI, HME, HOI, HS⟩
                case measure => simp [intOf]; omega
              | false =>
                have HSC := Lib.hid hsc
                have HNI : Hid (y ∉ sn) := Lib.hid (by simpa using hsc)
                clear hsc
                have HNB2 : Hid (nbF p ns seen queue = nbF p (ns.drop (j + 1)) (sn ++ [y]) (qu ++ [p ++ [y]])) := Lib.hid (by rw [HNB.out, HDR.out, nbF_new HSC.out])
                have HIV2 : Hid (BfInv U (gk - 1) (sn ++ [y]) (qu ++ [p ++ [y]])) := Lib.hid (HIV.out.push HNI.out (HUS.out y (List.mem_of_getElem? HY.out)) HPL.out)
                have hul := us.length
                clear hul
                have hus : us.length ≤ 2000001 := by have h1 := HLI.out.1; have h2 := HIV.out.queueLen; have h3 := HUL.out; omega
                go_wp2_with (first | (refine sx_lookMap HS rfl 61 3 4 _ _ rfl und_map und_int zero_bool mb sn (by simp [Mq, CodeRow.withMaps]) rfl y rfl false HSC.out ?_) | (refine sx_putMap HS rfl 61 3 4 _ _ _ (.inl rfl) rfl und_map und_int mb sn [] rfl (fun x hx => by cases hx) rfl y rfl rfl HNI.out ?_; clear HS hc; intro w HS))
                replace HS : Hid (St none (Mq mb (sn ++ [y])) w0 w (lqi ++ (Li ++ [(b2, 25, [.slice aoh nh cph, .slice aow nw cpw])]))) := HS
                refine (ints_clone w _ p (IsAt.own (ns := p) HS.out (fun e he => List.mem_append_right _ (List.mem_append_left _ (HME.out e (List.mem_append_left _ he)))) HRP.out) (by rw [HR.out]; omega) (by rw [HR.out]; omega)).mono ?_
                rintro e w3 ⟨cv, lrc, rfl, hst, hcl⟩
                replace HS := Lib.hid (HS.out.call hst)
                rw [HR.out] at hcl
                have HCL := Lib.hid hcl
                clear hst hcl
                have tok1 : True := trivial
                go_wp2_with (first | (refine sx_build HS rfl 38 3 1 [(0, .tmp 54)] rfl [(0, .int .i64 y)] rfl [.int .i64 y] (fun w => build_int y w) ?_; clear HS; intro w b55 HS) | (have _t := tok1; at_builtin; refine sx_appendO (front := [(b55, 3, [.int .i64 y])]) (lr := lrc) (ll := lqi ++ (Li ++ [(b2, 25, [.slice aoh nh cph, .slice aow nw cpw])])) HS rfl _ _ 38 rfl 3 ie _ 1 _ Tryz.underlying38 HIE.out HIZ.out HIS.out rfl rfl _ (r + 1) (p.map iV) rfl HCL.out _ rfl 1 [.int .i64 y] (SrcAt.box (HS.out.box (i := 0) rfl) rfl rfl) (by unfold maxLen; omega) (Nat.le_trans (Nat.mul_le_mul (show r + 1 + 1 ≤ 2000003 by omega) HIB.out) (by decide)) ?_; clear HS HCL tok1; intro pv w lrd HS HPV; rw [← List.append_assoc] at HS; have HPC := Lib.hid HPV.out.cellsOne) | (refine sx_build HS rfl 62 38 1 [(0, .tmp 56)] rfl [(0, pv)] rfl [pv] (fun w => build_ints pv HPC.out w) ?_; clear HS; intro w b57 HS) | (at_builtin; refine sx_appendO (front := (b57, 38, [pv]) :: ([(b55, 3, [.int .i64 y])] ++ lrd)) (lr := lqi) (ll := Li ++ [(b2, 25, [.slice aoh nh cph, .slice aow nw cpw])]) HS rfl _ _ 62 rfl 38 je _ 1 _ Tryz.underlying62 HJE.out HJZ.out HJS.out rfl rfl _ us.length us rfl HOI.out _ rfl 1 [pv] (SrcAt.box (HS.out.box (i := 0) rfl) rfl (by simp [HPV.out.one])) (by unfold maxLen; omega) (Nat.le_trans (Nat.mul_le_mul (show us.length + 1 ≤ 2000003 by omega) HJB.out) (by decide)) ?_; clear HS; intro qv2 w lqe HS HQE))
                replace HS := Lib.hid (HS.out.drop 2)
                replace HS : Hid (St none (Mq mb (sn ++ [y])) w0 w (lrd ++ (lqe ++ (Li ++ [(b2, 25, [.slice aoh nh cph, .slice aow nw cpw])])))) := HS
                replace HS := Lib.hid HS.out.rot
                have HLI2 : Hid (Link (lrd ++ Li) (us ++ [pv]) (qu ++ [p ++ [y]])) := Lib.hid (HLI.out.push (by
                  have h := HPV.out
                  rw [List.length_append, HR.out, List.map_append]
                  exact h))
                have HQE2 : Hid (OwnRow 38 1 lqe qv2 (us ++ [pv]).length (us ++ [pv])) := Lib.hid (by rw [List.length_append]; exact HQE.out)
                clear HQE HPV HPC
                go_roundw
                case rel => exact ⟨j + 1, sn ++ [y], qu ++ [p ++ [y]], us ++ [pv], lqe, lrd ++ Li, by omega, by go_num, HIV2, HNB2, Lib.hid (by rw [List.length_append]; have := HPL.out; omega), HLI2, Lib.hid (fun e he => List.mem_append_right _ (HME.out e he)), HQE2, HS⟩
                case measure => simp [intOf]; omega
            · have hjn : j = nn := by omega
              subst hjn
              have hnb : nbF p ns seen queue = (sn, qu) := by rw [HNB.out, List.drop_of_length_le (by rw [← HNN.out]; exact Nat.le_refl _)]; rfl
              have HF2 : Hid (cycF hs ws tx = bfsF (blockF hs ws) tx (gk - 1) sn qu) := Lib.hid (by rw [HF.out, hnb])
              clear hnb
              go_wp2_with fail
              simp only [Exit.noGoto_normal]
              go_wp2_with fail
              go_roundg (gk - 1)
              case measure => have := HK0.out; omega
              case rel => exact ⟨sn, qu, us, lqi, Li, HIV, HF2, HLI, HOI, HS⟩
end Go.Proofs.YtnfkplohpjfocaaGreat
