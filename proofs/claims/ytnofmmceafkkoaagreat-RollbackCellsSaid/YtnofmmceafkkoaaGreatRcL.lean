/-
  Contracts: slices.DeleteFunc at the closure of rollback.undo.
-/
import Derived.Test.YtnofmmceafkkoaaGreatRcK
import Derived.Test.YtnofmmceafkkoaaGreatShelfD
set_option linter.unusedVariables false
set_option linter.unusedSimpArgs false
set_option maxRecDepth 100000
namespace Go.Proofs.YtnofmmceafkkoaaGreat
open Go.RowKit Go.Sort Go.Lib
theorem undo1_gives (l x : Int) (B o : Nat) (W : World) (hc : W.cell? ⟨B, o, none⟩ = some (.int .i64 l)) :
    FnGives Tryz.prog 90 #[.pointer (some ⟨B, o, none⟩)] #[.int .i64 x] (.bool (decide (x = l))) W := by
  show Calls Tryz.prog 90 #[.int .i64 x, .pointer (some ⟨B, o, none⟩)] W _
  go_enter Tryz.func90, Tryz.ntmps90
  go_wp2
  all_goals (go_ret; exact ⟨by simp_all; rfl, 0, rfl⟩)
def fnCap (f0 : Bid) : AC → Option Bid
  | .fn f [] [(id, 0)] => bif decide (f = f0) then some id else none
  | _ => none
theorem fnCap_ok {f0 : Bid} {c : AC} {id : Bid} (h : fnCap f0 c = some id) : c = .fn f0 [] [(id, 0)] := by
  unfold fnCap at h
  split at h
  · rename_i f id'
    cases hd : decide (f = f0) with
    | false => rw [hd] at h; cases h
    | true =>
      rw [hd] at h
      cases h
      rw [of_decide_eq_true hd]
  · cases h
def headN (o : Option AB) : Option (IntKind × Nm) := match o with
  | some (.cells (x :: _)) => nmI x
  | _ => none
theorem filter_erase : ∀ {ns : List Int} {k : Nat} {x : Int}, ns.Pairwise (· < ·) → ns[k]? = some x → (ns.filter fun n => !decide (n = x)) = ns.eraseIdx k
  | [], k, x, hp, h => by simp at h
  | n :: ns, 0, x, hp, h => by
    simp at h
    subst h
    rw [List.pairwise_cons] at hp
    rw [List.filter_cons_of_neg (by simp), List.eraseIdx_cons_zero, List.filter_eq_self]
    intro m hm
    have := hp.1 m hm
    simp; omega
  | n :: ns, k + 1, x, hp, h => by
    rw [List.pairwise_cons] at hp
    have h' : ns[k]? = some x := by simpa using h
    have := hp.1 x (List.mem_of_getElem? h')
    rw [List.filter_cons_of_pos (by simp; omega), List.eraseIdx_cons_succ, filter_erase hp.2 h']
noncomputable def natDF (F : List Fc) (call : CallF) (f : Bid) (vs : List AV) (h : Hp) : RO := match vs with
  | [.c (.sr id e q), .c c] => match fnCap ⟨.x0, .x5, .xa⟩ c with
    | some id2 => match headN (h.get id2) with
      | some t => match fdAt F q t.2 with
        | some a => br ((decide (e = shI) && isI64 t.1) && (rowIs (h.get id) e q && decide (id2 ≠ id))) (.ok (.c (.ds e (.f2 1404 q a))) (h.drop id))
        | none => .no
      | none => .no
    | none => .no
  | _ => call f vs h
theorem natDF_ok {F : List Fc} {call : CallF} (hC : CallOk Tryz.prog (envR F) call) : EntOk Tryz.prog (envR F) ⟨.x0, .x5, .x8⟩ (.natm (natDF F call ⟨.x0, .x5, .x8⟩)) := by
  refine ⟨fun args w => enter_run Tryz.func88 (by kernel_rfl) rfl args w, ?_⟩
  intro vs v h h' hv ρ φ w us he hr hu
  have hp : StdF ρ ∧ ∀ f ∈ F, f.holds QR ρ := envR_prop he
  have hv' : natDF F call ⟨.x0, .x5, .x8⟩ vs h = .ok v h' := hv
  unfold natDF at hv'
  split at hv'
  · rename_i id e q c
    split at hv'
    · rename_i id2 hid2
      split at hv'
      · rename_i t ht
        split at hv'
        · rename_i a ha
          obtain ⟨hb, hv2⟩ := br_ok hv'
          simp only [Bool.and_eq_true, decide_eq_true_eq] at hb
          obtain ⟨⟨rfl, k1⟩, k2, k3⟩ := hb
          cases hv2
          obtain ⟨hk0, hk1, m, hl, hm, ns, hns, hpw, hbd⟩ := fdAt_ok hp.2 ha
          have hlen : ns.length ≤ 4000 := by rw [hns, List.length_map] at hl; exact hl
          have hget : h.get id = some (.row shI q) := by
            unfold rowIs at k2
            split at k2
            · rename_i e' q' heq
              rw [Bool.and_eq_true, decide_eq_true_eq, decide_eq_true_eq] at k2
              obtain ⟨rfl, rfl⟩ := k2
              exact heq
            · cases k2
          obtain ⟨k, hk⟩ := Int.eq_ofNat_of_zero_le hk0
          rw [hk, Int.toNat_natCast, hns, List.getElem?_map] at hk1
          have hnk : ns[k]? = some (ρ.i t.2) := by
            cases hq : ns[k]? with
            | none => rw [hq] at hk1; cases hk1
            | some y => rw [hq] at hk1; cases hk1; rfl
          have hkl : k < ns.length := (List.getElem?_eq_some_iff.1 hnk).1
          cases hu with
          | @cons _ v1 _ _ x1 t1 =>
            cases t1 with
            | @cons _ v2 _ _ x2 t2 =>
              cases t2
              have hfn := fnCap_ok hid2
              subst hfn
              obtain ⟨xs, ys, rfl, p1, p2⟩ := x2
              cases p1
              cases p2 with
              | cons p3 p4 =>
              cases p4
              obtain ⟨B, bs, tt, hB, rfl⟩ := p3
              obtain ⟨b, tot, cap, g1, rfl, g2, g3, g4⟩ := x1
              rw [show ρ.d q = nsD ns from hns, show (nsD ns).length = ns.length from List.length_map ..] at g2 ⊢
              obtain ⟨b', arr, T, q1, q2, q3⟩ := hr.rows id shI q hget
              rw [g1] at q1
              cases q1
              rw [show ρ.d q = nsD ns from hns] at q3
              have hcells : ∀ (j : Nat) (x : Int), ns[j]? = some x → arr[j]? = some (.int .i64 x) := fun j x hj => by
                have := q3.2 j [DV.i x] (by unfold nsD; rw [List.getElem?_map, hj]; rfl)
                obtain ⟨n', l', vs', a1, a2, a3⟩ := this
                cases a1
                rw [show shI.len = 1 from rfl, Nat.mul_one] at a2
                have h7 : ((arr.toList.drop j).take 1)[0]? = some (Value.int .i64 x) := by rw [a2]; rfl
                rw [List.getElem?_take_of_lt (by decide), List.getElem?_drop, Nat.add_zero] at h7
                rw [← Array.getElem?_toList]; exact h7
              have harr : ns.length ≤ arr.size := by
                have := q3.1
                rw [show (nsD ns).length = ns.length from List.length_map .., show shI.len = 1 from rfl] at this
                omega
              have hfz : ∀ o, w.frozen? ⟨b, o, none⟩ = false := fun o => by simp [World.frozen?, q2]
              obtain ⟨x, l, hcs, hnx⟩ : ∃ x l, h.get id2 = some (.cells (x :: l)) ∧ nmI x = some t := by
                unfold headN at ht
                split at ht
                · rename_i x l heq; exact ⟨x, l, heq, ht⟩
                · cases ht
              obtain ⟨B', bs', arr', T', r1, r2, r3, r4⟩ := hr.cells id2 _ hcs
              have hB2 := hB
              rw [r1] at hB2
              cases hB2
              obtain ⟨u, r5, r6⟩ := r4 0 x rfl
              have hu1 := nmI_ok hp.1.toStdA hnx r6
              rw [isI64_eq k1] at hu1
              have hcell : w.cell? ⟨B, bs + 0, none⟩ = some (.int .i64 (ρ.i t.2)) := by
                rw [cell_of_row w _ _ _ _ _ r2, r5, hu1]
              have hBl : B < w.heap.size := (Array.getElem?_eq_some_iff.1 r2).1
              have hne : B ≠ b := fun e => k3 (hr.inj id2 id _ _ (by rw [hcs]; rfl) (by rw [hget]; rfl) r1 g1 e)
              have hpa : PredAt Tryz.prog 90 #[.pointer (some ⟨B, bs + 0, none⟩)] (Value.int .i64) (fun x => decide (x = ρ.i t.2)) w := fun W x hb => undo1_gives _ x B _ W ((hb.cell (p := ⟨B, bs + 0, none⟩) hBl).trans hcell)
              have hpo : PredOver Tryz.prog 90 #[.pointer (some ⟨B, bs + 0, none⟩)] (Value.int .i64) (fun x => decide (x = ρ.i t.2)) b 0 ns.toArray.size w := fun n os dk x _ => undo1_gives _ x B _ _ (by
                unfold sortWorld
                rw [cell?_grow _ _ _ (by show B < (putRow _ _ _ _ _).heap.size; rw [size_putRow]; exact hBl), cell?_putRow_other _ _ b 0 _ _ (Or.inl hne)]
                exact hcell)
              have hcon := AnyE.slices_DeleteFunc Tryz.l10 (Value.int .i64) (fun _ => rfl) (fun x => decide (x = ρ.i t.2)) 90 #[.pointer (some ⟨B, bs + 0, none⟩)] (fun args w => enter_run Tryz.func90 (by kernel_rfl) rfl args w) 0 (fun w => Tryz.zeroValue3 w) b 0 cap ns.toArray w hpa hpo
                (fun j hj => by
                  rw [List.size_toArray] at hj
                  refine ⟨?_, hfz _⟩
                  rw [cell_of_row w _ _ _ _ _ q2, Nat.zero_add, hcells j ns[j] (List.getElem?_eq_getElem hj)]
                  rw [getElem!_pos ns.toArray j (by simpa using hj)]
                  simp) (by rw [List.size_toArray]; omega) (by rw [List.size_toArray]; exact g2)
              rw [List.size_toArray] at hcon
              refine Calls.mono hcon ?_
              have e5 : ns.length - 1 = (ns.eraseIdx k).length := by rw [List.length_eraseIdx, if_pos hkl]
              rintro en w' ⟨rfl, nq, rfl⟩
              rw [show (ns.toArray.toList.filter fun x => !decide (x = ρ.i t.2)) = ns.eraseIdx k from filter_erase hpw hnk]
              have hd : ρ.d (.f2 1404 q a) = nsD (ns.eraseIdx k) := by
                rw [hp.1.del, hk, show ρ.d q = nsD ns from hns]
                show (nsD ns).eraseIdx k = _
                unfold nsD
                rw [List.eraseIdx_eq_take_drop_succ, List.eraseIdx_eq_take_drop_succ, List.map_append, List.map_take, List.map_drop]
              generalize hdd : ((ns.eraseIdx k) ++ List.replicate (ns.length - (ns.eraseIdx k).length) (0 : Int)).toArray = dd
              have hdsz : dd.size = ns.length := by rw [← hdd]; simp; omega
              have hobj : (putRow (Value.int .i64) (Sort.ahead w nq) b 0 dd).heap[b]? = some (.cells (putCells (Value.int .i64) 0 dd arr) T (0, 0)) := by
                show (w.heap.modify b (onCells _))[b]? = _
                rw [Array.getElem?_modify, if_pos rfl, q2]; rfl
              refine ⟨_, _, rfl, ?_, row_freeze hr (by rw [hget]; rfl) g1 hobj (by show (w.heap.modify b _).size = _; rw [Array.size_modify]) (fun c hc => ?_) rfl rfl rfl⟩
              · show SlD _ shI (ρ.d (.f2 1404 q a)) _
                rw [hd]
                refine ⟨_, cap, by rw [show (nsD (ns.eraseIdx k)).length = (ns.eraseIdx k).length from List.length_map ..], ?_, .inr ⟨b, 0, putCells (Value.int .i64) 0 dd arr, T, (0, 0), rfl, ?_, fun i row hrow => ?_⟩⟩
                · rw [show (nsD (ns.eraseIdx k)).length = (ns.eraseIdx k).length from List.length_map ..]; omega
                · show (if b = b then _ else _) = _
                  rw [if_pos rfl]
                · obtain ⟨m', hm', rfl⟩ := nsD_get hrow
                  have hi : i < (ns.eraseIdx k).length := (List.getElem?_eq_some_iff.1 hm').1
                  have hi2 : i < arr.size := by omega
                  have hc : (putCells (Value.int .i64) 0 dd arr).toList[i]? = some (.int .i64 m') := by
                    rw [Array.getElem?_toList]
                    unfold putCells
                    rw [Array.getElem?_mapIdx, Array.getElem?_eq_getElem hi2, Option.map_some, if_pos (by omega)]
                    congr 2
                    rw [Nat.sub_zero, getElem!_pos dd i (by omega)]
                    have : dd[i]? = some m' := by
                      rw [← hdd, List.getElem?_toArray, List.getElem?_append_left (by omega)]
                      exact hm'
                    exact (Array.getElem?_eq_some_iff.1 this).2
                  rw [Nat.zero_add, show shI.len = 1 from rfl, show i * 1 = i * shI.len from rfl, take1 hc]
                  exact rowD_int _ _
              · show (w.heap.modify b _)[c]? = _
                rw [Array.getElem?_modify, if_neg (fun e => hc e.symm)]
        · cases hv'
      · cases hv'
    · cases hv'
  · exact (hC _ vs h v h' hv').2 ρ φ w us he hr hu
end Go.Proofs.YtnofmmceafkkoaaGreat
