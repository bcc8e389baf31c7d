/-
  KernelPlays: contracts of waits.blockers, Cycle, For.
-/
import Derived.Test.YtgjindhjgmplgaaGreatKzN
import Derived.Test.YtgjindhjgmplgaaGreatShelf
set_option linter.unusedVariables false
set_option linter.unusedSimpArgs false
section
set_option maxRecDepth 100000
namespace Go.Proofs.YtgjindhjgmplgaaGreat
open Wp
abbrev iV (n : Int) : Value := .int .i64 n
theorem row_i1 {z : Fz} {n : Int} {vs : List Value} : RowD z shInt (i1R n) vs ↔ vs = [iV n] := by
  simp only [RowD, CellD, i1R]
  constructor
  · rintro ⟨d, r', v, vs', h1, rfl, ⟨m, rfl, rfl⟩, rfl, rfl⟩
    cases h1; rfl
  · rintro rfl
    exact ⟨_, _, _, _, rfl, rfl, ⟨_, rfl, rfl⟩, rfl, rfl⟩
theorem isR_at {z : Fz} {arr : Array Value} {off : Nat} {ns : List Int} (h : ∀ (i : Nat) row, (isR ns)[i]? = some row → RowD z shInt row ((arr.toList.drop (off + i * shInt.length)).take shInt.length)) {j : Nat} {x : Int} (hj : ns[j]? = some x) : arr[off + j]? = some (iV x) := by
  have h1 := row_i1.1 (h j (i1R x) (by unfold isR; rw [List.getElem?_map, hj]; rfl))
  have h2 := congrArg (fun l => l[0]?) h1
  simpa using h2
theorem put_isR {z : Fz} {w : World} {b off cap n : Nat} {arr : Array Value} {T : TypeId} {ns l : List Int} (hl : l.length = ns.length) (hle : ns.length ≤ cap) (hsz : off + cap * shInt.length ≤ arr.size) (hb : w.heap[b]? = some (.cells arr T (0, 0))) :
    (∃ arr', (Go.Sort.putRow iV (Go.Sort.ahead w n) b off l.toArray).heap[b]? = some (.cells arr' T (0, 0)) ∧ arr'.size = arr.size ∧ ∀ (i : Nat) row, (isR l)[i]? = some row → RowD z shInt row ((arr'.toList.drop (off + i * shInt.length)).take shInt.length)) ∧ (∀ g, g ≠ b → (Go.Sort.putRow iV (Go.Sort.ahead w n) b off l.toArray).heap[g]? = w.heap[g]?) ∧ (Go.Sort.putRow iV (Go.Sort.ahead w n) b off l.toArray).heap.size = w.heap.size := by
  have hlen : shInt.length = 1 := rfl
  refine ⟨⟨Go.Sort.putCells iV off l.toArray arr, ?_, by simp [Go.Sort.putCells], ?_⟩, ?_, by simp [Go.Sort.putRow, Go.Sort.mapBlock, Go.Sort.ahead]⟩
  · simp only [Go.Sort.putRow, Go.Sort.mapBlock, Go.Sort.ahead, Array.getElem?_modify, hb, if_true, Option.map_some, Go.Sort.onCells]
  · intro i row hi
    unfold isR at hi
    rw [List.getElem?_map] at hi
    obtain ⟨x, hx, rfl⟩ := Option.map_eq_some_iff.1 hi
    have hil : i < l.length := (List.getElem?_eq_some_iff.1 hx).1
    refine row_i1.2 ?_
    rw [hlen] at hsz ⊢
    have hia : off + i < arr.size := by omega
    have hg : (Go.Sort.putCells iV off l.toArray arr)[off + i]? = some (iV x) := by
      unfold Go.Sort.putCells
      have h2 : off ≤ off + i ∧ off + i < off + l.length := by omega
      have hx' : l[i] = x := (List.getElem?_eq_some_iff.1 hx).2
      rw [Array.getElem?_mapIdx, Array.getElem?_eq_getElem hia]
      simp [h2, hil, hx']
    obtain ⟨h1, h2⟩ := Array.getElem?_eq_some_iff.1 hg
    rw [Nat.mul_one, List.drop_eq_getElem_cons (by simpa using h1)]
    simp [h2]
  · intro g hg
    have : ¬ (b = g) := fun e => hg e.symm
    simp [Go.Sort.putRow, Go.Sort.mapBlock, Go.Sort.ahead, Array.getElem?_modify, this]
theorem compact_len (ns : List Int) : (Lib.compact ns).length ≤ ns.length := by
  unfold Lib.compact Lib.compactUpTo
  rw [List.length_map]
  have := List.length_filter_le (Lib.keeps ns.toArray) (List.range ns.length)
  rwa [List.length_range] at this
theorem sortI_length (ns : List Int) : (sortI ns).length = ns.length := List.length_mergeSort _
def oneI (f : List Int → KVk → Prop) (vs : List V) (E : Mem) (nx : Nat) (k : KVk) : Prop := match vs, E, nx with
  | [.c (.ow 0)], [(0, .W e rows)], 1 => fk (shEq e shInt) (∃ ns : List Int, rows = isR ns ∧ ns.length ≤ 1048576 ∧ f ns k) False
  | _, _, _ => False
def g172 : List V → Mem → Nat → KVk → Prop := oneI fun ns k => k (.t []) [(0, .W shInt (isR (sortI ns)))] 1
def g173 : List V → Mem → Nat → KVk → Prop := oneI fun ns k => k (.c (.ow 1)) [(1, .W shInt (isR (Lib.compact ns)))] 2
def T172 : Ct := (172, g172) :: T84
def T173 : Ct := (173, g173) :: T172
theorem oneI_ok {P : Program} {f : List Int → KVk → Prop} {F : Nat} (h : ∀ ns k, ns.length ≤ 1048576 → f ns k → CallG P F [.c (.ow 0)] [(0, .W shInt (isR ns))] 1 k) : ∀ vs E nx k, oneI f vs E nx k → CallG P F vs E nx k := by
  intro vs E nx k hk
  unfold oneI at hk
  split at hk
  · obtain ⟨h1, ns, rfl, h2, h3⟩ := fk_yes hk
    have := shEq_eq _ _ h1
    subst this
    exact h ns k h2 h3
  · exact hk.elim
theorem ow_arg {φ : Emb} {z : Fz} {x : Nat} {us : List Value} (h : All2 (VR φ z) [.c (.ow x)] us) : ∃ u, us = [u] ∧ φ x = some u := by
  cases h with
  | cons h1 h2 => cases h2; exact ⟨_, rfl, h1.1⟩
theorem holds_isR {z : Fz} {w : World} {b off : Nat} {arr : Array Value} {T : TypeId} {ns : List Int} (hb : w.heap[b]? = some (.cells arr T (0, 0))) (h : ∀ (i : Nat) row, (isR ns)[i]? = some row → RowD z shInt row ((arr.toList.drop (off + i * shInt.length)).take shInt.length)) : Go.Sort.Holds (Value.int .i64) w b off ns.toArray := by
  intro j hj
  have hj : j < ns.length := by simpa using hj
  refine ⟨?_, by simp [World.frozen?, hb]⟩
  rw [cell_of_row w b _ arr T _ hb, isR_at h (List.getElem?_eq_getElem hj)]
  simp [hj, iV]
theorem sort_ok : ∀ vs E nx k, g172 vs E nx k → CallG Tryz.prog 172 vs E nx k := oneI_ok fun ns k hn hk => by
  intro G φ z w us hm hlt hus
  obtain ⟨u, rfl, hu⟩ := ow_arg hus
  rcases hm.blk 0 _ rfl with ⟨h1, h2⟩ | ⟨b, off, arr, T, cap, h1, h2, h3, h4, h5⟩
  · rw [hu] at h1
    cases h1
    have hns : ns = [] := List.map_eq_nil_iff.1 h2
    subst hns
    refine (Tryz.slices_Sort_int_none none 0 w).mono fun e w' h => ?_
    obtain ⟨rfl, rfl⟩ := h
    exact ⟨_, _, _, φ, z, _, rfl, hk, fun _ _ h => h, .refl z, (by rw [show sortI [] = [] by simp [sortI]]; exact hm), Dom.refl _ _, Nat.le_refl _, ⟨[], rfl, .nil⟩⟩
  · rw [hu] at h1
    cases h1
    rw [is_len] at h2
    have hlaw := Tryz.slices_Sort_int b off cap ns w (holds_isR h4 h5) (Array.getElem?_eq_some_iff.1 h4).1 (by omega)
    rw [is_len]
    refine hlaw.mono fun e w' h => ?_
    obtain ⟨rfl, n, os, rfl⟩ := h
    obtain ⟨⟨arr', p1, p2, p3⟩, p4, p5⟩ := put_isR (z := z) (n := n) (sortI_length ns) h2 h3 h4
    have r1 : MR G φ z (putM 0 (.W shInt (isR (sortI ns))) [(0, .W shInt (isR ns))]) (Go.Sort.putRow iV (Go.Sort.ahead w n) b off (sortI ns).toArray) :=
      hm.upd rfl rfl hu rfl p4 p5 rfl rfl rfl (.inr ⟨b, off, arr', T, cap, by rw [is_len, sortI_length, ← is_len]; exact hu, by rw [is_len, sortI_length]; exact h2, by rw [p2]; exact h3, p1, p3⟩)
    refine ⟨_, _, _, φ, z, _, rfl, hk, fun _ _ h => h, .refl z, r1.still (by simp [Go.Sort.grow]) (fun i hi => Array.getElem?_append_left hi) rfl rfl rfl, Dom.refl _ _, Nat.le_refl _, ⟨[], rfl, .nil⟩⟩
theorem compact_ok : ∀ vs E nx k, g173 vs E nx k → CallG Tryz.prog 173 vs E nx k := oneI_ok fun ns k hn hk => by
  intro G φ z w us hm hlt hus
  obtain ⟨u, rfl, hu⟩ := ow_arg hus
  have hn1 : φ 1 = none := by
    cases hv : φ 1 with
    | none => rfl
    | some q => have := hlt 1 q hv; omega
  rcases hm.blk 0 _ rfl with ⟨h1, h2⟩ | ⟨b, off, arr, T, cap, h1, h2, h3, h4, h5⟩
  · rw [hu] at h1
    cases h1
    have hns : ns = [] := List.map_eq_nil_iff.1 h2
    subst hns
    refine (Tryz.slices_Compact_int_empty none 0 w).mono fun e w' h => ?_
    obtain ⟨rfl, rfl⟩ := h
    exact ⟨_, _, _, φ.add 1 (.slice none 0 0), z, _, rfl, hk, Emb.le_add hn1 _, .refl z, hm.rename1 (m' := []) rfl hu hn1 (fun y B h => by cases h), Dom.add _ _ _, by omega, ⟨Emb.add_same _ _ _, _, _, _, rfl⟩⟩
  · rw [hu] at h1
    cases h1
    rw [is_len] at h2
    have hlaw := Tryz.slices_Compact_int b off cap ns w (holds_isR h4 h5) (by omega) h2
    rw [is_len]
    refine hlaw.mono fun e w' h => ?_
    obtain ⟨rfl, n, rfl⟩ := h
    have hcl := compact_len ns
    have hl : (Lib.compact ns ++ List.replicate (ns.length - (Lib.compact ns).length) 0).length = ns.length := by rw [List.length_append, List.length_replicate]; omega
    obtain ⟨⟨arr', p1, p2, p3⟩, p4, p5⟩ := put_isR (z := z) (n := n) hl h2 h3 h4
    have r1 := hm.rename (nx := 1) (v' := .slice (some ⟨b, off, none⟩) (Lib.compact ns).length cap) (B' := .W shInt (isR (Lib.compact ns))) hn1 (x := 0) rfl rfl hu rfl rfl p4 p5 rfl rfl rfl (.inr ⟨b, off, arr', T, cap, by rw [is_len]; exact Emb.add_same _ _ _, by rw [is_len]; omega, by rw [p2]; exact h3, p1, fun i row hi => p3 i row (by
      unfold isR at hi ⊢
      rw [List.map_append, List.getElem?_append_left (by
        have := (List.getElem?_eq_some_iff.1 hi).1
        exact this)]
      exact hi)⟩)
    exact ⟨_, _, _, _, z, _, rfl, hk, Emb.le_add hn1 _, .refl z, r1, Dom.add _ _ _, by omega, ⟨Emb.add_same _ _ _, _, _, _, rfl⟩⟩
theorem ok172 : CtOk Tryz.prog T172 := CtOk.cons ok84 sort_ok
theorem ok173 : CtOk Tryz.prog T173 := CtOk.cons ok172 compact_ok
end Go.Proofs.YtgjindhjgmplgaaGreat
end
section
set_option maxRecDepth 100000
namespace Go.Proofs.YtgjindhjgmplgaaGreat
open Wp
def qR (l : List (List Int)) : List Row := l.map fun p => [.sl (isR p)]
def cfB (a b : G) : Bool := conflictB a b
def blkF (hs ws : List G) (tx : Int) : List Int := blockF hs ws tx
def g171 (rs : List Row) (k : V → Prop) : Prop := ∃ a b : G, rs = [gR a, gR b] ∧ k (.c (.b (cfB a b)))
def T171 : Ct := (171, ctF (psF Tryz.prog 171) g171) :: T173
structure FrV (hs ws : List G) (tx : Int) : Prop where
  v : LkV hs ws
  b : ∃ b, b ∈ blkF hs ws tx
structure FrP (l : List Int) : Prop where
  ne : 0 < l.length
def g123 (rs : List Row) (k : V → Prop) : Prop := ∃ (hs ws : List G) (tx : Int), LkV hs ws ∧ rs = [lkR hs ws, [.i tx]] ∧ k (.c (.sl shInt (isR (blkF hs ws tx))))
def T123 : Ct := (123, ctF (psF Tryz.prog 123) g123) :: T171
structure CtV (l : List Int) : Prop where
  len : l.length ≤ 1048576
def g124 (rs : List Row) (k : V → Prop) : Prop := ∃ (l : List Int) (x : Int), CtV l ∧ rs = [[.sl (isR l)], [.i x]] ∧ ∀ b : Bool, k (.c (.b b))
def T124 : Ct := (124, ctF (psF Tryz.prog 124) g124) :: T123
def T125 : Ct := (125, cloneG shInt 8) :: T124
def ixI : Nat → Lp := fun f => bif Nat.beq f 174 then [(3, lpI 8)] else []
def g65 (rs : List Row) (k : V → Prop) : Prop := ∃ (hs ws : List G) (tx : Int), LkV hs ws ∧ rs = [lkR hs ws, [.i tx]] ∧ ∀ l : List Int, k (.c (.sl shInt (isR l)))
def g68 (rs : List Row) (k : V → Prop) : Prop := ∃ (hs ws : List G) (tx : Int), FrV hs ws tx ∧ rs = [lkR hs ws, [.i tx]] ∧ ∀ l : List Int, FrP l → k (.c (.sl shInt (isR l)))
def T65 : Ct := (65, ctF (psF Tryz.prog 65) g65) :: T125
def T68 : Ct := (68, ctF (psF Tryz.prog 68) g68) :: T65
def blF : Nat → Lp := fun f => bif inB f [172, 173] then [(0, .u 0)] else ixG f
def cyL : Lp := [(6, .e (List (List Int) × List (Row × Row)) (fun j => [(6, .c (.ow 4))]) (fun j => [(4, .W [.sl shInt] (qR j.1)), (1, .P false false [.i .i64] [.b] j.2)]) 1 [3]),
  (13, .e (Nat × List (List Int) × List (Row × Row)) (fun j => [(42, .c (.i .i64 (Int.ofNat j.1))), (6, .c (.ow 6))]) (fun j => [(6, .W [.sl shInt] (qR j.2.1)), (1, .P false false [.i .i64] [.b] j.2.2)]) 1 [5])]
def blL : Lp := [(7, .o 6 shInt (Nat × List Int) (fun j => [(25, .c (.i .i64 (Int.ofNat j.1))), (6, .c (.ow 4))]) (fun j => [(4, .W shInt (isR j.2))]) 1 [3]),
  (10, .e (Nat × List Int) (fun j => [(31, .c (.i .i64 (Int.ofNat j.1))), (6, .c (.ow 5))]) (fun j => [(5, .W shInt (isR j.2))]) 1 [4])]
theorem vc171 (a b : G) (k : KVk) : dbody Tryz.prog (dcall Tryz.prog T173 (fun _ => []) 5) [] true 171 (argVs (psF Tryz.prog 171) [gR a, gR b]) [] 0 k = (fk (nt (ieq a.tx b.tx)) (fk (an (ieq a.2
  b.2) (an (ieq a.3 b.3) true)) (fk (ieq a.mode 2) (k (.c (.b true)) [] 0) (k (.c (.b (ieq b.mode 2))) [] 0)) (k (.c (.b false)) [] 0)) (k (.c (.b false)) [] 0)) := by kernel_rfl
theorem vc123 (hs ws : List G) (tx : Int) (k : KVk) : dbody Tryz.prog (dcall Tryz.prog T171 blF 5) blL true 123 (argVs (psF Tryz.prog 123) [lkR hs ws, [.i tx]]) [] 0 k = (∃ (I : Nat → Prop) (μ :
  Nat → Nat), (∃ j, I j ∧ (0 = Int.ofNat j ∧ True) ∧ ([DV.i tx] = [DV.i tx] ∧ True) ∧ True) ∧ ∀ (j : Nat), I j → fk (ilt (Int.ofNat j) (ln (gsR ws))) (fk (inR (Int.ofNat j) (ln (gsR ws))) (fk (ieq (ri (rw' (gsR ws) (tn
  (Int.ofNat j))) 0) tx) (fk (ilt (Int.ofNat j) 0) (k (.c (.sl shInt [])) [] 0) (fk (an true (an (ile 0 (Int.ofNat j)) (ile (Int.ofNat j) (ln (gsR ws))))) (∃ (I : Nat × List Int → Prop) (μ : Nat × List Int → Nat), (∃
  j_1, I j_1 ∧ (0 = Int.ofNat j_1.fst ∧ True ∧ True) ∧ ([] = isR j_1.snd ∧ [[DV.sl (gsR hs)], [DV.sl (lsub (gsR ws) 0 (Int.ofNat j))]] = [[DV.sl (gsR hs)], [DV.sl (lsub (gsR ws) 0 (Int.ofNat j))]] ∧ (lkR hs ws) = (lkR hs
  ws) ∧ [DV.i tx] = [DV.i tx] ∧ True) ∧ True) ∧ ∀ (j_1 : Nat × List Int), I j_1 → fk (ilt (Int.ofNat j_1.fst) (ln [[DV.sl (gsR hs)], [DV.sl (lsub (gsR ws) 0 (Int.ofNat j))]])) (fk (inR (Int.ofNat j_1.fst) (ln [[DV.sl
  (gsR hs)], [DV.sl (lsub (gsR ws) 0 (Int.ofNat j))]])) (fk (nlt (tn (Int.ofNat j_1.fst)) [[DV.sl (gsR hs)], [DV.sl (lsub (gsR ws) 0 (Int.ofNat j))]]) (∃ (I_1 : Nat × List Int → Prop) (μ_1 : Nat × List Int → Nat), (∃
  j_2, I_1 j_2 ∧ (0 = Int.ofNat j_2.fst ∧ True ∧ True) ∧ (isR j_1.snd = isR j_2.snd ∧ [[DV.sl (gsR hs)], [DV.sl (lsub (gsR ws) 0 (Int.ofNat j))]] = [[DV.sl (gsR hs)], [DV.sl (lsub (gsR ws) 0 (Int.ofNat j))]] ∧ (lkR hs
  ws) = (lkR hs ws) ∧ [DV.i tx] = [DV.i tx] ∧ True) ∧ True) ∧ ∀ (j_2 : Nat × List Int), I_1 j_2 → fk (ilt (Int.ofNat j_2.fst) (ln (rl (rw' [[DV.sl (gsR hs)], [DV.sl (lsub (gsR ws) 0 (Int.ofNat j))]] (tn (Int.ofNat
  j_1.fst))) 0))) (fk (inR (Int.ofNat j_2.fst) (ln (rl (rw' [[DV.sl (gsR hs)], [DV.sl (lsub (gsR ws) 0 (Int.ofNat j))]] (tn (Int.ofNat j_1.fst))) 0))) (fk (inR (Int.ofNat j) (ln (gsR ws))) (∃ a b, [rw' (rl (rw' [[DV.sl
  (gsR hs)], [DV.sl (lsub (gsR ws) 0 (Int.ofNat j))]] (tn (Int.ofNat j_1.fst))) 0) (tn (Int.ofNat j_2.fst)), rw' (gsR ws) (tn (Int.ofNat j))] = [(gR a), (gR b)] ∧ fk (cfB a b) (fk (apOk 8 (isR j_2.snd) [[DV.i (ri (rw'
  (rl (rw' [[DV.sl (gsR hs)], [DV.sl (lsub (gsR ws) 0 (Int.ofNat j))]] (tn (Int.ofNat j_1.fst))) 0) (tn (Int.ofNat j_2.fst))) 0)]]) (∃ j', I_1 j' ∧ lessN (μ_1 j') (μ_1 j_2) ∧ (wr .i64 (xadd (Int.ofNat j_2.fst) 1) =
  Int.ofNat j'.fst ∧ True ∧ True) ∧ (lap (isR j_2.snd) [[DV.i (ri (rw' (rl (rw' [[DV.sl (gsR hs)], [DV.sl (lsub (gsR ws) 0 (Int.ofNat j))]] (tn (Int.ofNat j_1.fst))) 0) (tn (Int.ofNat j_2.fst))) 0)]] = isR j'.snd ∧
  [[DV.sl (gsR hs)], [DV.sl (lsub (gsR ws) 0 (Int.ofNat j))]] = [[DV.sl (gsR hs)], [DV.sl (lsub (gsR ws) 0 (Int.ofNat j))]] ∧ (lkR hs ws) = (lkR hs ws) ∧ [DV.i tx] = [DV.i tx] ∧ True) ∧ True) False) (∃ j', I_1 j' ∧ lessN
  (μ_1 j') (μ_1 j_2) ∧ (wr .i64 (xadd (Int.ofNat j_2.fst) 1) = Int.ofNat j'.fst ∧ True ∧ True) ∧ (isR j_2.snd = isR j'.snd ∧ [[DV.sl (gsR hs)], [DV.sl (lsub (gsR ws) 0 (Int.ofNat j))]] = [[DV.sl (gsR hs)], [DV.sl (lsub
  (gsR ws) 0 (Int.ofNat j))]] ∧ (lkR hs ws) = (lkR hs ws) ∧ [DV.i tx] = [DV.i tx] ∧ True) ∧ True)) False) False) (∃ j', I j' ∧ lessN (μ j') (μ j_1) ∧ (wr .i64 (xadd (Int.ofNat j_1.fst) 1) = Int.ofNat j'.fst ∧ True ∧
  True) ∧ (isR j_2.snd = isR j'.snd ∧ [[DV.sl (gsR hs)], [DV.sl (lsub (gsR ws) 0 (Int.ofNat j))]] = [[DV.sl (gsR hs)], [DV.sl (lsub (gsR ws) 0 (Int.ofNat j))]] ∧ (lkR hs ws) = (lkR hs ws) ∧ [DV.i tx] = [DV.i tx] ∧ True)
  ∧ True)) False) False) (∃ ns, isR j_1.snd = isR ns ∧ ns.length ≤ 1048576 ∧ ∃ ns_1, isR (sortI ns) = isR ns_1 ∧ ns_1.length ≤ 1048576 ∧ k (.c (.sl shInt (isR (Lib.compact ns_1)))) [] 0)) False)) (∃ j', I j' ∧ lessN (μ
  j') (μ j) ∧ (wr .i64 (xadd (Int.ofNat j) 1) = Int.ofNat j' ∧ True) ∧ ([DV.i tx] = [DV.i tx] ∧ True) ∧ True)) False) (k (.c (.sl shInt [])) [] 0)) := by kernel_rfl
theorem ok171 : CtOk Tryz.prog T171 := by
  refine ct_cons ok173 (fz := true) fun rs k h => ?_
  obtain ⟨a, b, rfl, hk⟩ := h
  refine ⟨_, _, _, (vc171 a b k).mpr ?_⟩
  have hk : k (.c (.b (conflictB a b))) [] 0 := hk
  simp only [fk_and, fk_or]
  have e : (nt (ieq a.tx b.tx) && (an (ieq a.page b.page) (an (ieq a.slot b.slot) true) && (ieq a.mode 2 || ieq b.mode 2))) = conflictB a b := by
    unfold conflictB sameLock ieq nt an
    simp only [Bool.and_true, Bool.and_assoc, bne]
    rfl
  exact e ▸ hk
theorem outsF_yes {ys : List G} {x g : G} (h : conflictB x g = true) : outsF (ys ++ [x]) g = outsF ys g ++ [x.tx] := by simp [outsF, h]
theorem outsF_no {ys : List G} {x g : G} (h : conflictB x g = false) : outsF (ys ++ [x]) g = outsF ys g := by simp [outsF, h]
theorem outsF_len (ys : List G) (g : G) : (outsF ys g).length ≤ ys.length := by unfold outsF; rw [List.length_map]; exact List.length_filter_le _ _
theorem takeW {α : Type} {rs : List α} {j : Nat} {r : α} (h : rs[j]? = some r) : rs.take (j + 1) = rs.take j ++ [r] := by
  obtain ⟨hj, rfl⟩ := List.getElem?_eq_some_iff.1 h
  rw [List.take_succ_eq_append_getElem hj]
def preF (hs ys : List G) : Nat → List G
  | 0 => []
  | 1 => hs
  | _ => hs ++ ys
theorem ok123 : CtOk Tryz.prog T123 := by
  refine ct_cons ok171 (fz := true) fun rs k h => ?_
  obtain ⟨hs, ws, tx, hv, rfl, hk⟩ := h
  have hl := hv.len
  refine ⟨_, _, _, (vc123 hs ws tx k).mpr ?_⟩
  refine ⟨fun j => j ≤ ws.length ∧ _, fun j => ws.length - j, range_e (ln_gs ws) (Inv := fun j => ∀ (i : Nat) (x : G), i < j → ws[i]? = some x → (x.tx == tx) = false) ⟨rfl, trivial⟩ (by omega) (fun i x h => absurd h (Nat.not_lt_zero _)) (fun i hi hb nx => ?_) fun hb => ?_⟩
  · obtain ⟨x, hx⟩ := at_lt hi
    rw [tn_ofNat, gs_at hx, gR_0]
    refine fk_of (fun e => ?_) fun e => nx (up_to hx (by simpa using ieq_f e) hb)
    refine fk_n (by (first | rfl | (simp (disch := omega) only [FS, eq_self, List.length_cons, List.length_nil, true_and, and_true, ssz, xadd, xsub, xmul, xmin, xmax] <;> omega) | omega)) (fk_t (by (first | rfl | (simp (disch := omega) only [FS, eq_self, List.length_cons, List.length_nil, true_and, and_true, ssz, xadd, xsub, xmul, xmin, xmax] <;> omega) | omega)) ?_)
    have eB : blkF hs ws tx = Lib.compact (sortI (outsF (hs ++ ws.take i) x)) := by
      have hf : ws.findIdx? (fun x => x.tx == tx) = some i := by
        rw [List.findIdx?_eq_some_iff_getElem]
        refine ⟨hi, ?_, fun j hj => ?_⟩
        · rw [(List.getElem?_eq_some_iff.1 hx).2]; simpa using ieq_t e
        · have := hb j _ hj (List.getElem?_eq_getElem (by omega))
          simpa using this
      unfold blkF blockF
      rw [hf]
      dsimp only
      rw [hx]
    rw [eB] at hk
    clear nx eB
    rw [gs_sub]
    have ht : (ws.take i).length ≤ ws.length := by rw [List.length_take]; omega
    generalize ws.take i = zs at hk ht ⊢
    refine ⟨fun j => j.1 ≤ 2 ∧ j.2 = outsF (preF hs zs j.1) x, fun j => 2 - j.1, ⟨(0, []), ⟨by omega, rfl⟩, ⟨rfl, trivial, trivial⟩, ⟨rfl, rfl, rfl, rfl, trivial⟩, trivial⟩, ?_⟩
    rintro ⟨a, l⟩ ⟨ha, hl'⟩
    dsimp only at ha hl' ⊢
    refine fk_of (fun e => ?_) fun e => ?_
    · have ha : a < 2 := by have := ilt_t e; have : (a : Int) < 2 := this; omega
      obtain ⟨ys, hy, hp⟩ : ∃ ys, rl (rw' [[DV.sl (gsR hs)], [DV.sl (gsR zs)]] a) 0 = gsR ys ∧ preF hs zs (a + 1) = preF hs zs a ++ ys := by
        match a, ha with
        | 0, _ => exact ⟨hs, rfl, rfl⟩
        | 1, _ => exact ⟨zs, rfl, rfl⟩
      have hpl : (preF hs zs a).length + ys.length ≤ 1024 := by
        match a, ha with
        | 0, _ => have : hs = ys := hp; show 0 + ys.length ≤ 1024; rw [← this]; omega
        | 1, _ =>
          have h2 : hs ++ zs = hs ++ ys := hp
          have := congrArg List.length h2
          rw [List.length_append, List.length_append] at this
          show hs.length + ys.length ≤ 1024
          omega
      refine fk_t (by simp [inR, ln]; omega) (fk_t (by rw [tn_ofNat]; unfold nlt; simp; omega) ?_)
      rw [tn_ofNat, hy]
      refine ⟨fun j => j.1 ≤ ys.length ∧ j.2 = outsF (preF hs zs a ++ ys.take j.1) x, fun j => ys.length - j.1, ⟨(0, l), ⟨Nat.zero_le _, by simpa using hl'⟩, ⟨rfl, trivial, trivial⟩, ⟨rfl, rfl, rfl, rfl, trivial⟩, trivial⟩, ?_⟩
      rintro ⟨b, m⟩ ⟨hb1, hm⟩
      dsimp only at hb1 hm ⊢
      have hml : m.length ≤ 1024 := by
        have := outsF_len (preF hs zs a ++ ys.take b) x
        rw [List.length_append, List.length_take] at this
        rw [hm]; omega
      refine fk_of (fun e => ?_) fun e => ?_
      · have hb2 : b < ys.length := by have := ilt_t e; rw [ln_gs] at this; simpa using this
        obtain ⟨y, hy'⟩ := at_lt hb2
        have hw : wr .i64 (xadd (Int.ofNat b) 1) = Int.ofNat (b + 1) := by unfold xadd; exact wr_id (by simp; omega) (by simp; omega)
        refine fk_t (by (first | rfl | (simp (disch := omega) only [FS, eq_self, List.length_cons, List.length_nil, true_and, and_true, ssz, xadd, xsub, xmul, xmin, xmax] <;> omega) | omega)) (fk_t (by (first | rfl | (simp (disch := omega) only [FS, eq_self, List.length_cons, List.length_nil, true_and, and_true, ssz, xadd, xsub, xmul, xmin, xmax] <;> omega) | omega)) ?_)
        rw [tn_ofNat, gs_at hy']
        refine ⟨y, x, rfl, fk_of (fun e => ?_) fun e => ?_⟩
        · refine fk_t ?_ ⟨(b + 1, m ++ [y.tx]), ⟨hb2, ?_⟩, (by show ys.length - (b + 1) < ys.length - b; omega), ⟨hw, trivial, trivial⟩, ⟨?_, rfl, rfl, rfl, trivial⟩, trivial⟩
          · unfold apOk
            rw [is_len]
            simp only [Bool.and_eq_true, decide_eq_true_eq, List.length_cons, List.length_nil]
            omega
          · dsimp only
            rw [takeW hy', ← List.append_assoc, outsF_yes e, hm]
          · show lap (isR m) [i1R y.tx] = isR (m ++ [y.tx])
            unfold lap isR
            rw [List.map_append]; rfl
        · refine ⟨(b + 1, m), ⟨hb2, ?_⟩, (by show ys.length - (b + 1) < ys.length - b; omega), ⟨hw, trivial, trivial⟩, ⟨rfl, rfl, rfl, rfl, trivial⟩, trivial⟩
          dsimp only
          rw [takeW hy', ← List.append_assoc, outsF_no e, hm]
      · have hb2 : b = ys.length := by have := ilt_f e; rw [ln_gs] at this; have : (ys.length : Int) ≤ b := this; omega
        subst hb2
        rw [List.take_length] at hm
        refine ⟨(a + 1, m), ⟨ha, ?_⟩, (by show 2 - (a + 1) < 2 - a; omega), ⟨?_, trivial, trivial⟩, ⟨rfl, rfl, rfl, rfl, trivial⟩, trivial⟩
        · dsimp only
          rw [hp, hm]
        · unfold xadd; exact wr_id (by simp; omega) (by simp; omega)
    · have ha : a = 2 := by have := ilt_f e; have : (2 : Int) ≤ a := this; omega
      subst ha
      have hl' : l = outsF (hs ++ zs) x := hl'
      have hlen := outsF_len (hs ++ zs) x
      rw [List.length_append] at hlen
      refine ⟨l, rfl, by rw [hl']; omega, sortI l, rfl, by rw [sortI_length, hl']; omega, ?_⟩
      rw [hl']; exact hk
  · have eB : blkF hs ws tx = [] := by
      have hf : ws.findIdx? (fun x => x.tx == tx) = none := by
        rw [List.findIdx?_eq_none_iff]
        exact fun x hx => by obtain ⟨j, hj⟩ := List.getElem?_of_mem hx; exact all_of hb j x hj
      unfold blkF blockF
      rw [hf]
    rw [eB] at hk
    exact hk
theorem vc124 (l : List Int) (x : Int) (k : KVk) : dbody Tryz.prog (dcall Tryz.prog T123 ixI 5) [] true 124 (argVs (psF Tryz.prog 124) [[.sl (isR l)], [.i x]]) [] 0 k =
  (∃ (I : Nat → Prop) (μ : Nat → Nat), (∃ j, I j ∧ (0 = Int.ofNat j ∧ True) ∧ True ∧ True) ∧ ∀ (j : Nat), I j → fk (ilt (Int.ofNat j) (ln (isR l))) (fk (inR (Int.ofNat j) (ln (isR l))) (fk (ieq x (ri (rw' (isR l) (tn
  (Int.ofNat j))) 0)) (k (.c (.b (ile 0 (Int.ofNat j)))) [] 0) (∃ j', I j' ∧ lessN (μ j') (μ j) ∧ (wr .i64 (xadd (Int.ofNat j) 1) = Int.ofNat j' ∧ True) ∧ True ∧ True)) False) (k (.c (.b false)) [] 0)) := by kernel_rfl
theorem vc65 (hs ws : List G) (tx : Int) (k : KVk) : dbody Tryz.prog (dcall Tryz.prog T125 ixI 5) cyL true 65 (argVs (psF Tryz.prog 65) [lkR hs ws, [.i tx]]) [] 0 k = (∃ hs_1 ws_1, LkV hs_1 ws_1 ∧
  [(lkR hs ws)] = [(lkR hs_1 ws_1)] ∧ ∃ (I : List (List Int) × List (Row × Row) → Prop) (μ : List (List Int) × List (Row × Row) → Nat), (∃ j, I j ∧ (True ∧ True) ∧ ([[DV.sl [[DV.i tx]]]] = qR j.fst ∧ mput [] [DV.i tx]
  [DV.b true] = j.snd ∧ [[DV.i tx]] = [[DV.i tx]] ∧ (lkR hs ws) = (lkR hs ws) ∧ True) ∧ True) ∧ ∀ (j : List (List Int) × List (Row × Row)), I j → fk (ilt 0 (ln (qR j.fst))) (fk (inR 0 (ln (qR j.fst))) (fk (nlt 0 (qR
  j.fst)) (fk (an true (ile 1 (ln (qR j.fst)))) (fk (inR (wr .i64 (xsub (ln (rl (rw' (qR j.fst) 0) 0)) 1)) (ln (rl (rw' (qR j.fst) 0) 0))) (∃ hs_2 ws_2 tx_1, LkV hs_2 ws_2 ∧ [(lkR hs ws), [DV.i (ri (rw' (rl (rw' (qR
  j.fst) 0) 0) (tn (wr .i64 (xsub (ln (rl (rw' (qR j.fst) 0) 0)) 1)))) 0)]] = [(lkR hs_2 ws_2), [DV.i tx_1]] ∧ ∃ l x, CtV l ∧ [[DV.sl (isR (blkF hs_2 ws_2 tx_1))], [DV.i tx]] = [[DV.sl (isR l)], [DV.i x]] ∧ ∀ (b : Bool),
  fk b (k (.c (.sl shInt (rl (rw' (qR j.fst) 0) 0))) [] 0) (∃ (I_1 : Nat × List (List Int) × List (Row × Row) → Prop) (μ_1 : Nat × List (List Int) × List (Row × Row) → Nat), (∃ j_1, I_1 j_1 ∧ (0 = Int.ofNat j_1.fst ∧
  True ∧ True) ∧ (lsub (qR j.fst) 1 (ln (qR j.fst)) = qR j_1.snd.fst ∧ j.snd = j_1.snd.snd ∧ (lkR hs ws) = (lkR hs ws) ∧ [[DV.i tx]] = [[DV.i tx]] ∧ True) ∧ True) ∧ ∀ (j_1 : Nat × List (List Int) × List (Row × Row)), I_1
  j_1 → fk (ilt (Int.ofNat j_1.fst) (ln (isR (blkF hs_2 ws_2 tx_1)))) (fk (inR (Int.ofNat j_1.fst) (ln (isR (blkF hs_2 ws_2 tx_1)))) (fk (rb (mget j_1.snd.snd [DV.i (ri (rw' (isR (blkF hs_2 ws_2 tx_1)) (tn (Int.ofNat
  j_1.fst))) 0)] [DV.b false]) 0) (∃ j', I_1 j' ∧ lessN (μ_1 j') (μ_1 j_1) ∧ (wr .i64 (xadd (Int.ofNat j_1.fst) 1) = Int.ofNat j'.fst ∧ True ∧ True) ∧ (qR j_1.snd.fst = qR j'.snd.fst ∧ j_1.snd.snd = j'.snd.snd ∧ (lkR hs
  ws) = (lkR hs ws) ∧ [[DV.i tx]] = [[DV.i tx]] ∧ True) ∧ True) (fk (apOk 8 [] (rl (rw' (qR j.fst) 0) 0)) (fk (apOk 8 (rl (rw' (qR j.fst) 0) 0) [[DV.i (ri (rw' (isR (blkF hs_2 ws_2 tx_1)) (tn (Int.ofNat j_1.fst))) 0)]])
  (fk (apOk 24 (qR j_1.snd.fst) [[DV.sl (lap (rl (rw' (qR j.fst) 0) 0) [[DV.i (ri (rw' (isR (blkF hs_2 ws_2 tx_1)) (tn (Int.ofNat j_1.fst))) 0)]])]]) (∃ j', I_1 j' ∧ lessN (μ_1 j') (μ_1 j_1) ∧ (wr .i64 (xadd (Int.ofNat
  j_1.fst) 1) = Int.ofNat j'.fst ∧ True ∧ True) ∧ (lap (qR j_1.snd.fst) [[DV.sl (lap (rl (rw' (qR j.fst) 0) 0) [[DV.i (ri (rw' (isR (blkF hs_2 ws_2 tx_1)) (tn (Int.ofNat j_1.fst))) 0)]])]] = qR j'.snd.fst ∧ mput
  j_1.snd.snd [DV.i (ri (rw' (isR (blkF hs_2 ws_2 tx_1)) (tn (Int.ofNat j_1.fst))) 0)] [DV.b true] = j'.snd.snd ∧ (lkR hs ws) = (lkR hs ws) ∧ [[DV.i tx]] = [[DV.i tx]] ∧ True) ∧ True) False) False) False)) False) (∃ j',
  I j' ∧ lessN (μ j') (μ j) ∧ (True ∧ True) ∧ (qR j_1.snd.fst = qR j'.fst ∧ j_1.snd.snd = j'.snd ∧ [[DV.i tx]] = [[DV.i tx]] ∧ (lkR hs ws) = (lkR hs ws) ∧ True) ∧ True))) False) False) False) False) (k (.c (.sl shInt
  [])) [] 0)) := by kernel_rfl
theorem vc68 (hs ws : List G) (tx : Int) (k : KVk) : dbody Tryz.prog (dcall Tryz.prog T65 clF 5) [] true 68 (argVs (psF Tryz.prog 68) [lkR hs ws, [.i tx]]) [] 0 k = (∃ hs_1 ws_1, LkV hs_1 ws_1 ∧ [(lkR
  hs ws)] = [(lkR hs_1 ws_1)] ∧ ∃ hs_2 ws_2 tx_1, LkV hs_2 ws_2 ∧ [(lkR hs ws), [DV.i tx]] = [(lkR hs_2 ws_2), [DV.i tx_1]] ∧ k (.c (.sl shInt (isR (blkF hs_2 ws_2 tx_1)))) [] 0) := by kernel_rfl
theorem mget_put (k v k' z : Row) : ∀ l, mget (mput l k v) k' z = bif keq k k' then v else mget l k' z := by
  have cons : ∀ (p : Row × Row) (l : List (Row × Row)), mget (p :: l) k' z = bif keq p.1 k' then p.2 else mget l k' z := fun p l => by
    unfold mget
    rw [List.find?_cons]
    cases keq p.1 k' <;> rfl
  have go : ∀ l : List (Row × Row), mget (mputG l k v) k' z = bif keq k k' then v else mget l k' z := by
    intro l
    induction l with
    | nil => exact cons (k, v) []
    | cons p l ih =>
      rw [mputG]
      cases hb : keq p.1 k with
      | true =>
        have e := keq_iff.1 hb
        show mget ((p.1, v) :: l) k' z = _
        rw [cons, cons, e]
        cases keq k k' <;> rfl
      | false =>
        show mget (p :: mputG l k v) k' z = _
        rw [cons, cons, ih]
        cases h : keq p.1 k' with
        | false => rfl
        | true =>
          have hk : keq k k' = false := by
            cases h2 : keq k k' with
            | false => rfl
            | true =>
              have : keq p.1 k = true := keq_iff.2 ((keq_iff.1 h).trans (keq_iff.1 h2).symm)
              rw [hb] at this; cases this
          rw [hk]; rfl
  exact go
theorem keq_i (a b : Int) : keq [.i a] [.i b] = decide (a = b) := by
  cases h : keq [.i a] [.i b] with
  | true =>
    have := keq_iff.1 h
    have e : a = b := by cases this; rfl
    exact (decide_eq_true e).symm
  | false =>
    have e : ¬ a = b := fun c => by
      subst c
      rw [keq_iff.2 rfl] at h; cases h
    exact (decide_eq_false e).symm
theorem ok124 : CtOk Tryz.prog T124 := by
  refine ct_cons ok123 (fz := true) fun rs k h => ?_
  obtain ⟨l, x, hv, rfl, hk⟩ := h
  have hl := hv.len
  refine ⟨_, _, _, (vc124 l x k).mpr ?_⟩
  refine ⟨fun j => j ≤ l.length ∧ True, fun j => l.length - j, range_e (ln_is l) trivial (by omega) trivial (fun i hi _ nx => ?_) fun _ => hk _⟩
  exact fk_of (fun _ => hk _) fun _ => nx trivial
theorem ok125 : CtOk Tryz.prog T125 := ok124.cons (clone_ok (dcall_ok ok124 (LT := fun _ => []) 5) (e := shInt) (by_ := 8) fun gs k => by kernel_rfl)
theorem blkF_sub {hs ws : List G} {tx : Int} : (blkF hs ws tx).length ≤ hs.length + ws.length ∧ ∀ n ∈ blkF hs ws tx, n ∈ (hs ++ ws).map G.tx := by
  unfold blkF blockF
  split
  · exact ⟨Nat.zero_le _, fun n h => by cases h⟩
  · rename_i i hi
    split
    · rename_i g hg
      have h1 := compact_len (sortI (outsF (hs ++ ws.take i) g))
      have h2 := outsF_len (hs ++ ws.take i) g
      rw [sortI_length] at h1
      rw [List.length_append, List.length_take] at h2
      refine ⟨by omega, fun n h => ?_⟩
      rw [compact_iff] at h
      unfold sortI at h
      rw [List.mem_mergeSort] at h
      unfold outsF at h
      obtain ⟨x, hx, rfl⟩ := List.mem_map.1 h
      obtain ⟨hx1, _⟩ := List.mem_filter.1 hx
      refine List.mem_map.2 ⟨x, ?_, rfl⟩
      rcases List.mem_append.1 hx1 with h | h
      · exact List.mem_append_left _ h
      · exact List.mem_append_right _ (List.mem_of_mem_take h)
    · exact ⟨Nat.zero_le _, fun n h => by cases h⟩
noncomputable def metB (l : List (Row × Row)) (n : Int) : Bool := rb (mget l [.i n] [.b false]) 0
noncomputable def unmet (ids : List Int) (l : List (Row × Row)) : Nat := (ids.filter fun n => !metB l n).length
theorem metB_put (l : List (Row × Row)) (m n : Int) : metB (mput l [.i m] [.b true]) n = (decide (m = n) || metB l n) := by
  unfold metB
  rw [mget_put, keq_i]
  cases decide (m = n) <;> rfl
theorem unmet_put {l : List (Row × Row)} {m : Int} (hl : metB l m = false) : ∀ ids : List Int, unmet ids (mput l [.i m] [.b true]) ≤ unmet ids l ∧ (m ∈ ids → unmet ids (mput l [.i m] [.b true]) < unmet ids l)
  | [] => ⟨Nat.le_refl _, fun h => by cases h⟩
  | n :: ids => by
    obtain ⟨h1, h2⟩ := unmet_put hl ids
    unfold unmet at h1 h2 ⊢
    rw [List.filter_cons, List.filter_cons, metB_put]
    by_cases e : m = n
    · subst e
      rw [hl]
      simp only [decide_true, Bool.true_or, Bool.not_true, Bool.false_eq_true, if_false, Bool.not_false, if_true, List.length_cons]
      omega
    · rw [decide_eq_false e, Bool.false_or]
      cases metB l n with
      | true =>
        simp only [Bool.not_true, Bool.false_eq_true, if_false]
        exact ⟨h1, fun h => by
          rcases List.mem_cons.1 h with h | h
          · exact absurd h e
          · exact h2 h⟩
      | false =>
        simp only [Bool.not_false, if_true, List.length_cons]
        refine ⟨by omega, fun h => ?_⟩
        rcases List.mem_cons.1 h with h | h
        · exact absurd h e
        · have := h2 h; omega
theorem unmet_le (ids : List Int) (l : List (Row × Row)) : unmet ids l ≤ ids.length := List.length_filter_le _ _
theorem qR_sub (p : List Int) (q : List (List Int)) : lsub (qR (p :: q)) 1 (ln (qR (p :: q))) = qR q := by
  unfold lsub ln
  rw [Int.toNat_natCast, List.take_length]
  rfl
theorem ok65 : CtOk Tryz.prog T65 := by
  refine ct_cons ok125 (fz := true) fun rs k h => ?_
  obtain ⟨hs, ws, tx, hv, rfl, hk⟩ := h
  have hl := hv.len
  refine ⟨_, _, _, (vc65 hs ws tx k).mpr ?_⟩
  obtain ⟨ids, hids⟩ : ∃ ids, ids = (hs ++ ws).map G.tx := ⟨_, rfl⟩
  have hN : ids.length ≤ 1024 := by rw [hids, List.length_map, List.length_append]; exact hl
  refine ⟨hs, ws, hv, rfl, fun j => (∀ p ∈ j.1, 0 < p.length ∧ p.length + unmet ids j.2 ≤ ids.length + 1) ∧ j.1.length + unmet ids j.2 ≤ ids.length + 1, fun j => j.1.length + unmet ids j.2, ⟨([[tx]], mput [] [DV.i tx] [DV.b true]), ⟨fun p hp => ?_, ?_⟩, ⟨trivial, trivial⟩, ⟨rfl, rfl, rfl, rfl, trivial⟩, trivial⟩, ?_⟩
  · have := unmet_le ids (mput [] [DV.i tx] [DV.b true])
    rw [List.mem_singleton.1 hp]
    exact ⟨Nat.zero_lt_one, by show 1 + unmet ids (mput [] [DV.i tx] [DV.b true]) ≤ _; omega⟩
  · have := unmet_le ids (mput [] [DV.i tx] [DV.b true])
    show 1 + unmet ids (mput [] [DV.i tx] [DV.b true]) ≤ _
    omega
  rintro ⟨q, l⟩ ⟨hp, hq⟩
  dsimp only at hp hq ⊢
  refine fk_of (fun e => ?_) fun e => hk []
  cases q with
  | nil => cases e
  | cons p q =>
    have hlq : ln (qR (p :: q)) = q.length + 1 := by unfold ln qR; simp
    have hr : rl (rw' (qR (p :: q)) 0) 0 = isR p := rfl
    obtain ⟨hp0, hp1⟩ := hp p (List.mem_cons_self ..)
    rw [hr, hlq]
    have hlp := ln_is p
    refine fk_t (by simp [inR] <;> omega) (fk_t (by unfold nlt qR; simp) (fk_t (by simp [an, ile]; omega) (fk_t ?_ ⟨hs, ws, _, hv, rfl, blkF hs ws _, tx, ⟨by have := (blkF_sub (hs := hs) (ws := ws) (tx := ri (rw' (isR p) (tn (wr .i64 (xsub (ln (isR p)) 1)))) 0)).1; omega⟩, rfl, fun b => fk_of (fun _ => hk p) fun _ => ?_⟩)))
    · rw [hlp]
      unfold xsub
      rw [wr_ok (by omega) (by omega)]
      simp only [inR, Bool.and_eq_true, decide_eq_true_eq]
      omega
    rw [← hlq, qR_sub]
    have hB := blkF_sub (hs := hs) (ws := ws) (tx := ri (rw' (isR p) (tn (wr .i64 (xsub (ln (isR p)) 1)))) 0)
    rw [← hids] at hB
    generalize blkF hs ws (ri (rw' (isR p) (tn (wr .i64 (xsub (ln (isR p)) 1)))) 0) = B at hB ⊢
    have hq : q.length + 1 + unmet ids l ≤ ids.length + 1 := hq
    have hun := unmet_le ids l
    refine ⟨fun j => j.1 ≤ B.length ∧ (∀ p ∈ j.2.1, 0 < p.length ∧ p.length + unmet ids j.2.2 ≤ ids.length + 1) ∧ j.2.1.length + unmet ids j.2.2 ≤ q.length + unmet ids l ∧ unmet ids j.2.2 ≤ unmet ids l, fun j => B.length - j.1, ⟨(0, q, l), ⟨Nat.zero_le _, fun p h => hp p (List.mem_cons_of_mem _ h), Nat.le_refl _, Nat.le_refl _⟩, ⟨rfl, trivial, trivial⟩, ⟨rfl, rfl, rfl, rfl, trivial⟩, trivial⟩, ?_⟩
    rintro ⟨i, q1, l1⟩ ⟨hi, h1, h2, h3⟩
    dsimp only at hi h1 h2 h3 ⊢
    refine fk_of (fun e => ?_) fun e => ?_
    · have hi2 : i < B.length := by have := ilt_t e; rw [ln_is] at this; simpa using this
      obtain ⟨n, hn⟩ := at_lt hi2
      have hw : wr .i64 (xadd (Int.ofNat i) 1) = Int.ofNat (i + 1) := by unfold xadd; exact wr_id (by simp; omega) (by simp; omega)
      have hrn : ri (rw' (isR B) (tn (Int.ofNat i))) 0 = n := by rw [tn_ofNat, is_at hn]; rfl
      rw [hrn]
      refine fk_t (by (first | rfl | (simp (disch := omega) only [FS, eq_self, List.length_cons, List.length_nil, true_and, and_true, ssz, xadd, xsub, xmul, xmin, xmax] <;> omega) | omega)) (fk_of (fun e => ⟨(i + 1, q1, l1), ⟨hi2, h1, h2, h3⟩, (by show B.length - (i + 1) < B.length - i; omega), ⟨hw, trivial, trivial⟩, ⟨rfl, rfl, rfl, rfl, trivial⟩, trivial⟩) fun e => ?_)
      obtain ⟨u1, u2⟩ := unmet_put (l := l1) (m := n) e ids
      have u2 := u2 (hB.2 n (List.mem_of_getElem? hn))
      have a1 : ∀ (s : Nat) (x y : List Row), x.length ≤ 2000 → y.length ≤ 2000 → s ≤ 24 → apOk s x y = true := fun s x y hx hy hs => by
        unfold apOk
        simp only [Bool.and_eq_true, decide_eq_true_eq]
        have : (x.length + y.length) * s ≤ 4000 * 24 := Nat.mul_le_mul (by omega) hs
        omega
      have lp : (isR p).length ≤ 2000 := by rw [is_len]; omega
      have lq : (qR q1).length ≤ 2000 := by unfold qR; rw [List.length_map]; omega
      refine fk_t (a1 _ _ _ (by simp) lp (by omega)) (fk_t (a1 _ _ _ lp (by simp) (by omega)) (fk_t (a1 _ _ _ lq (by simp) (by omega)) ⟨(i + 1, q1 ++ [p ++ [n]], mput l1 [DV.i n] [DV.b true]), ⟨hi2, fun p' hp' => ?_, ?_, ?_⟩, (by show B.length - (i + 1) < B.length - i; omega), ⟨hw, trivial, trivial⟩, ⟨?_, rfl, rfl, rfl, trivial⟩, trivial⟩))
      · rcases List.mem_append.1 hp' with h | h
        · have := h1 p' h
          dsimp only at this ⊢
          omega
        · rw [List.mem_singleton.1 h, List.length_append]
          dsimp only [List.length_cons, List.length_nil]
          omega
      · dsimp only
        rw [List.length_append]
        dsimp only [List.length_cons, List.length_nil]
        omega
      · dsimp only
        omega
      · show lap (qR q1) [[DV.sl (lap (isR p) [i1R n])]] = qR (q1 ++ [p ++ [n]])
        unfold lap qR isR
        rw [List.map_append]
        simp
    · exact ⟨(q1, l1), ⟨h1, by dsimp only; omega⟩, (by show q1.length + unmet ids l1 < q.length + 1 + unmet ids l; omega), ⟨trivial, trivial⟩, ⟨rfl, rfl, rfl, rfl, trivial⟩, trivial⟩
theorem ok68 : CtOk Tryz.prog T68 := by
  refine ct_cons ok65 (fz := true) fun rs k h => ?_
  obtain ⟨hs, ws, tx, hv, rfl, hk⟩ := h
  refine ⟨_, _, _, (vc68 hs ws tx k).mpr ⟨hs, ws, hv.v, rfl, hs, ws, tx, hv.v, rfl, hk _ ⟨?_⟩⟩⟩
  obtain ⟨b, hb⟩ := hv.b
  exact List.length_pos_of_mem hb
end Go.Proofs.YtgjindhjgmplgaaGreat
end
