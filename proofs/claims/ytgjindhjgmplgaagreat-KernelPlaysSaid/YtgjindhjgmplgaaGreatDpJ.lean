/-
  Deep values: code is what the model runs. No function of the program is named here.
-/
import Derived.Test.YtgjindhjgmplgaaGreatDpI
import Derived.Tactics
import Derived.LoopN
import Derived.Scope
set_option linter.unusedVariables false
set_option linter.unusedSimpArgs false
set_option linter.constructorNameAsVariable false
namespace Go.Proofs.YtgjindhjgmplgaaGreat
open Go.RowKit
theorem look_frzM : ∀ (m : Mem) (x : Nat), look x (frzM m) = (look x m).map frzB
  | [], x => rfl
  | (y, b) :: m, x => by
    have h : look x ((y, frzB b) :: frzM m) = (look x ((y, b) :: m)).map frzB := by
      by_cases e : y = x
      · subst e; rw [look_same, look_same]; rfl
      · rw [look_ne e, look_ne e]; exact look_frzM m x
    exact h
theorem look_frz {m E : Mem} {x : Nat} : look x (frzM E ++ without m (frzM E)) = match look x E with | some B => some (frzB B) | none => look x m := by
  rw [look_append, look_without, look_frzM]
  cases look x E <;> rfl
theorem frz_live {B : Blk} (h : (frzB B).live = true) : B.live = true ∧ frzB B = B := by
  cases B <;> first | exact ⟨rfl, rfl⟩ | cases h
theorem look_pickM : ∀ {m : Mem} {l : List Nat} {x : Nat} {B : Blk}, look x (pickM m l) = some B → x ∈ l ∧ look x m = some B
  | m, [], x, B, h => by cases h
  | m, y :: l, x, B, h => by
    simp only [pickM] at h
    split at h
    · rename_i b hb
      by_cases e : y = x
      · subst e; rw [look_same] at h; cases h; exact ⟨by simp, hb⟩
      · rw [look_ne e] at h
        have := look_pickM h
        exact ⟨by simp [this.1], this.2⟩
    · have := look_pickM h
      exact ⟨by simp [this.1], this.2⟩
section
variable {P : Program} {G : Gd} {φ φ' φ0 : Emb} {z z' z0 : Fz} {fr : Frs} {m E : Mem} {nx n0 N : Nat} {a : Act} {W : List Nat} {a0 : Act} {w w' : World} {k : KVk} {call : CallF}
theorem thawC_ok (hm : MR G φ z m w) {c : DC} {u : Value} (h : CV φ z c u) : CV φ z (thawC m c) u := by
  unfold thawC
  split
  · rename_i x
    split
    · rename_i e rows hx
      obtain ⟨v, h1, _, h3⟩ := hm.blk x _ hx
      have := h.1
      rw [h1] at this
      cases this
      exact h3
    · exact h
  · exact h
theorem thawCs_ok (hm : MR G φ z m w) {l : List DC} {us : List Value} (h : All2 (CV φ z) l us) : All2 (CV φ z) (l.map (thawC m)) us := All2.map (h.mono fun _ _ => thawC_ok hm)
theorem thawV_ok (hm : MR G φ z m w) {v : V} {u : Value} (h : VR φ z v u) : VR φ z (thawV m v) u := by
  cases v with
  | c c => exact thawC_ok (c := c) hm h
  | a l => obtain ⟨us, h1, h2⟩ := h; exact ⟨us, h1, thawCs_ok hm h2⟩
  | r s q => exact h
  | t l => exact h
theorem look_thaw : ∀ {fr : Frs} {t : Nat} {v : V}, look t (thawFr m fr) = some v → ∃ u, look t fr = some u ∧ v = thawV m u
  | (y, u) :: fr, t, v, h => by
    have h : look t ((y, thawV m u) :: thawFr m fr) = some v := h
    by_cases e : y = t
    · subst e; rw [look_same] at h ⊢; cases h; exact ⟨_, rfl, rfl⟩
    · rw [look_ne e] at h ⊢; exact look_thaw h
theorem thawFr_ok (hm : MR G φ z m w) {tmps : Array Value} (h : FR φ z fr tmps) : FR φ z (thawFr m fr) tmps := by
  intro t v hv
  obtain ⟨u, h1, rfl⟩ := look_thaw hv
  exact ⟨(h t u h1).1, thawV_ok hm (h t u h1).2⟩
open Classical in
theorem MR.freeze (r : MR G φ z m w) (hE : ∀ x B, look x E = some B → look x m = some B) : ∃ z', Fz.le z z' ∧ MR G φ z' (frzM E ++ without m (frzM E)) w := by
  let z' : Fz := fun b => match z b with
    | some o => some o
    | none => if ∃ x e rows, look x E = some (.W e rows) ∧ ∃ v, φ x = some v ∧ blkNo v = some b then w.heap[b]? else none
  have hz : Fz.le z z' := fun b o h => by show (match z b with | some o => some o | none => _) = some o; rw [h]
  have hz' : ∀ b o, z' b = some o → z b = some o ∨ (w.heap[b]? = some o ∧ ∃ x e rows, look x E = some (.W e rows) ∧ ∃ v, φ x = some v ∧ blkNo v = some b) := by
    intro b o h
    have h : (match z b with | some o => some o | none => if ∃ x e rows, look x E = some (.W e rows) ∧ ∃ v, φ x = some v ∧ blkNo v = some b then w.heap[b]? else none) = some o := h
    cases hb : z b with
    | some o' => rw [hb] at h; exact .inl h
    | none =>
      rw [hb] at h
      dsimp only at h
      split at h
      · rename_i hc; exact .inr ⟨h, hc⟩
      · cases h
  have hW : ∀ x e rows b o, look x E = some (.W e rows) → (∃ v, φ x = some v ∧ blkNo v = some b) → w.heap[b]? = some o → z' b = some o := by
    intro x e rows b o h1 h2 h3
    have hn : z b = none := r.sep x b ⟨⟨_, hE x _ h1, rfl⟩, h2⟩
    show (match z b with | some o => some o | none => if _ then w.heap[b]? else none) = some o
    rw [hn]
    dsimp only
    rw [if_pos ⟨x, e, rows, h1, h2⟩]; exact h3
  have own : ∀ x b, Owns φ (frzM E ++ without m (frzM E)) x b → Owns φ m x b ∧ ∀ e rows, look x E ≠ some (.W e rows) := by
    intro x b ⟨⟨B, hB, hl⟩, h2⟩
    rw [look_frz] at hB
    cases hx : look x E with
    | some B' =>
      rw [hx] at hB
      cases hB
      obtain ⟨h3, h4⟩ := frz_live hl
      refine ⟨⟨⟨B', hE x _ hx, h3⟩, h2⟩, fun e rows he => ?_⟩
      cases he
      cases h4
    | none =>
      rw [hx] at hB
      exact ⟨⟨⟨B, hB, hl⟩, h2⟩, fun e rows he => nomatch he⟩
  refine ⟨z', hz, ?_, fun x y b h1 h2 => r.inj x y b (own x b h1).1 (own y b h2).1, fun x b h => ?_, fun x b h => r.low x b (own x b h).1, fun b o h => ?_, r.zin.trans hz, fun b o h => ?_, r.old, r.size, r.os, r.tape, r.output⟩
  · intro x B hB
    rw [look_frz] at hB
    cases hx : look x E with
    | none => rw [hx] at hB; exact (r.blk x B hB).le (.refl φ) hz
    | some B' =>
      rw [hx] at hB
      cases hB
      have hb := r.blk x B' (hE x B' hx)
      cases B' with
      | W e rows =>
        rcases hb with ⟨h1, h2⟩ | ⟨b, off, arr, T, cap, h1, h2, h3, h4, h5⟩
        · subst h2
          exact ⟨_, h1, ⟨_, _, _, rfl⟩, none, 0, rfl, Nat.le_refl _, .inl rfl⟩
        · refine ⟨_, h1, ⟨_, _, _, rfl⟩, _, cap, rfl, h2, .inr ⟨b, off, arr, T, (0, 0), rfl, hW x e rows b _ hx ⟨_, h1, rfl⟩ h4, fun i row hr => ?_⟩⟩
          exact RowD.le hz e _ _ (h5 i row hr)
      | J e n l => exact hb.le (.refl φ) hz
      | P a b s e l => exact hb.le (.refl φ) hz
      | R s q => exact hb.le (.refl φ) hz
      | E l => exact hb.le (.refl φ) hz
      | Z e rows => exact hb.le (.refl φ) hz
  · obtain ⟨h1, h2⟩ := own x b h
    cases hzb : z' b with
    | none => rfl
    | some o =>
      rcases hz' b o hzb with h3 | ⟨_, y, e, rows, h3, h4⟩
      · rw [r.sep x b h1] at h3; cases h3
      · have := r.inj x y b h1 ⟨⟨_, hE y _ h3, rfl⟩, h4⟩
        subst this
        exact (h2 e rows h3).elim
  · rcases hz' b o h with h3 | ⟨h3, _⟩
    · exact r.frz b o h3
    · exact h3
  · rcases hz' b o h with h3 | ⟨_, y, e, rows, h3, h4⟩
    · exact r.znew b o h3
    · exact .inr (r.low y b ⟨⟨_, hE y _ h3, rfl⟩, h4⟩)
theorem MR.turn (r : MR G φ z m w) {x : Nat} {B B' : Blk} (hx : look x m = some B) (hl : B.live = true) (hB : BR φ z w x B') : MR G φ z (putM x B' m) w := by
  have sub : ∀ y B1, look y (putM x B' m) = some B1 → B1.live = true → ∃ B2, look y m = some B2 ∧ B2.live = true := by
    intro y B1 h hl1
    by_cases hy : y = x
    · subst hy; exact ⟨B, hx, hl⟩
    · unfold putM at h; rw [look_ne (fun e => hy e.symm), look_drp_ne hy] at h; exact ⟨B1, h, hl1⟩
  refine ⟨?_, fun y u g k1 k2 => r.inj y u g (k1.sub sub) (k2.sub sub), fun y g k => r.sep y g (k.sub sub), fun y g k => r.low y g (k.sub sub), r.frz, r.zin, r.znew, r.old, r.size, r.os, r.tape, r.output⟩
  intro y B1 h
  by_cases hy : y = x
  · subst hy; unfold putM at h; rw [look_same] at h; cases h; exact hB
  · unfold putM at h; rw [look_ne (fun e => hy e.symm), look_drp_ne hy] at h; exact r.blk y B1 h
theorem jof_get {rows : List Row} {c : Nat} {i : Nat} {row : Row} (h : (jof rows c)[i]? = some (some row)) : rows[i]? = some row := by
  unfold jof at h
  by_cases hi : i < rows.length
  · rw [List.getElem?_append_left (by simpa using hi), List.getElem?_map] at h
    obtain ⟨r', h1, h2⟩ := map_some h
    cases h2; exact h1
  · rw [List.getElem?_append_right (by simpa using Nat.le_of_not_lt hi), List.getElem?_replicate] at h
    split at h <;> cases h
theorem jof_len {rows : List Row} {c : Nat} (h : rows.length ≤ c) : (jof rows c).length = c := by
  simp [jof]; omega
theorem openM_ok (hm : MR G φ z m w) {x : Operand} {K : Mem → Prop} (h : openM fr m x K) : ∃ m', K m' ∧ MR G φ z m' w := by
  unfold openM at h
  split at h
  · rename_i y hx
    split at h
    · rename_i e rows hy
      rcases hm.blk y _ hy with ⟨h1, rfl⟩ | ⟨b, off, arr, T, cap, h1, h2, h3, h4, h5⟩
      · exact ⟨_, h 0 (by simp [ile, ln]), hm.turn hy rfl (.inl ⟨h1, by simp [jof], by simp [ln]⟩)⟩
      · refine ⟨_, h cap (by simp [ile, ln]; exact h2), hm.turn hy rfl (.inr ⟨b, off, arr, T, rows.length, ?_, rfl, ?_, ?_, h4, fun i row hi => h5 i row (jof_get hi)⟩)⟩
        · rw [jof_len h2]; exact h1
        · rw [jof_len h2]; exact h2
        · rw [jof_len h2]; exact h3
    · exact ⟨m, h, hm⟩
  · exact ⟨m, h, hm⟩
theorem Done.grow {o : Oper} {op : Op} {ty : TypeId} (hop : op = o.op) (hty : ty = o.type) (h : Done P G φ z nx op ty a.eval w k) : OpWp P G φ z nx o a w k := by
  subst hop; subst hty; exact h.op
theorem OpWp.frz {o : Oper} (hz : Fz.le z z') (h : OpWp P G φ z' nx o a w k) : OpWp P G φ z nx o a w k := by
  intro next Q hn
  exact h next Q fun w' v m' nx' φ' z1 u h1 h2 h3 => hn w' v m' nx' φ' z1 u h1 h2 (hz.trans h3)
theorem dpre_ok (hC : CallOk P call) {o : Oper} (hf : FR φ z fr a.tmps) (hm : MR G φ z m w) (hn : ∀ x, nx ≤ x → φ x = none) (h : dpre fr m o.op fun m => dop P call (thawFr m fr) m nx o.op k) : OpWp P G φ z nx o a w k := by
  have plain : ∀ {m' : Mem} {z' : Fz}, Fz.le z z' → MR G φ z' m' w → dop P call (thawFr m' fr) m' nx o.op k → OpWp P G φ z nx o a w k := by
    intro m' z' hz hm' h'
    have hf' : FR φ z' fr a.tmps := hf.le (.refl φ) hz
    exact (dop_ok hC ⟨thawFr_ok hm' hf', hm', fun _ _ _ _ x h1 _ => hn x h1⟩ h').frz hz
  unfold dpre at h
  split at h
  · obtain ⟨m', h1, h2⟩ := openM_ok hm h; exact plain (.refl z) h2 h1
  · split at h
    · obtain ⟨m', h1, h2⟩ := openM_ok hm h; exact plain (.refl z) h2 h1
    · exact plain (.refl z) hm h
  · rename_i ps _
    obtain ⟨z', h1, h2⟩ := hm.freeze (E := pickM m (ps.toList.flatMap fun p => idsOf fr p.2)) fun x B hx => (look_pickM hx).2
    exact plain h1 h2 h
  · exact plain (.refl z) hm h
theorem eatOf_ok {ops : Array Oper} {o : Oper} {y : Nat} {e : Sh} {rows : List Row} {lo : Operand} (h : eatOf P ops o fr m = some (y, e, rows, lo)) : ∃ t x el, o.op = .slice t (.tmp x) (some lo) none none ∧ look x fr = some (.c (.ow y)) ∧ P.underlying t = some (.slice el) ∧ look y m = some (.W e rows) ∧ ∀ w, (sizeOf el).run P w = .ok e.length w := by
  unfold eatOf at h
  split at h
  · rename_i t x lo' hop
    split at h
    · rename_i y' el hx hu
      split at h
      · rename_i e' rows' ag n hy ha
        cases hb : (selfAsg ops o x && Nat.beq e'.length n) with
        | false => rw [hb] at h; cases h
        | true =>
          rw [hb] at h; cases h
          have := Nat.eq_of_beq_eq_true (and2 hb).2
          exact ⟨t, x, el, hop, hx, hu, hy, fun w => by rw [this]; exact (aggT_run ha w).2⟩
      · cases h
    · cases h
  · cases h
theorem dopS_ok (hC : CallOk P call) {ops : Array Oper} {o : Oper} (hf : FR φ z fr a.tmps) (hm : MR G φ z m w) (hn : ∀ x, nx ≤ x → φ x = none) (h : dopS P call ops o fr m nx k) : OpWp P G φ z nx o a w k := by
  unfold dopS at h
  split at h
  · rename_i y e rows lo he
    obtain ⟨t, x, el, hop, hx, hu, hy, hsz⟩ := eatOf_ok he
    obtain ⟨q, A, hA, h'⟩ := onI_ok h
    obtain ⟨hb, hk⟩ := fk_yes h'
    clear h h'
    obtain ⟨b1, b2⟩ := and2 hb
    have b1 : 0 ≤ A := of_decide_eq_true b1
    have b2 : A ≤ rows.length := of_decide_eq_true b2
    obtain ⟨K, rfl⟩ : ∃ K : Nat, A = K := ⟨A.toNat, by omega⟩
    have eA : a.eval lo = .int q (K : Int) := ev_ok hf hA
    obtain ⟨_, hxv⟩ := hf x _ hx
    obtain ⟨hxφ, _⟩ : CV φ z (.ow y) (a.tmps.getD x undef) := hxv
    have hls : (lsub rows (K : Int) (ln rows)) = rows.drop K := by simp [lsub, ln]
    rw [hls] at hk
    have hrun : ∀ {p : Option Addr} {cap : Nat}, a.eval (.tmp x) = .slice p rows.length cap → rows.length ≤ cap → (opR a.eval (.slice t (.tmp x) (some lo) none none) o.type).run P w = .ok (.value (.slice (if cap = K then p else p.map (·.add (K * e.length))) (rows.length - K) (cap - K))) w := by
      intro p cap hv hcap
      simp only [opR, execOp, hv]
      rw [Sem.run_bind]
      have : (Instr.sliceAt t (.slice p rows.length cap) (Option.map a.eval (some lo)) (Option.map a.eval none) (Option.map a.eval none)).run P w = .ok (.slice (if cap = K then p else p.map (·.add (K * e.length))) (rows.length - K) (cap - K)) w := by
        simp [Instr.sliceAt, Instr.slice, run_underlying hu, Instr.sliceBounds, eA, run_sliceBound (show K ≤ rows.length by omega), hsz w]
      rw [this]; rfl
    have hnew := hn nx (Nat.le_refl _)
    refine Done.grow hop.symm rfl ?_
    rcases hm.blk y _ hy with ⟨h1, rfl⟩ | ⟨b, off, arr, T, cap, h1, h2, h3, h4, h5⟩
    · have hK : K = 0 := by simpa using b2
      subst hK
      rw [h1] at hxφ
      have hv : a.eval (.tmp x) = .slice none 0 0 := (Option.some.inj hxφ).symm
      have hle := Emb.le_add hnew (.slice none 0 0)
      refine ⟨_, _, _, φ.add nx (.slice none 0 0), z, .slice none 0 0, w, _, hk, hle, .refl z, ?_, Dom.add _ _ _, Nat.le_succ _, ⟨Emb.add_same _ _ _, _, _, _, rfl⟩, hrun hv (Nat.le_refl _), by simp [nxv]⟩
      exact (hm.dropped y).new hnew (o := none) rfl rfl rfl rfl rfl (.inl ⟨Emb.add_same _ _ _, rfl⟩)
    · rw [h1] at hxφ
      have hv : a.eval (.tmp x) = .slice (some ⟨b, off, none⟩) rows.length cap := (Option.some.inj hxφ).symm
      have hr := hrun hv h2
      have hl : (rows.drop K).length = rows.length - K := by simp
      by_cases hc : cap = K
      · rw [if_pos hc] at hr
        have hle := Emb.le_add hnew (.slice (some ⟨b, off, none⟩) (rows.length - K) (cap - K))
        refine ⟨_, _, _, φ.add nx _, z, _, w, _, hk, hle, .refl z, ?_, Dom.add _ _ _, Nat.le_succ _, ⟨Emb.add_same _ _ _, _, _, _, rfl⟩, hr, rfl⟩
        refine hm.rename hnew hy rfl h1 rfl rfl (fun _ _ => rfl) rfl rfl rfl rfl (.inr ⟨b, off, arr, T, cap - K, by rw [hl]; exact Emb.add_same _ _ _, by rw [hl]; omega, ?_, h4, fun i row hi => ?_⟩)
        · have : cap - K = 0 := by omega
          rw [this]
          have : 0 ≤ cap * e.length := Nat.zero_le _
          omega
        · have : (rows.drop K).length = 0 := by omega
          rw [List.eq_nil_of_length_eq_zero this] at hi
          simp at hi
      · rw [if_neg hc, Option.map_some, Addr.add_lit] at hr
        have hle := Emb.le_add hnew (.slice (some ⟨b, off + K * e.length, none⟩) (rows.length - K) (cap - K))
        refine ⟨_, _, _, φ.add nx _, z, _, w, _, hk, hle, .refl z, ?_, Dom.add _ _ _, Nat.le_succ _, ⟨Emb.add_same _ _ _, _, _, _, rfl⟩, hr, rfl⟩
        refine hm.rename hnew hy rfl h1 rfl rfl (fun _ _ => rfl) rfl rfl rfl rfl (.inr ⟨b, off + K * e.length, arr, T, cap - K, by rw [hl]; exact Emb.add_same _ _ _, by rw [hl]; omega, ?_, h4, fun i row hi => ?_⟩)
        · rw [Nat.mul_sub_right_distrib]
          have : K * e.length ≤ cap * e.length := Nat.mul_le_mul_right _ (by omega)
          omega
        · rw [List.getElem?_drop] at hi
          have := h5 _ row hi
          rwa [Nat.add_mul, ← Nat.add_assoc] at this
  · exact dpre_ok hC hf hm hn h
theorem put_size (a : Act) (d : Option Tmp) (u : Value) : (a.put d u).tmps.size = a.tmps.size := by
  cases d <;> simp [Act.put]
theorem put_defers (a : Act) (d : Option Tmp) (u : Value) : (a.put d u).defers = a.defers := by
  cases d <;> rfl
theorem FR.cons {tmps : Array Value} (h : FR φ z fr tmps) {t : Nat} {v : V} (ht : t < tmps.size) (hv : VR φ z v (tmps.getD t undef)) : FR φ z ((t, v) :: fr) tmps := by
  intro t' v' h'
  by_cases e : t = t'
  · subst e; rw [look_same] at h'; cases h'; exact ⟨ht, hv⟩
  · rw [look_ne e] at h'; exact h t' v' h'
theorem putK_ok {d : Option Tmp} {v : V} {u : Value} {K : Frs → Prop} (h : putK N d v fr K) (hf : FR φ z fr a.tmps) (hv : VR φ z v u) (hN : N ≤ a.tmps.size) : ∃ fr', K fr' ∧ FR φ z fr' (a.put d u).tmps := by
  cases d with
  | none => exact ⟨fr, h, hf⟩
  | some t =>
    have h : cond (Nat.blt t N) (K ((t, v) :: fr)) False := h
    cases hb : Nat.blt t N with
    | false => rw [hb] at h; exact h.elim
    | true =>
      rw [hb] at h
      have hlt : t < N := by simpa using hb
      refine ⟨_, h, ?_⟩
      intro t' v' h'
      by_cases e : t = t'
      · subst e
        rw [look_same] at h'; cases h'
        have hlt2 : t < a.tmps.size := Nat.lt_of_lt_of_le hlt hN
        refine ⟨by rw [put_size]; exact hlt2, ?_⟩
        have : (a.put (some t) u).tmps.getD t undef = u := by
          simp [Act.put, hlt2]
        rw [this]; exact hv
      · rw [look_ne e] at h'
        obtain ⟨h1, h2⟩ := hf t' v' h'
        refine ⟨by rw [put_size]; exact h1, ?_⟩
        have : (a.put (some t) u).tmps.getD t' undef = a.tmps.getD t' undef := by
          simp [Act.put, Array.getElem?_setIfInBounds_ne e]
        rw [this]; exact h2
theorem gate_ok {ops : Array Oper} {o : Oper} {yes no : Frs → Prop} (h : gate ops fr o yes no) (hf : FR φ z fr a.tmps) : ∃ fr', FR φ z fr' a.tmps ∧ ((Region.wanted o (yielded ops a.tmps) = true ∧ yes fr') ∨ (Region.wanted o (yielded ops a.tmps) = false ∧ no fr')) := by
  unfold gate at h
  split at h
  · rename_i hg; exact ⟨fr, hf, .inl ⟨by simp [Region.wanted, hg], h⟩⟩
  · rename_i j want hg
    split at h
    · rename_i t ht
      have hy : yielded ops a.tmps j = match a.tmps[t]? with | some (.bool b) => some b | _ => none := by
        unfold yielded; rw [ht]; rfl
      have hw : Region.wanted o (yielded ops a.tmps) = (yielded ops a.tmps j == some want) := by simp [Region.wanted, hg]
      have hget : t < a.tmps.size → a.tmps[t]? = some (a.tmps.getD t undef) := by
        intro hlt; simp [hlt]
      split at h
      · rename_i b hb
        obtain ⟨hlt, hv⟩ := hf t _ hb
        have hv : a.tmps.getD t undef = .bool b := hv
        have hy : yielded ops a.tmps j = some b := by rw [hy, hget hlt, hv]
        rw [hy] at hw
        rcases fk_ok h with ⟨rfl, h⟩ | ⟨rfl, h⟩
        · refine ⟨_, hf.cons hlt (v := .c (.b true)) hv, ?_⟩
          cases want with
          | true => exact .inl ⟨hw, h⟩
          | false => exact .inr ⟨hw, h⟩
        · refine ⟨_, hf.cons hlt (v := .c (.b false)) hv, ?_⟩
          cases want with
          | true => exact .inr ⟨hw, h⟩
          | false => exact .inl ⟨hw, h⟩
      · rename_i hb
        obtain ⟨hlt, vs, hv, hv2⟩ := hf t _ hb
        have hy : yielded ops a.tmps j = none := by rw [hy, hget hlt, hv]
        rw [hy] at hw
        exact ⟨fr, hf, .inr ⟨hw, h⟩⟩
      · exact h.elim
    · exact h.elim
theorem known_ok {x : Operand} {b : Bool} (hf : FR φ z fr a.tmps) (hx : ev fr x = some (.c (.b b))) : FR φ z (known fr x b) a.tmps := by
  cases x with
  | tmp t => obtain ⟨h1, h2⟩ := hf t _ hx; exact hf.cons h1 h2
  | _ => exact hf
structure At (G : Gd) (φ0 : Emb) (z0 : Fz) (n0 : Nat) (W : List Nat) (a0 : Act) (N : Nat) (st : St) (a : Act) (w : World) : Prop where
  ex : ∃ φ z, FR φ z st.fr a.tmps ∧ MR G φ z st.m w ∧ Lt φ st.nx ∧ (∀ x, x < n0 → φ x = φ0 x) ∧ Fz.le z0 z
  n : n0 ≤ st.nx
  sz : N ≤ a.tmps.size
  d : a.defers = []
  kp : a.tmps.size = a0.tmps.size ∧ ∀ t, t ∉ W → a.tmps.getD t undef = a0.tmps.getD t undef
def exR : Ex → Exit
  | .nrm => .normal
  | .ex i => .exit i
  | .ret => .ret
def Pst (G : Gd) (φ0 : Emb) (z0 : Fz) (n0 : Nat) (W : List Nat) (a0 : Act) (N : Nat) (K : Ex → St → Prop) (e : Exit) (a : Act) (w : World) : Prop := ∃ e' st', e = exR e' ∧ K e' st' ∧ At G φ0 z0 n0 W a0 N st' a w
theorem put_get_ne {d : Option Tmp} {u : Value} {t : Nat} (h : d ≠ some t) : (a.put d u).tmps.getD t undef = a.tmps.getD t undef := by
  cases d with
  | none => rfl
  | some d =>
    have hne : d ≠ t := fun e => h (by rw [e])
    simp [Act.put, Array.getElem?_setIfInBounds_ne hne]
theorem kp_put {d : Option Tmp} (hd : ∀ t, d = some t → t ∈ W) (h : a.tmps.size = a0.tmps.size ∧ ∀ t, t ∉ W → a.tmps.getD t undef = a0.tmps.getD t undef) (u : Value) : (a.put d u).tmps.size = a0.tmps.size ∧ ∀ t, t ∉ W → (a.put d u).tmps.getD t undef = a0.tmps.getD t undef := by
  refine ⟨(put_size a d u).trans h.1, fun t ht => ?_⟩
  rw [put_get_ne (fun e => ht (hd t e))]; exact h.2 t ht
theorem dregS_ok (hC : CallOk P call) {ops : Array Oper} {Q : Exit → Act → World → Prop} : ∀ (l : List Oper) (fr : Frs) (m : Mem) (nx : Nat) (K : Frs → Mem → Nat → Prop) (a : Act) (w : World), (∀ o ∈ l, ∀ t, o.dst = some t → t ∈ W) → dregS P call N ops l fr m nx K → At G φ0 z0 n0 W a0 N ⟨fr, m, nx⟩ a w → (∀ fr m nx a w, K fr m nx → At G φ0 z0 n0 W a0 N ⟨fr, m, nx⟩ a w → Q .normal a w) → wpList P ops Q l a w
  | [], fr, m, nx, K, a, w, hW, h, hA, hq => hq _ _ _ _ _ h hA
  | o :: l, fr, m, nx, K, a, w, hW, h, hA, hq => by
    obtain ⟨⟨φ, z, hf, hm, hlt, hlo, hz⟩, hn, hsz, hd, hkp⟩ := hA
    have hW1 := hW o List.mem_cons_self
    have hW2 : ∀ o ∈ l, ∀ t, o.dst = some t → t ∈ W := fun o ho => hW o (List.mem_cons_of_mem _ ho)
    obtain ⟨fr', hf', ⟨hw, h1⟩ | ⟨hw, h1⟩⟩ := gate_ok h hf
    · have h1 : dopS P call ops o fr' m nx fun v m' nx' => putK N o.dst v fr' fun fr => dregS P call N ops l fr m' nx' K := h1
      unfold wpList
      rw [if_pos hw]
      refine .inl (dopS_ok hC hf' hm (fun x h1 => hlt.none h1) h1 _ Q ?_)
      intro w' v m' nx' φ' z' u hk h2 h3 h4 h5 h6 h7
      obtain ⟨fr2, h8, h9⟩ := putK_ok (a := a) hk (hf'.le h2 h3) h7 hsz
      refine dregS_ok hC l fr2 m' nx' K _ w' hW2 h8 ⟨⟨φ', z', h9, h4, hlt.dom h5 h6, fun x hx => ?_, hz.trans h3⟩, Nat.le_trans hn h6, by rw [put_size]; exact hsz, by rw [put_defers]; exact hd, kp_put hW1 hkp u⟩ hq
      rw [← hlo x hx]
      cases hq : φ x with
      | some y => exact h2 x y hq
      | none =>
        cases hq' : φ' x with
        | none => rfl
        | some y =>
          rcases h5 x y hq' with h10 | h10
          · rw [hq] at h10; cases h10
          · have : n0 ≤ nx := hn
            omega
    · have h1 : putK N o.dst (.t []) fr' fun fr => dregS P call N ops l fr m nx K := h1
      unfold wpList
      rw [if_neg (by simp [hw])]
      obtain ⟨fr2, h8, h9⟩ := putK_ok (a := a) h1 hf' undef_ok hsz
      exact dregS_ok hC l fr2 m nx K _ w hW2 h8 ⟨⟨φ, z, h9, hm, hlt, hlo, hz⟩, hn, by rw [put_size]; exact hsz, by rw [put_defers]; exact hd, kp_put hW1 hkp _⟩ hq
section
variable {r : Rnm}
def Rn (r : Rnm) (φ φ' : Emb) (x : Nat) : Prop := φ' x = match rnX r x with | some y => φ y | none => some (.slice none 0 0)
theorem rnL_ok : ∀ {l l' : List Nat} {xs : List Value}, rnL r l = some l' → (∀ x ∈ l, Rn r φ φ' x) → All2 (fun x u => ∃ b, φ x = some (.pointer (some ⟨b, 0, none⟩)) ∧ u = .pointer (some ⟨b, 0, none⟩)) l' xs → All2 (fun x u => ∃ b, φ' x = some (.pointer (some ⟨b, 0, none⟩)) ∧ u = .pointer (some ⟨b, 0, none⟩)) l xs
  | [], l', xs, e, hi, h => by cases e; cases h; exact .nil
  | x :: l, l', xs, e, hi, h => by
    simp only [rnL] at e
    split at e
    · rename_i y m h1 h2
      cases e
      cases h with
      | cons h3 h4 =>
        obtain ⟨b, h5, h6⟩ := h3
        refine .cons ⟨b, ?_, h6⟩ (rnL_ok h2 (fun x hx => hi x (by simp [hx])) h4)
        have := hi x (by simp)
        unfold Rn at this
        rw [this, h1]; exact h5
    · cases e
theorem rnC_ok {c c' : DC} {v : Value} (e : rnC r c = some c') (hi : ∀ x ∈ idsC c, Rn r φ φ' x) (h : CV φ z c' v) : CV φ' z c v := by
  cases c with
  | pv x off =>
    have hx := hi x (by simp [idsC])
    unfold Rn at hx
    simp only [rnC] at e
    split at e
    · rename_i y hy
      cases e
      obtain ⟨b, h1, h2⟩ := h
      exact ⟨b, by rw [hx, hy]; exact h1, h2⟩
    · cases e
  | pw x e1 i off =>
    have hx := hi x (by simp [idsC])
    unfold Rn at hx
    simp only [rnC] at e
    split at e
    · rename_i y hy
      cases e
      obtain ⟨b, o, n, cap, h1, h2⟩ := h
      exact ⟨b, o, n, cap, by rw [hx, hy]; exact h1, h2⟩
    · cases e
  | bp x e1 lo hi' =>
    have hx := hi x (by simp [idsC])
    unfold Rn at hx
    simp only [rnC] at e
    split at e
    · rename_i y hy
      cases e
      obtain ⟨p, n, cap, l, u, h1, h2⟩ := h
      exact ⟨p, n, cap, l, u, by rw [hx, hy]; exact h1, h2⟩
    · cases e
  | mp x =>
    have hx := hi x (by simp [idsC])
    unfold Rn at hx
    simp only [rnC] at e
    split at e
    · rename_i y hy
      cases e
      exact ⟨by rw [hx, hy]; exact h.1, h.2⟩
    · cases e
  | oe x n =>
    have hx := hi x (by simp [idsC])
    unfold Rn at hx
    simp only [rnC] at e
    split at e
    · rename_i y hy
      cases e
      obtain ⟨b, h1, h2⟩ := h
      exact ⟨b, by rw [hx, hy]; exact h1, h2⟩
    · cases e
  | fb f x =>
    have hx := hi x (by simp [idsC])
    unfold Rn at hx
    simp only [rnC] at e
    split at e
    · rename_i y hy
      cases e
      obtain ⟨b, h1, h2⟩ := h
      exact ⟨b, by rw [hx, hy]; exact h1, h2⟩
    · cases e
  | un => cases e; exact h
  | ow x =>
    have hx := hi x (by simp [idsC])
    unfold Rn at hx
    simp only [rnC] at e
    split at e
    · rename_i y hy
      cases e
      exact ⟨by rw [hx, hy]; exact h.1, h.2⟩
    · rename_i hy
      cases e
      have h : v = .slice none 0 0 := h
      exact ⟨by rw [hx, hy, h], none, 0, 0, h⟩
  | fn f l =>
    simp only [rnC] at e
    split at e
    · rename_i m hm
      cases e
      obtain ⟨xs, h1, h2⟩ := h
      exact ⟨xs, h1, rnL_ok hm hi h2⟩
    · cases e
  | b x => cases e; exact h
  | i k n => cases e; exact h
  | s y => cases e; exact h
  | sn => cases e; exact h
  | sl e1 l => cases e; exact h
  | cl e1 l => cases e; exact h
  | pf e1 r off => cases e; exact h
  | pn => cases e; exact h
  | fz => cases e; exact h
theorem rnCs_ok : ∀ {l l' : List DC} {vs : List Value}, rnCs r l = some l' → (∀ x ∈ l.flatMap idsC, Rn r φ φ' x) → All2 (CV φ z) l' vs → All2 (CV φ' z) l vs
  | [], l', vs, e, hi, h => by cases e; cases h; exact .nil
  | x :: l, l', vs, e, hi, h => by
    simp only [rnCs] at e
    split at e
    · rename_i y m h1 h2
      cases e
      cases h with
      | cons h3 h4 => exact .cons (rnC_ok h1 (fun x hx => hi x (by simp [hx])) h3) (rnCs_ok h2 (fun x hx => hi x (by simp only [List.flatMap_cons, List.mem_append]; exact .inr hx)) h4)
    · cases e
theorem rnP_ok {v v' : V} {u : Value} (e : rnP r v = some v') (hi : ∀ x ∈ idsP v, Rn r φ φ' x) (h : VR φ z v' u) : VS φ' z v u := by
  cases v with
  | c x =>
    simp only [rnP] at e
    split at e
    · rename_i y hy; cases e; exact rnC_ok hy hi h
    · cases e
  | r s q => cases e; exact h
  | a l =>
    simp only [rnP] at e
    split at e
    · rename_i y hy; cases e
      obtain ⟨vs, h1, h2⟩ := h
      exact ⟨vs, h1, rnCs_ok hy hi h2⟩
    · cases e
  | t l => cases e
theorem rnPs_ok : ∀ {l l' : List V} {vs : List Value}, rnPs r l = some l' → (∀ x ∈ l.flatMap idsP, Rn r φ φ' x) → All2 (VS φ z) l' vs → All2 (VS φ' z) l vs
  | [], l', vs, e, hi, h => by cases e; cases h; exact .nil
  | x :: l, l', vs, e, hi, h => by
    simp only [rnPs] at e
    split at e
    · rename_i y m h1 h2
      cases e
      cases h with
      | cons h3 h4 => exact .cons (rnP_ok h1 (fun x hx => hi x (by simp [hx])) h3.vr) (rnPs_ok h2 (fun x hx => hi x (by simp only [List.flatMap_cons, List.mem_append]; exact .inr hx)) h4)
    · cases e
theorem rnV_ok {v v' : V} {u : Value} (e : rnV r v = some v') (hi : ∀ x ∈ idsV v, Rn r φ φ' x) (h : VR φ z v' u) : VR φ' z v u := by
  cases v with
  | t l =>
    simp only [rnV] at e
    split at e
    · rename_i y hy; cases e
      obtain ⟨vs, h1, h2⟩ := h
      exact ⟨vs, h1, rnPs_ok hy hi h2⟩
    · cases e
  | c x => exact (rnP_ok (v := .c x) e hi h).vr
  | r s q => exact (rnP_ok (v := .r s q) e hi h).vr
  | a l => exact (rnP_ok (v := .a l) e hi h).vr
theorem look_mem {α : Type} : ∀ {l : List (Nat × α)} {x : Nat} {v : α}, look x l = some v → (x, v) ∈ l
  | (y, u) :: l, x, v, h => by
    by_cases e : y = x
    · subst e; rw [look_same] at h; cases h; simp
    · rw [look_ne e] at h; exact List.mem_cons_of_mem _ (look_mem h)
theorem oneIf_ok {c : Bool} {p : Prop} (h : oneIf c p) : c = true ∧ p := by
  cases c with
  | true => exact ⟨rfl, h⟩
  | false => exact h.elim
theorem natsB_eq : ∀ {l m : List Nat}, natsB l m = true → l = m
  | [], [], _ => rfl
  | x :: l, y :: m, h => by
    obtain ⟨h1, h2⟩ := and2 (show (Nat.beq x y && natsB l m) = true from h)
    rw [Nat.eq_of_beq_eq_true h1, natsB_eq h2]
theorem dcEq_ok {x y : DC} (h : dcEq x y) : x = y := by
  cases x <;> cases y <;> first | exact False.elim h | skip
  · rw [show _ = _ from h]
  · obtain ⟨h1, h2⟩ := oneIf_ok h; rw [of_decide_eq_true h1, h2]
  · rw [show _ = _ from h]
  · rfl
  · obtain ⟨h1, h2⟩ := oneIf_ok h; rw [shEq_eq _ _ h1, h2]
  · obtain ⟨h1, h2⟩ := oneIf_ok h; rw [shEq_eq _ _ h1, h2]
  · obtain ⟨h1, h2⟩ := oneIf_ok h; obtain ⟨h1, h3⟩ := and2 h1; rw [Nat.eq_of_beq_eq_true h1, Nat.eq_of_beq_eq_true h3]
  · obtain ⟨h1, h2⟩ := oneIf_ok h; obtain ⟨h1, h3⟩ := and2 h1; rw [shEq_eq _ _ h1, Nat.eq_of_beq_eq_true h3, h2]
  · obtain ⟨h1, h2⟩ := oneIf_ok h; obtain ⟨h1, h3⟩ := and2 h1; obtain ⟨h3, h4⟩ := and2 h3; rw [Nat.eq_of_beq_eq_true h1, shEq_eq _ _ h3, Nat.eq_of_beq_eq_true h4, h2]
  · obtain ⟨h1, h2⟩ := oneIf_ok h; rw [Nat.eq_of_beq_eq_true h1]
  · obtain ⟨h1, h2⟩ := oneIf_ok h; obtain ⟨h1, h3⟩ := and2 h1; rw [Nat.eq_of_beq_eq_true h1, natsB_eq h3]
  · rfl
  · rfl
  · obtain ⟨h1, h2, h3⟩ := oneIf_ok h; obtain ⟨h1, h4⟩ := and2 h1; rw [Nat.eq_of_beq_eq_true h1, shEq_eq _ _ h4, h2, h3]
  · obtain ⟨h1, h2⟩ := oneIf_ok h; rw [Nat.eq_of_beq_eq_true h1]
  · obtain ⟨h1, h2⟩ := oneIf_ok h; obtain ⟨h1, h3⟩ := and2 h1; rw [Nat.eq_of_beq_eq_true h1, Nat.eq_of_beq_eq_true h3]
  · obtain ⟨h1, h2⟩ := oneIf_ok h; obtain ⟨h1, h3⟩ := and2 h1; rw [Nat.eq_of_beq_eq_true h1, Nat.eq_of_beq_eq_true h3]
theorem dcsEq_ok : ∀ {l m : List DC}, dcsEq l m → l = m
  | [], [], _ => rfl
  | x :: l, y :: m, h => by rw [dcEq_ok h.1, dcsEq_ok h.2]
theorem vpEq_ok {x y : V} (h : vpEq x y) : x = y := by
  cases x <;> cases y <;> first | exact False.elim h | skip
  · rw [dcEq_ok h]
  · obtain ⟨h1, h2⟩ := oneIf_ok h; rw [shEq_eq _ _ h1, h2]
  · rw [dcsEq_ok h]
theorem vpsEq_ok : ∀ {l m : List V}, vpsEq l m → l = m
  | [], [], _ => rfl
  | x :: l, y :: m, h => by rw [vpEq_ok h.1, vpsEq_ok h.2]
theorem vEq_ok {x y : V} (h : vEq x y) : x = y := by
  cases x with
  | t l =>
    cases y with
    | t m => rw [vpsEq_ok h]
    | _ => exact False.elim h
  | _ => exact vpEq_ok h
theorem blEq_ok {x y : Blk} (h : blEq x y) : x = y := by
  cases x <;> cases y <;> first | exact False.elim h | skip
  · obtain ⟨h1, h2⟩ := oneIf_ok h; rw [shEq_eq _ _ h1, h2]
  · rw [dcsEq_ok h]
  · obtain ⟨h1, h2⟩ := oneIf_ok h; rw [shEq_eq _ _ h1, h2]
  · obtain ⟨h1, h2⟩ := oneIf_ok h; rw [shEq_eq _ _ h1, h2]
  · obtain ⟨h1, h2⟩ := oneIf_ok h
    obtain ⟨h1, h3⟩ := and2 h1
    obtain ⟨h3, h4⟩ := and2 h3
    obtain ⟨h4, h5⟩ := and2 h4
    rw [bEq_ok h1, bEq_ok h3, shEq_eq _ _ h4, shEq_eq _ _ h5, h2]
theorem subFr_mem : ∀ {s : Frs} {p : Nat × V}, subFr r fr s → p ∈ s → ∃ v, rnV r p.2 = some v ∧ look p.1 fr = some v
  | q :: s, p, h, hp => by
    rcases List.mem_cons.1 hp with rfl | hp
    · have := h.1
      split at this
      · rename_i v hv
        obtain ⟨u, h1, h2⟩ := oP_ok this
        exact ⟨v, hv, by rw [h1, vEq_ok h2]⟩
      · exact this.elim
    · exact subFr_mem h.2 hp
theorem subM_mem : ∀ {s : Mem} {p : Nat × Blk}, subM r m s → p ∈ s → (∃ y b, rnX r p.1 = some y ∧ rnB r p.2 = some b ∧ look y m = some b) ∨ (rnX r p.1 = none ∧ ∃ e, p.2 = .W e [])
  | q :: s, p, h, hp => by
    rcases List.mem_cons.1 hp with rfl | hp
    · have := h.1
      split at this
      · rename_i y hy
        split at this
        · rename_i b hb
          obtain ⟨u, h1, h2⟩ := oP_ok this
          exact .inl ⟨y, b, hy, hb, by rw [h1, blEq_ok h2]⟩
        · exact this.elim
      · rename_i hy; exact .inr ⟨hy, this⟩
    · exact subM_mem h.2 hp
theorem nodup_inj {α : Type} {f : α → Option Nat} : ∀ {l : List α} {p q : α} {u : Nat}, nodupB (l.filterMap f) = true → p ∈ l → q ∈ l → f p = some u → f q = some u → p = q
  | x :: l, p, q, u, h, hp, hq, h1, h2 => by
    cases hx : f x with
    | none =>
      rw [List.filterMap_cons_none hx] at h
      rcases List.mem_cons.1 hp with rfl | hp
      · rw [hx] at h1; cases h1
      · rcases List.mem_cons.1 hq with rfl | hq
        · rw [hx] at h2; cases h2
        · exact nodup_inj h hp hq h1 h2
    | some y =>
      rw [List.filterMap_cons_some hx] at h
      obtain ⟨h3, h4⟩ := and2 (show (!((l.filterMap f).any fun z => Nat.beq y z) && nodupB (l.filterMap f)) = true from h)
      have no : ∀ s ∈ l, f s = some y → False := by
        intro s hs hfs
        have : (l.filterMap f).any (fun z => Nat.beq y z) = true := List.any_eq_true.2 ⟨y, List.mem_filterMap.2 ⟨s, hs, hfs⟩, by simp⟩
        rw [this] at h3; cases h3
      rcases List.mem_cons.1 hp with e1 | e1 <;> rcases List.mem_cons.1 hq with e2 | e2
      · rw [e1, e2]
      · rw [e1, hx] at h1; cases h1; exact (no q e2 h2).elim
      · rw [e2, hx] at h2; cases h2; exact (no p e1 h1).elim
      · exact nodup_inj h4 e1 e2 h1 h2
end
theorem rnB_live {r : Rnm} {B B' : Blk} (e : rnB r B = some B') (h : B.live = true) : B'.live = true := by
  cases B with
  | E l =>
    simp only [rnB] at e
    split at e
    · cases e; rfl
    · cases e
  | R s q => cases e; rfl
  | W s q => cases e; rfl
  | Z s q => cases h
  | J s n q => cases e; rfl
  | P a b s e' q => cases e; rfl
theorem BR.rn {r : Rnm} {x y : Nat} {B B' : Blk} (e : rnB r B = some B') (h : BR φ z w y B') (hx : φ' x = φ y) (hi : ∀ q ∈ idsB B, Rn r φ φ' q) : BR φ' z w x B := by
  cases B with
  | R s r => cases e; obtain ⟨b, arr, T, h1, h2⟩ := h; exact ⟨b, arr, T, by rw [hx]; exact h1, h2⟩
  | E l =>
    simp only [rnB] at e
    split at e
    · rename_i l' hl
      cases e
      obtain ⟨b, arr, T, h1, h2, h3⟩ := h
      exact ⟨b, arr, T, by rw [hx]; exact h1, h2, rnCs_ok hl hi h3⟩
    · cases e
  | W e1 rows =>
    cases e
    rcases h with ⟨h1, h2⟩ | ⟨b, off, arr, T, cap, h1, h2⟩
    · exact .inl ⟨by rw [hx]; exact h1, h2⟩
    · exact .inr ⟨b, off, arr, T, cap, by rw [hx]; exact h1, h2⟩
  | J e1 n l =>
    cases e
    rcases h with ⟨h1, h2⟩ | ⟨b, off, arr, T, q, h1, h2⟩
    · exact .inl ⟨by rw [hx]; exact h1, h2⟩
    · exact .inr ⟨b, off, arr, T, q, by rw [hx]; exact h1, h2⟩
  | P ka va ks vs l => cases e; obtain ⟨b, es, clock, h1, h2⟩ := h; exact ⟨b, es, clock, by rw [hx]; exact h1, h2⟩
  | Z e1 rows => cases e; obtain ⟨v, h1, h2⟩ := h; exact ⟨v, by rw [hx]; exact h1, h2⟩
theorem At.sub {st s : St} {nx0 : Nat} (hA : At G φ0 z0 n0 W a0 N st a w) (hS : Sub nx0 st s) (hn : n0 ≤ nx0) : At G φ0 z0 n0 W a0 N s a w := by
  obtain ⟨⟨φ, z, hf, hm, hlt, hlo, hz⟩, hn1, hsz, hd, hkp⟩ := hA
  obtain ⟨hF, hM, hok⟩ := hS
  have hok := (oneIf_ok hok).1
  generalize mkR nx0 st s = r at hF hM hok
  obtain ⟨k1, k2⟩ := and2 hok
  obtain ⟨k3, k4⟩ := and2 k2
  obtain ⟨k5, k6⟩ := and2 k4
  have k3 : nx0 ≤ s.nx := by simpa using k3
  have k6 : ∀ p ∈ r, nx0 ≤ p.1 := fun p hp => by simpa using List.all_eq_true.1 k6 p hp
  let ψ : Emb := fun x => if x < nx0 then φ x else if x < s.nx then (match look x r with | some (some y) => φ y | some none => some (.slice none 0 0) | none => none) else none
  have hψ : ∀ x ∈ (s.fr.flatMap fun p => idsV p.2) ++ idsM s.m, Rn r φ ψ x := by
    intro x hx
    obtain ⟨h1, h2⟩ := and2 (List.all_eq_true.1 k1 x hx)
    have h1 : x < s.nx := by simpa using h1
    show (if x < nx0 then φ x else if x < s.nx then (match look x r with | some (some y) => φ y | some none => some (.slice none 0 0) | none => none) else none) = _
    unfold rnX
    by_cases hlt0 : x < nx0
    · rw [if_pos hlt0]
      cases hl : look x r with
      | none => rfl
      | some o => have := k6 _ (look_mem hl); simp only at this; omega
    · rw [if_neg hlt0, if_pos h1]
      cases hl : look x r with
      | none =>
        rw [hl] at h2
        simp at h2
        omega
      | some o => cases o <;> rfl
  have idm : ∀ x B, look x s.m = some B → (∀ q ∈ idsB B, Rn r φ ψ q) ∧ Rn r φ ψ x := fun x B h => ⟨fun q hq => hψ q (List.mem_append_right _ ((idsM_key h).2 q hq)), hψ x (List.mem_append_right _ (idsM_key h).1)⟩
  have own : ∀ x b, Owns ψ s.m x b → ∃ y B, rnX r x = some y ∧ (x, B) ∈ s.m ∧ Owns φ st.m y b := by
    intro x b ⟨⟨B, hB, hl⟩, v, hv, hb⟩
    have hx := (idm x B hB).2
    unfold Rn at hx
    rcases subM_mem hM (look_mem hB) with ⟨y, B', h1, h2, h3⟩ | ⟨h1, h2⟩
    · simp only at h1
      rw [h1, hv] at hx
      exact ⟨y, B, h1, look_mem hB, ⟨_, h3, rnB_live h2 hl⟩, v, hx.symm, hb⟩
    · simp only at h1
      rw [h1, hv] at hx
      cases hx
      cases hb
  refine ⟨⟨ψ, z, ?_, ⟨?_, ?_, ?_, ?_, hm.frz, hm.zin, hm.znew, hm.old, hm.size, hm.os, hm.tape, hm.output⟩, ?_, ?_, hz⟩, Nat.le_trans hn k3, hsz, hd, hkp⟩
  · intro t v hv
    have hmem := look_mem hv
    obtain ⟨v', h1, h2⟩ := subFr_mem hF hmem
    obtain ⟨h3, h4⟩ := hf _ _ h2
    exact ⟨h3, rnV_ok h1 (fun x hx => hψ x (List.mem_append_left _ (List.mem_flatMap.2 ⟨_, hmem, hx⟩))) h4⟩
  · intro x B hB
    obtain ⟨hi, hx⟩ := idm x B hB
    unfold Rn at hx
    rcases subM_mem hM (look_mem hB) with ⟨y, B', h1, h2, h3⟩ | ⟨h1, e, h2⟩
    · simp only at h1 h2
      rw [h1] at hx
      exact BR.rn h2 (hm.blk y B' h3) hx hi
    · simp only at h1 h2
      rw [h1] at hx
      subst h2
      exact .inl ⟨hx, rfl⟩
  · intro x y b h1 h2
    obtain ⟨x', B1, e1, m1, o1⟩ := own x b h1
    obtain ⟨y', B2, e2, m2, o2⟩ := own y b h2
    have := hm.inj _ _ _ o1 o2
    subst this
    exact congrArg Prod.fst (nodup_inj (f := fun p : Nat × Blk => rnX r p.1) k5 m1 m2 e1 e2)
  · intro x b h1
    obtain ⟨x', B1, e1, m1, o1⟩ := own x b h1
    exact hm.sep _ _ o1
  · intro x b h1
    obtain ⟨x', B1, e1, m1, o1⟩ := own x b h1
    exact hm.low _ _ o1
  · intro x v hv
    have hv : (if x < nx0 then φ x else if x < s.nx then (match look x r with | some (some y) => φ y | some none => some (.slice none 0 0) | none => none) else none) = some v := hv
    by_cases h1 : x < nx0
    · omega
    · rw [if_neg h1] at hv
      by_cases h2 : x < s.nx
      · exact h2
      · rw [if_neg h2] at hv; cases hv
  · intro x hx
    show (if x < nx0 then φ x else _) = _
    rw [if_pos (by omega)]
    exact hlo x hx
end
end Go.Proofs.YtgjindhjgmplgaaGreat
