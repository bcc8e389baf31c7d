/-
  Deep values: what the leaves of a condition say. No function of the program is named here.
-/
import Derived.Test.YtgjindhjgmplgaaGreatDpP
set_option linter.unusedVariables false
set_option linter.unusedSimpArgs false
section
set_option linter.constructorNameAsVariable false
namespace Go.Proofs.YtgjindhjgmplgaaGreat
open Go.RowKit
section
variable {P : Program} {G : Gd} {φ φ' φ0 : Emb} {z z' z0 : Fz} {fr : Frs} {m : Mem} {nx n0 N : Nat} {a : Act} {W : List Nat} {a0 : Act} {w w' : World} {k : KVk} {call : CallF}
theorem Pst.mono {K K' : Ex → St → Prop} {e : Exit} (h : Pst G φ0 z0 n0 W a0 N K e a w) (hk : ∀ e st, K e st → K' e st) : Pst G φ0 z0 n0 W a0 N K' e a w := by
  obtain ⟨e', st', h1, h2, h3⟩ := h
  exact ⟨e', st', h1, hk _ _ h2, h3⟩
theorem look_keepF {l : List Nat} : ∀ {fr : Frs} {t : Nat} {v : V}, look t (keepF l fr) = some v → t ∉ l ∧ look t fr = some v
  | (y, u) :: fr, t, v, h => by
    have hk : keepF l ((y, u) :: fr) = if inB y l then keepF l fr else (y, u) :: keepF l fr := by
      unfold keepF
      rw [List.filter_cons]
      cases inB y l <;> rfl
    rw [hk] at h
    cases hb : inB y l with
    | true =>
      rw [hb] at h
      obtain ⟨h1, h2⟩ := look_keepF h
      refine ⟨h1, ?_⟩
      rw [look_ne (by rintro rfl; exact h1 (inB_iff.1 hb))]; exact h2
    | false =>
      rw [hb] at h
      have h : look t ((y, u) :: keepF l fr) = some v := h
      by_cases e : y = t
      · subst e; rw [look_same] at h ⊢; exact ⟨inB_no hb, h⟩
      · rw [look_ne e] at h ⊢; exact look_keepF h
theorem at_sub {φ0 : Emb} {z0 : Fz} {n0 : Nat} {W V : List Nat} {a0 : Act} {st : St} {a : Act} {w : World} (hW : ∀ t ∈ V, t ∈ W) (hA : At G φ0 z0 n0 W a0 N st a w) : ∃ φ z, At G φ z st.nx V a N st a w ∧
    (∀ {s : St} {a1 : Act} {w1 : World}, At G φ z st.nx V a N s a1 w1 → At G φ z st.nx V a N ⟨s.fr ++ keepF V st.fr, s.m, s.nx⟩ a1 w1) ∧ ∀ {st' : St} {a1 : Act} {w1 : World}, At G φ z st.nx V a N st' a1 w1 → At G φ0 z0 n0 W a0 N st' a1 w1 := by
  have hn1 := hA.n
  obtain ⟨⟨φ, z, hf, hm, hlt, hlo, hz⟩, _, hsz, hd, hkp⟩ := hA
  have hbase : FR φ z (keepF V st.fr) a.tmps := fun t v hv => hf t v (look_keepF hv).2
  refine ⟨φ, z, ⟨⟨φ, z, hf, hm, hlt, fun _ _ => rfl, .refl z⟩, Nat.le_refl _, hsz, hd, rfl, fun _ _ => rfl⟩, ?_, ?_⟩
  · rintro s a1 w1 ⟨⟨φ1, z1, q1, q2, q3, q4, q5⟩, q6, q7, q8, q9⟩
    refine ⟨⟨φ1, z1, fun t v hv => ?_, q2, q3, q4, q5⟩, q6, q7, q8, q9⟩
    rw [look_append] at hv
    cases hs : look t s.fr with
    | some v' => rw [hs] at hv; cases hv; exact q1 t _ hs
    | none =>
      rw [hs] at hv
      obtain ⟨h1, h2⟩ := hbase t v hv
      have hnw := (look_keepF hv).1
      have hv2 : VR φ1 z1 v (a.tmps.getD t undef) := (h2.le (.refl φ) q5).part fun x hx => by
        obtain ⟨p, hp⟩ := h2.ids hx
        exact q4 x (hlt x p hp)
      rw [q9.2 t hnw]
      exact ⟨by rw [q9.1]; exact h1, hv2⟩
  · rintro st' a1 w1 ⟨⟨φ1, z1, q1, q2, q3, q4, q5⟩, q6, q7, q8, q9⟩
    exact ⟨⟨φ1, z1, q1, q2, q3, fun x hx => (q4 x (by omega)).trans (hlo x hx), hz.trans q5⟩, Nat.le_trans hn1 q6, q7, q8, q9.1.trans hkp.1, fun t ht => (q9.2 t fun hw => ht (hW t hw)).trans (hkp.2 t ht)⟩
theorem at_own {t : Nat} {st : St} {m' : Mem} {u : Value} (hf : FR φ z st.fr a.tmps) (hlt : Lt φ st.nx) (hlo : ∀ x, x < n0 → φ x = φ0 x) (hz : Fz.le z0 z) (hn1 : n0 ≤ st.nx) (hsz : N ≤ a.tmps.size) (hd : a.defers = []) (hkp : a.tmps.size = a0.tmps.size ∧ ∀ t, t ∉ W → a.tmps.getD t undef = a0.tmps.getD t undef)
    (ht : t < a.tmps.size) (hu : a.tmps.getD t undef = u) (hs : ∃ p n cap, u = .slice p n cap) (hm : MR G (φ.add st.nx u) z m' w) : At G φ0 z0 n0 W a0 N ⟨(t, .c (.ow st.nx)) :: st.fr, m', st.nx + 1⟩ a w := by
  have hle := Emb.le_add (hlt.none (Nat.le_refl st.nx)) u
  refine ⟨⟨φ.add st.nx u, z, fun t' v hv => ?_, hm, fun x v hx => ?_, fun x hx => ?_, hz⟩, Nat.le_succ_of_le hn1, hsz, hd, hkp⟩
  · by_cases e : t = t'
    · subst e
      rw [look_same] at hv
      cases hv
      exact ⟨ht, by rw [hu]; exact ⟨Emb.add_same _ _ _, hs⟩⟩
    · rw [look_ne e] at hv
      exact ⟨(hf t' v hv).1, (hf t' v hv).2.le hle (.refl z)⟩
  · by_cases e : x = st.nx
    · show x < st.nx + 1
      omega
    · rw [Emb.add_ne e] at hx
      exact Nat.lt_succ_of_lt (hlt x v hx)
  · rw [Emb.add_ne (by omega)]
    exact hlo x hx
theorem At.own {t : Nat} {e : Sh} {st : St} {K : St → Prop} (hA : At G φ0 z0 n0 W a0 N st a w) (h : ownN t e st K) : ∃ st', At G φ0 z0 n0 W a0 N st' a w ∧ K st' := by
  have hA0 := hA
  obtain ⟨⟨φ, z, hf, hm, hlt, hlo, hz⟩, hn1, hsz, hd, hkp⟩ := hA
  have hnew : φ st.nx = none := hlt.none (Nat.le_refl _)
  unfold ownN at h
  split at h
  · rename_i hl
    obtain ⟨ht, hv⟩ := hf t _ hl
    exact ⟨_, at_own hf hlt hlo hz hn1 hsz hd hkp ht hv ⟨_, _, _, rfl⟩ (hm.new hnew (B := .W e []) (o := none) rfl rfl rfl rfl rfl (.inl ⟨Emb.add_same _ _ _, rfl⟩)), h⟩
  · rename_i x e1 lo hi hl
    split at h
    · rename_i e2 n l hx
      obtain ⟨hok', hk⟩ := fk_yes h
      obtain ⟨he, hok⟩ := and2 hok'
      have he := shEq_eq _ _ he
      subst he
      obtain ⟨A, B, rfl, rfl, h3, h4, h5, h6⟩ := jok_ok hok
      obtain ⟨ht, hv⟩ := hf t _ hl
      obtain ⟨p, kk, cap, a', b', p1, p2, p3, p4, p5, q, hq0, p6, p7, p8, p9⟩ : CV φ z (.bp x e1 (A : Int) (B : Int)) (a.tmps.getD t undef) := hv
      have ha : a' = A := by omega
      have hb : b' = B := by omega
      subst ha; subst hb
      refine ⟨_, at_own (u := .slice q (b' - a') (cap - a')) hf hlt hlo hz hn1 hsz hd hkp ht hq0 ⟨_, _, _, rfl⟩ ?_, hk⟩
      rcases hm.blk x _ hx with ⟨h1, rfl, h2⟩ | ⟨bl, off, arr, T, k', h1, h2, h3', h4', h5', h6'⟩
      · rw [p1] at h1; cases h1
        have hb0 : b' = 0 := by simp at h4; omega
        subst hb0
        have ha0 : a' = 0 := by omega
        subst ha0
        have hq : q = none := by cases q with | none => rfl | some q => simp at p6
        subst hq
        exact (hm.dropped x).new hnew (o := none) rfl rfl rfl rfl rfl (.inl ⟨Emb.add_same _ _ _, List.eq_nil_of_length_eq_zero (by rw [h5])⟩)
      · rw [p1] at h1; cases h1
        obtain ⟨i, hi, rfl⟩ := p9 _ rfl
        have hadd : (⟨bl, off, none⟩ : Addr).add (i * e1.length) = ⟨bl, off + i * e1.length, none⟩ := by unfold Addr.add; split <;> simp_all
        have hi' : i * e1.length ≤ l.length * e1.length := Nat.mul_le_mul_right _ hi
        refine hm.rename hnew hx rfl p1 rfl (by rw [hadd]; rfl) (fun _ _ => rfl) rfl rfl rfl rfl (.inr ⟨bl, off + i * e1.length, arr, T, l.length - a', by rw [h5, hadd]; exact Emb.add_same _ _ _, by rw [h5]; omega, ?_, h5', fun j row hj => ?_⟩)
        · by_cases hlt' : a' < l.length
          · have hq := p7 hlt'
            rw [hadd, Option.map_some, Option.some.injEq] at hq
            have hq2 : (⟨bl, off, none⟩ : Addr).add (a' * e1.length) = ⟨bl, off + a' * e1.length, none⟩ := by unfold Addr.add; split <;> simp_all
            rw [hq2] at hq
            have hq3 : off + i * e1.length = off + a' * e1.length := congrArg Addr.off hq
            have hs : a' * e1.length + (l.length - a') * e1.length = l.length * e1.length := by rw [← Nat.add_mul]; congr 1; omega
            omega
          · have : l.length - a' = 0 := by omega
            rw [this]
            omega
        · have hjl : j < b' - a' := by
            have := (List.getElem?_eq_some_iff.1 hj).1
            omega
          have hlt' : a' < l.length := by omega
          have hq := p7 hlt'
          rw [hadd, Option.map_some, Option.some.injEq] at hq
          have hq2 : (⟨bl, off, none⟩ : Addr).add (a' * e1.length) = ⟨bl, off + a' * e1.length, none⟩ := by unfold Addr.add; split <;> simp_all
          rw [hq2] at hq
          have hq3 : off + i * e1.length = off + a' * e1.length := congrArg Addr.off hq
          have := h6' (a' + j) row (h6 j row hj)
          rw [hq3]
          rwa [Nat.add_mul, ← Nat.add_assoc] at this
    · exact h.elim
  · exact ⟨st, hA0, h⟩
theorem dwp_ok (hC : CallOk P call) {lp : Lp} : ∀ (c : Code) {φ0 : Emb} {z0 : Fz} {n0 : Nat} {W : List Nat} {a0 : Act}, (∀ t ∈ wrT c, t ∈ W) → ∀ (st : St) (K : Ex → St → Prop), dwp P call lp N c st K → ∀ (a : Act) (w : World), At G φ0 z0 n0 W a0 N st a w → c.wp P (Pst G φ0 z0 n0 W a0 N K) a w := by
  intro c
  induction c with
  | skip => intro φ0 z0 n0 W a0 hW st K h a w hA; exact wp_skip ⟨.nrm, st, rfl, h, hA⟩
  | label l => intro φ0 z0 n0 W a0 hW st K h a w hA; exact wp_label ⟨.nrm, st, rfl, h, hA⟩
  | exit id => intro φ0 z0 n0 W a0 hW st K h a w hA; exact wp_exit ⟨.ex id, st, rfl, h, hA⟩
  | ret => intro φ0 z0 n0 W a0 hW st K h a w hA; exact wp_ret ⟨.ret, st, rfl, h, hA⟩
  | region id ops draw =>
    intro φ0 z0 n0 W a0 hW st K h a w hA
    cases draw with
    | false =>
      refine wp_region_list (dregS_ok hC _ _ _ _ _ a w (fun o ho t ht => hW t (List.mem_filterMap.2 ⟨o, ho, ht⟩)) (by simpa only [dwp] using h) hA ?_)
      intro fr m nx a' w' hk hA'
      exact ⟨.nrm, _, rfl, hk, hA'⟩
    | true =>
      refine wp_mono (draw_ok hC h hW hA) ?_
      rintro e a1 w1 ⟨e', st', he, h1, h2⟩
      exact ⟨e', st', by rw [he]; cases e' <;> rfl, h1, h2⟩
  | seq x y ihx ihy =>
    intro φ0 z0 n0 W a0 hW st K h a w hA
    have plain : dwp P call lp N x st (fun e st' => match e with
      | .nrm => dwp P call lp N y st' K
      | e => K e st') → (Code.seq x y).wp P (Pst G φ0 z0 n0 W a0 N K) a w := by
      intro h
      refine wp_seq (wp_mono (ihx (fun t ht => hW t (List.mem_append_left _ ht)) _ _ h a w hA) ?_)
      rintro e a1 w1 ⟨e', st', rfl, h1, h2⟩
      cases e' with
      | nrm => exact ihy (fun t ht => hW t (List.mem_append_right _ ht)) _ _ h1 a1 w1 h2
      | ex i => exact ⟨.ex i, st', rfl, h1, h2⟩
      | ret => exact ⟨.ret, st', rfl, h1, h2⟩
    simp only [dwp] at h
    split at h
    · obtain ⟨I, hx, hy⟩ := h
      obtain ⟨φ, z, hA1, full, out⟩ := at_sub (V := wrT x) (fun t ht => hW t (List.mem_append_left _ ht)) hA
      refine wp_seq (wp_mono (ihx (fun t ht => ht) _ _ hx a w hA1) ?_)
      rintro e a1 w1 ⟨e', st', rfl, h1, h2⟩
      cases e' with
      | nrm =>
        obtain ⟨j, h3, h4⟩ := h1
        exact ihy (fun t ht => hW t (List.mem_append_right _ ht)) _ _ (hy j h3) a1 w1 (out (full (h2.sub h4 (Nat.le_refl _))))
      | ex i => exact ⟨.ex i, st', rfl, h1, out h2⟩
      | ret => exact ⟨.ret, st', rfl, h1, out h2⟩
    · exact plain h
  | cond c x y ihx ihy =>
    intro φ0 z0 n0 W a0 hW st K h a w hA
    simp only [dwp] at h
    obtain ⟨b, h1, h⟩ := onB_ok h
    obtain ⟨⟨φ, z, hf, hm, hlt, hlo, hz⟩, hn1, hsz, hd, hkp⟩ := hA
    have hb : a.eval c = .bool b := ev_ok hf h1
    have hf' := known_ok hf h1
    refine wp_cond hb ?_
    rcases fk_ok h with ⟨rfl, h⟩ | ⟨rfl, h⟩
    · exact ihx (fun t ht => hW t (List.mem_append_left _ ht)) _ _ h a w ⟨⟨φ, z, hf', hm, hlt, hlo, hz⟩, hn1, hsz, hd, hkp⟩
    · exact ihy (fun t ht => hW t (List.mem_append_right _ ht)) _ _ h a w ⟨⟨φ, z, hf', hm, hlt, hlo, hz⟩, hn1, hsz, hd, hkp⟩
  | block id b ih =>
    intro φ0 z0 n0 W a0 hW st K h a w hA
    simp only [dwp] at h
    refine wp_block (wp_mono (ih hW _ _ h a w hA) ?_)
    rintro e a1 w1 ⟨e', st', rfl, h1, h2⟩
    cases e' with
    | nrm => exact ⟨.nrm, st', rfl, h1, h2⟩
    | ret => exact ⟨.ret, st', rfl, h1, h2⟩
    | ex i =>
      show (if i = id then _ else _)
      rcases fk_ok h1 with ⟨hb, h1⟩ | ⟨hb, h1⟩
      · rw [if_pos (Nat.eq_of_beq_eq_true hb)]
        exact ⟨.nrm, st', rfl, h1, h2⟩
      · rw [if_neg (Nat.ne_of_beq_eq_false hb)]
        exact ⟨.ex i, st', rfl, h1, h2⟩
  | loop b ih =>
    intro φ0 z0 n0 W a0 hW st K h a w hA
    have hn1 := hA.n
    have plain : LoopP (dwp P call lp N b) st K → (Code.loop b).wp P (Pst G φ0 z0 n0 W a0 N K) a w := by
      rintro ⟨J, s, μ, ⟨j, hj⟩, hb⟩
      have go : ∀ n j a w, μ j < n → At G φ0 z0 n0 W a0 N (s j) a w → Code.rounds P b (Pst G φ0 z0 n0 W a0 N K) n a w := by
        intro n
        induction n with
        | zero => intro j a w h; exact absurd h (Nat.not_lt_zero _)
        | succ n ihn =>
          intro j a w hlt hI
          rw [rounds_succ]
          refine wp_mono (ih hW _ _ (hb j) a w hI) ?_
          rintro e a1 w1 ⟨e', st', rfl, h1, h2⟩
          cases e' with
          | nrm =>
            obtain ⟨j', h3, h4⟩ := h1
            exact ihn j' a1 w1 (by omega) (h2.sub h4 hn1)
          | ex i => exact ⟨.ex i, st', rfl, h1, h2⟩
          | ret => exact ⟨.ret, st', rfl, h1, h2⟩
      exact wp_loop_rounds _ (go (μ j + 1) j a w (Nat.lt_succ_self _) (hA.sub hj hn1))
    simp only [dwp] at h
    have spec : ∀ (st : St), At G φ0 z0 n0 W a0 N st a w → ∀ (S : LSpec) (d : List Nat), LoopS S d (wrT b) (dwp P call lp N b) st K → (Code.loop b).wp P (Pst G φ0 z0 n0 W a0 N K) a w := by
      intro st hA S d h
      obtain ⟨⟨j, hj⟩, hb⟩ := h
      obtain ⟨φ, z, hA1, full, out⟩ := at_sub (V := wrT b) hW hA
      have go : ∀ n j a1 w1, S.μ j < n → At G φ z st.nx (wrT b) a N (headS S d st j) a1 w1 → Code.rounds P b (Pst G φ0 z0 n0 W a0 N K) n a1 w1 := by
        intro n
        induction n with
        | zero => intro j a w h; exact absurd h (Nat.not_lt_zero _)
        | succ n ihn =>
          intro j a1 w1 hlt hI
          rw [rounds_succ]
          refine wp_mono (ih (fun _ h => h) _ _ (hb j) a1 w1 (full hI)) ?_
          rintro e a2 w2 ⟨e', st', rfl, h1, h2⟩
          cases e' with
          | nrm =>
            obtain ⟨j', h3, h4⟩ := h1
            have h3 : S.μ j' < S.μ j := h3
            exact ihn j' a2 w2 (by omega) (h2.sub h4 (Nat.le_refl _))
          | ex i => exact ⟨.ex i, st', rfl, h1, out h2⟩
          | ret => exact ⟨.ret, st', rfl, h1, out h2⟩
      exact wp_loop_rounds _ (go (S.μ j + 1) j a w (Nat.lt_succ_self _) (hA1.sub hj (Nat.le_refl _)))
    have specE : ∀ (st : St), At G φ0 z0 n0 W a0 N st a w → ∀ (J : Type) (f : J → Frs) (m : J → Mem) (n : Nat) (d : List Nat), LoopE J f m n d (wrT b) (dwp P call lp N b) st K → (Code.loop b).wp P (Pst G φ0 z0 n0 W a0 N K) a w := by
      intro st hA J f m n d h
      obtain ⟨I, μ, ⟨j, h0, hj⟩, hb⟩ := h
      refine spec st hA ⟨{j : J // I j}, fun j => f j.1, fun j => m j.1, n, fun j => μ j.1⟩ d ⟨⟨⟨j, h0⟩, hj⟩, fun j => ?_⟩
      have e : (fun (e : Ex) (st' : St) => match e with
          | .nrm => ∃ j' : {j : J // I j}, lessN (μ j'.1) (μ j.1) ∧ Sub st.nx st' (headS ⟨{j : J // I j}, fun j => f j.1, fun j => m j.1, n, fun j => μ j.1⟩ d st j')
          | e => K e st') = fun e st' => match e with
          | .nrm => ∃ j', I j' ∧ lessN (μ j') (μ j.1) ∧ Sub st.nx st' (headS ⟨J, f, m, n, μ⟩ d st j')
          | e => K e st' := by
        funext e st'
        cases e with
        | nrm => exact propext ⟨fun ⟨j', h1, h2⟩ => ⟨j'.1, j'.2, h1, h2⟩, fun ⟨j', h0, h1, h2⟩ => ⟨⟨j', h0⟩, h1, h2⟩⟩
        | ex i => rfl
        | ret => rfl
      exact Eq.mpr (congrArg (dwp P call lp N b _) e) (hb j.1 j.2)
    split at h
    · exact spec st hA _ _ h
    · rename_i n hS
      have go : ∀ n st a w, loopU (dwp P call lp N b) K n st → At G φ0 z0 n0 W a0 N st a w → Code.rounds P b (Pst G φ0 z0 n0 W a0 N K) n a w := by
        intro n
        induction n with
        | zero => intro st a w h; exact h.elim
        | succ n ihn =>
          intro st a w h hI
          rw [rounds_succ]
          refine wp_mono (ih hW _ _ h a w hI) ?_
          rintro e a1 w1 ⟨e', st', rfl, h1, h2⟩
          cases e' with
          | nrm => exact ihn st' a1 w1 h1 h2
          | ex i => exact ⟨.ex i, st', rfl, h1, h2⟩
          | ret => exact ⟨.ret, st', rfl, h1, h2⟩
      exact wp_loop_rounds _ (go n st a w h hA)
    · exact specE st hA _ _ _ _ _ h
    · obtain ⟨st', hA', h'⟩ := hA.own h
      exact specE st' hA' _ _ _ _ _ h'
    · exact plain h
  | scope b ih =>
    intro φ0 z0 n0 W a0 hW st K h a w hA
    refine wp_scope_straight (wp_mono (ih hW _ _ (by simpa only [dwp] using h) a w hA) ?_)
    rintro e a1 w1 ⟨e', st', rfl, h1, h2⟩
    cases e' with
    | nrm => exact ⟨.nrm, st', rfl, h1, h2⟩
    | ex i => exact ⟨.ex i, st', rfl, h1, h2⟩
    | ret => exact ⟨.ret, st', rfl, h1, h2⟩
  | _ => intro φ0 z0 n0 W a0 hW st K h a w hA; exact h.elim
def resR (tmps : Array Value) : ResultVar → Sem Value
  | .tmp t => pure (tmps.getD t undef)
  | .cell a t => do loadVar t (← asAddr (tmps.getD a undef))
theorem resK_ok {tmps : Array Value} (hf : FR φ z fr tmps) (hm : MR G φ z m w) : ∀ {rs : List ResultVar} {k : List V → Prop}, resK P m fr rs k → ∃ vs us, k vs ∧ (rs.mapM (resR tmps) : Sem (List Value)).run P w = .ok us w ∧ All2 (VS φ z) vs us
  | [], k, h => ⟨[], [], h, rfl, .nil⟩
  | .tmp t :: rs, k, h => by
    simp only [resK] at h
    obtain ⟨v, hv, h⟩ := oP_ok h
    split at h
    · exact h.elim
    · rename_i hn
      obtain ⟨vs, us, h1, h2, h3⟩ := resK_ok hf hm h
      refine ⟨_, tmps.getD t undef :: us, h1, ?_, .cons ((hf t v hv).2.vs fun l e => hn l e) h3⟩
      rw [List.mapM_cons]
      simp only [resR, Sem.run_bind, Sem.run_pure, Result.andThen_ok, h2]
  | .cell t ty :: rs, k, h => by
    simp only [resK] at h
    split at h
    · rename_i agg n c ha hc
      have hcv : CV φ z c (tmps.getD t undef) := (hf t _ hc).2
      obtain ⟨v, u, ad, h1, h2, h3, h4⟩ := load_ok ha hm hcv h
      split at h1
      · exact h1.elim
      · rename_i hn
        obtain ⟨vs, us, h5, h6, h7⟩ := resK_ok hf hm h1
        refine ⟨_, u :: us, h5, ?_, .cons (h2.vs fun l e => hn l e) h7⟩
        rw [List.mapM_cons]
        simp only [resR, h3, asAddr, Sem.run_bind, Sem.run_pure, Result.andThen_ok, h4, h6]
    · exact h.elim
theorem results_ok {fn : Func} {tmps : Array Value} {vs : List V} {us : List Value} (h1 : (fn.results.toList.mapM (resR tmps) : Sem (List Value)).run P w = .ok us w) (h2 : All2 (VS φ z) vs us) : ∃ u, (results fn tmps).run P w = .ok u w ∧ VR φ z (oneV vs) u := by
  have hm : (fn.results.mapM (resR tmps) : Sem (Array Value)).run P w = .ok us.toArray w := by
    rw [Array.mapM_eq_mapM_toList]
    simp only [Sem.run_map, h1, Result.andThen_ok]
  have hr : (results fn tmps).run P w = .ok (if hh : us.toArray.size = 1 then us.toArray[0] else .tuple us.toArray) w := by
    have : results fn tmps = (do let vs ← fn.results.mapM (resR tmps); pure (if h : vs.size = 1 then vs[0] else .tuple vs)) := rfl
    rw [this]
    simp only [Sem.run_bind, hm, Result.andThen_ok, Sem.run_pure]
  refine ⟨_, hr, ?_⟩
  cases h2 with
  | nil => exact ⟨[], by simp, .nil⟩
  | cons q1 q2 =>
    cases q2 with
    | nil => simpa [oneV] using q1.vr
    | cons q3 q4 => exact ⟨_, by simp, .cons q1 (.cons q3 q4)⟩
theorem frOf_get : ∀ {vs : List V} {i t : Nat} {v : V}, look t (frOf vs i) = some v → ∃ j, t = i + j ∧ vs[j]? = some v
  | u :: vs, i, t, v, h => by
    have h : look t ((i, u) :: frOf vs (i + 1)) = some v := h
    by_cases e : i = t
    · subst e; rw [look_same] at h; cases h; exact ⟨0, rfl, rfl⟩
    · rw [look_ne e] at h
      obtain ⟨j, h1, h2⟩ := frOf_get h
      exact ⟨j + 1, by omega, by simpa using h2⟩
theorem frOf_ok {vs : List V} {us : List Value} (h : All2 (VR φ z) vs us) (n : Nat) : FR φ z (frOf vs 0) (us.toArray ++ Array.replicate n undef) := by
  intro t v hv
  obtain ⟨j, rfl, hj⟩ := frOf_get hv
  obtain ⟨u, h1, h2⟩ := h.get hj
  have hlt : j < us.length := (List.getElem?_eq_some_iff.1 h1).1
  rw [Nat.zero_add]
  refine ⟨by simp; omega, ?_⟩
  have : (us.toArray ++ Array.replicate n undef).getD j undef = u := by
    rw [Array.getD_eq_getD_getElem?, Array.getElem?_append_left (by simpa using hlt)]
    simp [h1]
  rw [this]; exact h2
theorem look_filter {q : Nat → Bool} : ∀ {m : Mem} {x : Nat} {B : Blk}, look x (m.filter fun p => q p.1) = some B → look x m = some B
  | (y, b) :: m, x, B, h => by
    cases hq : q y with
    | true =>
      rw [List.filter_cons_of_pos (by simpa using hq)] at h
      by_cases e : y = x
      · subst e; rw [look_same] at h ⊢; exact h
      · rw [look_ne e] at h ⊢; exact look_filter h
    | false =>
      rw [List.filter_cons_of_neg (by simp [hq])] at h
      have h0 := look_filter h
      by_cases e : y = x
      · subst e
        have := (List.mem_filter.1 (look_mem h)).2
        rw [hq] at this; cases this
      · rw [look_ne e]; exact h0
theorem oneV_ids {l : List V} {x : Nat} (h : x ∈ idsV (oneV l)) : x ∈ l.flatMap idsV := by
  have key : ∀ (l : List V), x ∈ l.flatMap idsP → x ∈ l.flatMap idsV := by
    intro l h
    obtain ⟨v, h1, h2⟩ := List.mem_flatMap.1 h
    refine List.mem_flatMap.2 ⟨v, h1, ?_⟩
    cases v with
    | t m => cases h2
    | _ => exact h2
  cases l with
  | nil => cases h
  | cons v l =>
    cases l with
    | nil => simpa [oneV] using h
    | cons u l => exact key _ h
theorem unJv_ok {v : V} {u : Value} {k : V → Mem → Nat → Prop} (h : unJv m nx v k) (hm : MR G φ z m w) (hlt : Lt φ nx) (hv : VS φ z v u) : ∃ φ' m' nx' v', k v' m' nx' ∧ Emb.le φ φ' ∧ MR G φ' z m' w ∧ VS φ' z v' u ∧ Dom φ φ' nx nx' ∧ nx ≤ nx' := by
  unfold unJv at h
  split at h
  · rename_i x
    split at h
    · rename_i e n l hx
      obtain ⟨hok, hk⟩ := fk_yes h
      refine ⟨φ, _, nx, _, hk, .refl φ, hm.turn hx rfl ?_, hv, Dom.refl _ _, Nat.le_refl _⟩
      obtain ⟨A, B, e1, rfl, h3, h4, h5, h6⟩ := jok_ok hok
      have hA : A = 0 := by omega
      subst hA
      rcases hm.blk x _ hx with ⟨h1, rfl, h2⟩ | ⟨b, off, arr, T, kk, h1, h2, h3', h4', h5', h6'⟩
      · exact .inl ⟨h1, List.eq_nil_of_length_eq_zero (by rw [h5]; simp at h4; omega)⟩
      · have hkk : kk = B := by omega
        subst hkk
        refine .inr ⟨b, off, arr, T, l.length, by rw [h5, Nat.sub_zero]; exact h1, by rw [h5]; omega, h4', h5', fun i row hi => h6' i row ?_⟩
        have := h6 i row hi
        rwa [Nat.zero_add] at this
    · exact ⟨φ, m, nx, _, h, .refl φ, hm, hv, Dom.refl _ _, Nat.le_refl _⟩
  · rename_i x e lo hi
    split at h
    · rename_i e' n l hx
      obtain ⟨hok', h'⟩ := fk_yes h
      obtain ⟨hlo, h''⟩ := fk_yes h'
      obtain ⟨hcp, hk⟩ := fk_yes h''
      clear h h' h''
      have hcp : (0 : Int) < l.length := of_decide_eq_true hcp
      obtain ⟨he, hok⟩ := and2 hok'
      have he := shEq_eq _ _ he
      subst he
      have hlo : lo = 0 := of_decide_eq_true hlo
      subst hlo
      obtain ⟨A, B, e1, rfl, h3, h4, h5, h6⟩ := jok_ok hok
      have hA : A = 0 := by omega
      subst hA
      obtain ⟨p, kk, cap, a, b, p1, p2, p3, p4, p5, q, rfl, p6, p7, p8⟩ : CV φ z (.bp x e 0 (B : Int)) u := hv
      have ha : a = 0 := by omega
      have hb : b = B := by omega
      subst ha; subst hb
      have hnew : φ nx = none := hlt.none (Nat.le_refl _)
      rcases hm.blk x _ hx with ⟨h1, rfl, h2⟩ | ⟨bl, off, arr, T, k', h1, h2, h3', h4', h5', h6'⟩
      · rw [p1] at h1; cases h1
        have hb0 : b = 0 := by simp at h4; omega
        subst hb0
        have hq : q = none := by cases q with | none => rfl | some q => simp at p6
        subst hq
        have hle := Emb.le_add hnew (.slice none 0 0)
        refine ⟨φ.add nx (.slice none 0 0), _, _, _, hk, hle, (hm.dropped x).new hnew (o := none) rfl rfl rfl rfl rfl (.inl ⟨Emb.add_same _ _ _, ?_⟩), ⟨Emb.add_same _ _ _, _, _, _, rfl⟩, Dom.add _ _ _, Nat.le_succ _⟩
        exact List.eq_nil_of_length_eq_zero (by rw [h5])
      · rw [p1] at h1; cases h1
        obtain ⟨qq, rfl, hqb⟩ : ∃ qq : Addr, q = some qq ∧ qq.block = bl := by
          cases q with
          | none => simp at p6
          | some q => exact ⟨q, rfl, by simpa using p6⟩
        by_cases hl : 0 < l.length
        · have hq := p7 hl
          simp only [Option.map_some, Nat.zero_mul, Option.some.injEq] at hq
          have hq : qq = ⟨bl, off, none⟩ := by rw [hq]; simp [Addr.add]
          subst hq
          have hle := Emb.le_add hnew (.slice (some ⟨bl, off, none⟩) (b - 0) (l.length - 0))
          refine ⟨φ.add nx _, _, _, _, hk, hle, ?_, ⟨Emb.add_same _ _ _, _, _, _, rfl⟩, Dom.add _ _ _, Nat.le_succ _⟩
          refine hm.rename hnew hx rfl p1 rfl rfl (fun _ _ => rfl) rfl rfl rfl rfl (.inr ⟨bl, off, arr, T, l.length, by rw [h5]; exact Emb.add_same _ _ _, by rw [h5]; omega, h4', h5', fun i row hi => h6' i row ?_⟩)
          have := h6 i row hi
          rwa [Nat.zero_add] at this
        · omega
    · exact h.elim
  · exact ⟨φ, m, nx, _, h, .refl φ, hm, hv, Dom.refl _ _, Nat.le_refl _⟩
theorem unJ_ok : ∀ {l : List V} {us : List Value} {m : Mem} {nx : Nat} {φ : Emb} {k : List V → Mem → Nat → Prop}, unJ m nx l k → MR G φ z m w → Lt φ nx → All2 (VS φ z) l us → ∃ φ' m' nx' l', k l' m' nx' ∧ Emb.le φ φ' ∧ MR G φ' z m' w ∧ All2 (VS φ' z) l' us ∧ Dom φ φ' nx nx' ∧ nx ≤ nx'
  | [], us, m, nx, φ, k, h, hm, hlt, hl => ⟨φ, m, nx, [], h, .refl φ, hm, by cases hl; exact .nil, Dom.refl _ _, Nat.le_refl _⟩
  | v :: l, us, m, nx, φ, k, h, hm, hlt, hl => by
    cases hl with
    | cons hv ht =>
      obtain ⟨φ1, m1, n1, v1, k1, l1, r1, s1, d1, e1⟩ := unJv_ok (show unJv m nx v _ from h) hm hlt hv
      obtain ⟨φ2, m2, n2, l2, k2, le2, r2, s2, d2, e2⟩ := unJ_ok k1 r1 (hlt.dom d1 e1) (ht.mono fun _ _ h => h.le l1 (.refl z))
      refine ⟨φ2, m2, n2, v1 :: l2, k2, l1.trans le2, r2, .cons (s1.le le2 (.refl z)) s2, fun x y hy => ?_, Nat.le_trans e1 e2⟩
      rcases d2 x y hy with h | h
      · rcases d1 x y h with h | h
        · exact .inl h
        · exact .inr ⟨h.1, by omega⟩
      · exact .inr ⟨by omega, h.2⟩
theorem endK_ok {tys : List TypeId} {fz : Bool} {l : List V} {us : List Value} {k : List V → Mem → Prop} (h : endK P fz tys m l k) (hm : MR G φ z m w) (hl : All2 (VS φ z) l us) : ∃ z' l' m', Fz.le z z' ∧ MR G φ z' m' w ∧ All2 (VS φ z') l' us ∧ k l' m' := by
  unfold endK at h
  cases fz with
  | false => exact ⟨z, l, m, .refl z, hm, hl, h⟩
  | true =>
    obtain ⟨z', h1, h2⟩ := hm.freeze (E := reach m 40 (l.flatMap idsV)) fun x B hx => look_reach _ _ _ _ _ hx
    have h3 : MR G φ z' (frzM (reach m 40 (l.flatMap idsV))) w := h2.forget fun x B hx => by
      rw [look_frz]; rw [look_frzM] at hx
      cases he : look x (reach m 40 (l.flatMap idsV)) with
      | none => rw [he] at hx; cases hx
      | some B' => rw [he] at hx; exact hx
    exact ⟨z', _, _, h1, h2, nrmLs_ok (All2.map (R := VS φ z') (f := thawV (frzM (reach m 40 (l.flatMap idsV)))) (hl.mono fun _ _ hv => thawVs_ok h3 (hv.le (.refl φ) h1))), h⟩
theorem dbody_ok (hC : CallOk P call) {lp : Lp} {fz : Bool} {f : Nat} {vs : List V} {E : Mem} (h : dbody P call lp fz f vs E nx k) : CallG P f vs E nx k := by
  intro G φ z w us hm hlt hus
  unfold dbody at h
  split at h
  · rename_i fn hf
    split at h
    · rename_i c hc
      refine calls_of_wp hf hc ?_
      have hA : At G φ z nx (wrT c) { tmps := us.toArray ++ Array.replicate (fn.ntmps - us.toArray.size) undef, defers := [] } fn.ntmps ⟨frOf vs 0, E, nx⟩ { tmps := us.toArray ++ Array.replicate (fn.ntmps - us.toArray.size) undef, defers := [] } w :=
        ⟨⟨φ, z, frOf_ok hus _, hm, hlt, fun _ _ => rfl, .refl z⟩, Nat.le_refl _, by simp; omega, rfl, rfl, fun _ _ => rfl⟩
      refine wp_mono (dwp_ok hC c (fun _ h => h) _ _ h _ w hA) ?_
      rintro e a1 w1 ⟨e', st', rfl, h1, ⟨φ', z', q1, q2, q3, q4, q5⟩, q6, q7, q8, q9⟩
      have fin : resK P st'.m st'.fr fn.results.toList (fun l => unJ st'.m st'.nx l fun l m nx' => endK P fz fn.resultTypes.toList m l fun l m => k (oneV l) (keepM nx m (l.flatMap idsV)) (endN nx nx' (l.flatMap idsV ++ idsM (keepM nx m (l.flatMap idsV))))) → a1.defers = [] ∧ ∃ v, (results fn a1.tmps).run P w1 = .ok v w1 ∧ ∃ v' m' nx' φ' z' u, Ending.returned v = .returned u ∧ k v' m' nx' ∧ Emb.le φ φ' ∧ Fz.le z z' ∧ MR G φ' z' m' w1 ∧ Dom φ φ' nx nx' ∧ nx ≤ nx' ∧ VR φ' z' v' u := by
        intro h
        obtain ⟨wsj, xs, kj, k2, k3j⟩ := resK_ok q1 q2 h
        obtain ⟨φ2, mj, nj, ws0, k0, lej, q2, k3, dj, ej⟩ := unJ_ok kj q2 q3 k3j
        have q3 : Lt φ2 nj := q3.dom dj ej
        have q4 : ∀ x, x < nx → φ2 x = φ x := fun x hx => by
          rw [← q4 x hx]
          cases hq : φ' x with
          | some y => exact lej x y hq
          | none =>
            cases hq' : φ2 x with
            | none => rfl
            | some y =>
              rcases dj x y hq' with h10 | h10
              · rw [hq] at h10; cases h10
              · omega
        have q6 : nx ≤ nj := Nat.le_trans q6 ej
        clear lej dj
        generalize φ2 = φ' at q2 q3 q4 k3
        obtain ⟨z2, ws, m2, k6, k7, k3, k1⟩ := endK_ok k0 q2 k3
        obtain ⟨u, k4, k5⟩ := results_ok k2 k3
        have kM := k7.forget (m' := keepM nx m2 (ws.flatMap idsV)) fun x B hB => look_filter (q := fun y => Nat.blt y nx || (reach m2 40 (ws.flatMap idsV)).any fun q => Nat.beq q.1 y) hB
        refine ⟨q8, u, k4, ?_⟩
        unfold endN at k1
        cases hb : below nx (ws.flatMap idsV ++ idsM (keepM nx m2 (ws.flatMap idsV))) with
        | false =>
          rw [hb] at k1
          refine ⟨_, _, _, φ', z2, u, rfl, k1, fun x v hv => ?_, q5.trans k6, kM, fun x v hv => ?_, q6, k5⟩
          · rw [q4 x (hlt x v hv)]; exact hv
          · by_cases hx : x < nx
            · exact .inl (by rw [← q4 x hx]; exact hv)
            · exact .inr ⟨by omega, q3 x v hv⟩
        | true =>
          rw [hb] at k1
          have hin : ∀ x ∈ ws.flatMap idsV ++ idsM (keepM nx m2 (ws.flatMap idsV)), φ x = φ' x := fun x hx => by
            have : x < nx := by simpa using List.all_eq_true.1 hb x hx
            exact (q4 x this).symm
          refine ⟨_, _, _, φ, z2, u, rfl, k1, .refl φ, q5.trans k6, kM.part fun x hx => hin x (List.mem_append_right _ hx), Dom.refl _ _, Nat.le_refl _, k5.part fun x hx => hin x (List.mem_append_left _ ?_)⟩
          exact oneV_ids hx
      cases e' with
      | nrm => exact fin h1
      | ret => exact fin h1
      | ex i => exact h1.elim
    · exact h.elim
  · exact h.elim
def CtOk (P : Program) (T : Ct) : Prop := ∀ f g, look f T = some g → ∀ vs E nx k, g vs E nx k → CallG P f vs E nx k
theorem dcall_ok {T : Ct} {LT : Nat → Lp} (hT : CtOk P T) : ∀ n, CallOk P (dcall P T LT n)
  | 0 => fun _ _ _ _ _ h => h.elim
  | n + 1 => by
    intro f vs E nx k h
    have h : (match look f T with | some g => tbl P g (match lspec 0 (LT f) with | some _ => true | none => false) f vs E nx k | none => dbody P (dcall P T LT n) (LT f) false f vs E nx k) := h
    split at h
    · rename_i g hg; exact tbl_ok (hT f g hg) h
    · exact dbody_ok (dcall_ok hT n) h
theorem CtOk.nil : CtOk P [] := fun f g h => by cases h
theorem CtOk.cons {T : Ct} (hT : CtOk P T) {f : Nat} {g : List V → Mem → Nat → KVk → Prop} (h : ∀ vs E nx k, g vs E nx k → CallG P f vs E nx k) : CtOk P ((f, g) :: T) := by
  intro f' g' hg
  by_cases e : f = f'
  · subst e; rw [look_same] at hg; cases hg; exact h
  · rw [look_ne e] at hg; exact hT f' g' hg
end
end Go.Proofs.YtgjindhjgmplgaaGreat
end
section
set_option linter.constructorNameAsVariable false
namespace Go.Proofs.YtgjindhjgmplgaaGreat
def argRow : Bool → Sh → V → Option Row
  | true, s, .r s' r => bif shEq s s' then some r else none
  | false, [k], .c c => (dvOf k c).map fun d => [d]
  | _, _, _ => none
def argRows : List (Bool × Sh) → List V → Option (List Row)
  | [], [] => some []
  | p :: ps, v :: vs => match argRow p.1 p.2 v, argRows ps vs with
    | some r, some rs => some (r :: rs)
    | _, _ => none
  | _, _ => none
def argV : Bool → Sh → Row → V
  | true, s, r => .r s r
  | false, [k], r => .c (cellK k r 0)
  | false, s, r => .r s r
def argVs : List (Bool × Sh) → List Row → List V
  | p :: ps, r :: rs => argV p.1 p.2 r :: argVs ps rs
  | _, _ => []
def psF (P : Program) (f : Nat) : List (Bool × Sh) := (parOf P f).map fun t => match aggT P t, shT P 12 t with
  | some (b, _), some s => (b, s)
  | _, _ => (false, [])
def ctF (ps : List (Bool × Sh)) (g : List Row → (V → Prop) → Prop) (vs : List V) (m : Mem) (nx : Nat) (k : KVk) : Prop := match m, nx with
  | [], 0 => match argRows ps vs with
    | some rs => g rs fun v => k v [] 0
    | none => False
  | _, _ => False
section
variable {P : Program} {φ : Emb} {z : Fz} {call : CallF}
theorem argRow_ok {b : Bool} {s : Sh} {v : V} {r : Row} {u : Value} (h : argRow b s v = some r) (hv : VR φ z v u) : VR φ z (argV b s r) u := by
  cases b with
  | true =>
    cases v with
    | r s' r' =>
      have h : (bif shEq s s' then some r' else none) = some r := h
      cases hb : shEq s s' with
      | false => rw [hb] at h; cases h
      | true => rw [hb] at h; cases h; have := shEq_eq _ _ hb; subst this; exact hv
    | _ => cases h
  | false =>
    cases s with
    | nil => cases v <;> cases h
    | cons k s =>
      cases s with
      | cons k' s => cases v <;> cases h
      | nil =>
        cases v with
        | c c =>
          obtain ⟨d, h1, rfl⟩ := map_some (show (dvOf k c).map (fun d => [d]) = some r from h)
          exact cellK_ok (d := d) rfl (dvOf_ok h1 hv)
        | _ => cases h
theorem argRows_ok : ∀ {ps : List (Bool × Sh)} {vs : List V} {rs : List Row} {us : List Value}, argRows ps vs = some rs → All2 (VR φ z) vs us → All2 (VR φ z) (argVs ps rs) us
  | [], vs, rs, us, h, hv => by
    cases vs with
    | nil => cases h; exact hv
    | cons v vs => cases h
  | p :: ps, vs, rs, us, h, hv => by
    cases vs with
    | nil => cases h
    | cons v vs =>
      simp only [argRows] at h
      split at h
      · rename_i r rs h1 h2
        cases h
        cases hv with
        | cons q1 q2 => exact .cons (argRow_ok h1 q1) (argRows_ok h2 q2)
      · cases h
theorem ct_cons {T : Ct} (hT : CtOk P T) {fz : Bool} {f : Nat} {g : List Row → (V → Prop) → Prop} (h : ∀ rs k, g rs (fun v => k v [] 0) → ∃ lp LT n, dbody P (dcall P T LT n) lp fz f (argVs (psF P f) rs) [] 0 k) : CtOk P ((f, ctF (psF P f) g) :: T) := by
  refine hT.cons fun vs E nx k hk => ?_
  unfold ctF at hk
  split at hk
  · split at hk
    · rename_i rs hrs
      intro G φ z w us hm hlt hus
      obtain ⟨lp, LT, n, h⟩ := h rs k hk
      exact dbody_ok (dcall_ok hT n) h G φ z w us hm hlt (argRows_ok hrs hus)
    · exact hk.elim
  · exact hk.elim
end
theorem fk_of {c : Bool} {a b : Prop} (ha : c = true → a) (hb : c = false → b) : fk c a b := by
  cases c with
  | true => exact ha rfl
  | false => exact hb rfl
end Go.Proofs.YtgjindhjgmplgaaGreat
end
section
namespace Go.Proofs.YtgjindhjgmplgaaGreat
theorem ilt_t {a b : Int} (h : ilt a b = true) : a < b := of_decide_eq_true h
theorem ilt_f {a b : Int} (h : ilt a b = false) : b ≤ a := Int.not_lt.1 (of_decide_eq_false h)
theorem ile_t {a b : Int} (h : ile a b = true) : a ≤ b := of_decide_eq_true h
theorem ile_f {a b : Int} (h : ile a b = false) : b < a := Int.not_le.1 (of_decide_eq_false h)
theorem ieq_t {a b : Int} (h : ieq a b = true) : a = b := of_decide_eq_true h
theorem ieq_f {a b : Int} (h : ieq a b = false) : a ≠ b := of_decide_eq_false h
theorem nt_t {a : Bool} (h : nt a = true) : a = false := by cases a <;> first | rfl | cases h
theorem nt_f {a : Bool} (h : nt a = false) : a = true := by cases a <;> first | rfl | cases h
theorem inR_f {j n : Int} (h : inR j n = false) : j < 0 ∨ n ≤ j := by
  unfold inR at h
  rw [Bool.and_eq_false_iff] at h
  rcases h with h | h
  · exact .inl (Int.not_le.1 (of_decide_eq_false h))
  · exact .inr (Int.not_lt.1 (of_decide_eq_false h))
theorem fk_t {c : Bool} {a b : Prop} (hc : c = true) (h : a) : fk c a b := by subst hc; exact h
theorem fk_n {c : Bool} {a b : Prop} (hc : c = false) (h : b) : fk c a b := by subst hc; exact h
theorem wr_id {n : Int} (h0 : -9223372036854775808 ≤ n) (h1 : n ≤ 9223372036854775807) : wr .i64 n = n := by
  unfold wr IntKind.wrap
  simp [IntKind.bits, IntKind.signed]
  omega
end Go.Proofs.YtgjindhjgmplgaaGreat
end
