/-
  A verified evaluator: regions that draw their order, whole; so code and calls are evaluated as the model runs them. No function of the program is named here.
-/
import Derived.Test.YtmbbciidknchiaaGreatEoA
import Derived.Test.YtmbbciidknchiaaGreatEnT
namespace Go.Proofs.YtmbbciidknchiaaGreat
section
variable {P : Program} {E : Env} {call : CallF} {N : Nat} {ops : Array Oper} {l : List AOp} {bm ks order : List Nat}
/-- how many are not done -/
def left (listed : Array Bool) : Nat := listed.toList.countP fun b => !b
theorem left_set {listed : Array Bool} {i : Nat} (h : i < listed.size) (hf : listed.getD i false = false) : left (listed.setIfInBounds i true) + 1 = left listed := by
  unfold left
  have hl : i < listed.toList.length := by simpa using h
  have hx : listed.toList[i] = false := by
    have : listed.getD i false = listed[i] := by simp [Array.getD_eq_getD_getElem?, h]
    rw [this] at hf
    simpa using hf
  have hmem : false ∈ listed.toList := hx ▸ List.getElem_mem hl
  have hpos : 0 < listed.toList.countP fun b => !b := List.countP_pos_iff.2 ⟨false, hmem, rfl⟩
  rw [Array.toList_setIfInBounds, List.countP_set hl, hx]
  show (listed.toList.countP (fun b => !b)) - 1 + 0 + 1 = listed.toList.countP fun b => !b
  omega
theorem left_zero {listed : Array Bool} (h : left listed = 0) {i : Nat} (hi : i < listed.size) : listed.getD i false = true := by
  have hl : i < listed.toList.length := by simpa using hi
  have := List.countP_eq_zero.1 h _ (List.getElem_mem hl)
  have hg : listed.getD i false = listed[i] := by simp [Array.getD_eq_getD_getElem?, hi]
  rw [hg]
  simpa using this
/-- none is ready: all are done -/
theorem all_done (c : Ctx P N ops l bm ks order) {listed : Array Bool} (hs : listed.size = ops.size) (h : Region.ready .any ops listed = []) : ∀ i, i < ops.size → listed.getD i false = true := by
  intro i
  induction i using Nat.strongRecOn with
  | _ i ih =>
    intro hi
    cases hl : listed.getD i false with
    | true => rfl
    | false =>
      exfalso
      have ho : ops[i]? = some ops[i] := Array.getElem?_eq_getElem hi
      have : i ∈ Region.ready .any ops listed := by
        refine mem_ready.2 ⟨?_, _, ho, fun e he hb => ?_⟩
        · have hi' : i < listed.size := by omega
          simpa [Array.getD_eq_getD_getElem?, hi'] using hl
        · have := (c.edge ho).1 e he hb
          exact ih e.on this (by omega)
      rw [h] at this
      cases this
variable {rs : List Rec} {pf : List Hp} {hF : Hp} {fr0 frF : Fr} {m : Bid} {ρ : Vn} {φ0 : Emb} {h0 : Hp} {w0 : World} {a0 : Act}
theorem draw_end (c : Ctx P N ops l bm ks order) (t : Trc P E call (dlOf ops.size l bm ks order) fr0 ⟨m, h0.bl⟩ [] h0.next rs frF hF pf) {listed : Array Bool} (hall : ∀ i, i < ops.size → listed.getD i false = true)
    {a : Act} {w : World} {b : Nat} {φ : Emb} {fx : Fr} {H S : Hp} (di : DI (dlOf ops.size l bm ks order) ks order ops.size rs pf hF fr0 m ρ φ0 h0 w0 a0 (Dn order listed) a w b φ fx H S) : Fin ρ φ0 h0 w0 a0 frF hF a w := by
  obtain ⟨hperm1, hperm2, hperm3, hperm4⟩ := perm_ok c.perm
  have hD : ∀ q, q < ops.size → Dn order listed q := fun q hq => hall _ (hperm3 q hq)
  have hlenr : rs.length = ops.size := by rw [trc_len t, c.len]
  obtain ⟨f, g, past, r1, hcut, hfr, hpl⟩ := trc_cut t c.dist ops.size (by rw [c.len]; exact Nat.le_refl _)
  rw [List.drop_eq_nil_of_le (by rw [c.len]; exact Nat.le_refl _), List.drop_eq_nil_of_le (by rw [hlenr]; exact Nat.le_refl _)] at hcut
  cases hcut
  have heff : effN (dlOf ops.size l bm ks order) b = effN (dlOf ops.size l bm ks order) ops.size := by
    refine effN_const di.bn (by rw [c.len]; exact Nat.le_refl _) fun q o' k' h2 h3 hq => ?_
    obtain ⟨oq, aq, k1, k2, k3, k4⟩ := c.at h3
    rw [hq] at k3
    cases k3
    have := di.noeff q h3 h2 (hD q h3)
    rw [k4] at this
    cases hke : isEff (akOf bm ks order ops.size (order.getD q 0) o'.op) with
    | false => rfl
    | true => exact absurd (ak_eff'.1 hke) this
  have hS : S = hF := by
    have := di.snap
    rw [heff, ← hpl, line_last] at this
    exact (Option.some.inj this).symm
  subst hS
  have hsame : ∀ id, H.get id = S.get id := fun id => di.same id fun q r hq hnd _ => absurd (hD q (by rw [← hlenr]; exact (List.getElem?_eq_some_iff.1 hq).1)) hnd
  refine ⟨φ, fun i j v hv => di.fr i j v ?_, di.stp.over (hp := H) (h1 := H) (fun _ _ h => h) rfl (Stp.refl di.stp.rel) di.next.symm fun id x hx => .inl (by rw [hsame id]; exact hx), di.dfr, di.sz⟩
  rw [← hv]
  refine FrAt.agree (by rw [hlenr, c.len]) di.frat hfr fun q o k hq _ => ?_
  have hqn : q < ops.size := by rw [← c.len]; exact (List.getElem?_eq_some_iff.1 hq).1
  exact ⟨fun _ => hqn, fun _ => hD q hqn⟩
theorem draw_any (c : Ctx P N ops l bm ks order) (hC : CallOk P E call) (he : EnvOk E ρ) (t : Trc P E call (dlOf ops.size l bm ks order) fr0 ⟨m, h0.bl⟩ [] h0.next rs frF hF pf) (hres : reserve (dlOf ops.size l bm ks order) h0.next = some m) (hN : N ≤ a0.tmps.size)
    {Q : Exit → Act → World → Prop} (hQ : ∀ a' w', Fin ρ φ0 h0 w0 a0 frF hF a' w' → Q .normal a' w') :
    ∀ (fuel : Nat) (listed : Array Bool) (a : Act) (w : World) (b : Nat) (φ : Emb) (fx : Fr) (H S : Hp), listed.size = ops.size → left listed ≤ fuel → Closed bm ops.size listed →
      DI (dlOf ops.size l bm ks order) ks order ops.size rs pf hF fr0 m ρ φ0 h0 w0 a0 (Dn order listed) a w b φ fx H S → wpAny P .any ops Q fuel listed a w
  | 0, listed, a, w, b, φ, fx, H, S, hs, hl, hcl, di => by
    have hall : ∀ i, i < ops.size → listed.getD i false = true := fun i hi => left_zero (by omega) (by omega)
    refine ⟨?_, hQ a w (draw_end c t hall di)⟩
    cases hr : Region.ready .any ops listed with
    | nil => rfl
    | cons x xs =>
      exfalso
      have hx : x ∈ Region.ready .any ops listed := by rw [hr]; exact List.mem_cons_self
      obtain ⟨h1, h2⟩ := ready_undone hx
      rw [hall x (by omega)] at h2
      cases h2
  | fuel + 1, listed, a, w, b, φ, fx, H, S, hs, hl, hcl, di => by
    refine ⟨fun hr => hQ a w (draw_end c t (all_done c hs hr) di), fun i hi => ?_⟩
    refine draw_step c hC he t hres hN hcl hi di ?_
    intro a' w' b' φ' fx' H' S' di'
    obtain ⟨h1, h2⟩ := ready_undone hi
    have := left_set h1 h2
    exact draw_any c hC he t hres hN hQ fuel _ a' w' b' φ' fx' H' S' (by simpa using hs) (by omega) (closed_set c hcl hi) di'
theorem draw_ok (hm : P.follows .mixedOrders = true) : DrawOk P E := by
  intro N ops dl hreg call hC ρ φ fr a h w fr' h' he hf hrel hN e Q hQ t
  unfold cRegion at hreg
  cases hl : mapO (cOper P N ops) ops.toList with
  | none => rw [hl] at hreg; cases hreg
  | some l =>
    rw [hl] at hreg
    simp only [Bool.not_true, Bool.false_eq_true, if_false] at hreg
    split at hreg
    · rename_i hchk
      generalize hord : starGo (Region.before ops) ((List.range ops.size).filter fun i => (l.map fun o => kindOf o.op).getD i 0 == 3) ops.size 0 [] = order at hchk hreg
      generalize hks : (l.map fun o => kindOf o.op) = ks at hchk hreg
      generalize (Region.before ops).toList = bm at hchk hreg
      have hreg' : some (ACd.dreg (dlOf ops.size l bm ks order)) = some (ACd.dreg dl) := hreg
      cases hreg'
      unfold drawChk at hchk
      rw [Bool.and_eq_true, Bool.and_eq_true, Bool.and_eq_true] at hchk
      obtain ⟨⟨⟨c1, c2⟩, c3⟩, c4⟩ := hchk
      have c : Ctx P N ops l bm ks order := ⟨hl, hks.symm, c1, c2, c3, c4⟩
      obtain ⟨nx, bl⟩ := h
      have e' : (Option.casesOn (motive := fun _ => RF) (reserve (dlOf ops.size l bm ks order) nx) .no fun m => adraw P E call (dlOf ops.size l bm ks order) fr ⟨m, bl⟩ [] nx) = .ok fr' h' := e
      cases hres : reserve (dlOf ops.size l bm ks order) nx with
      | none => rw [hres] at e'; cases e'
      | some m =>
        rw [hres] at e'
        obtain ⟨rs, pf, tr⟩ := trc_of (show adraw P E call (dlOf ops.size l bm ks order) fr ⟨m, bl⟩ [] nx = .ok fr' h' from e')
        simp only [Region.schedule, hm, Bool.true_or, if_true]
        refine wpAny_sound ops.size t _ a _ ?_
        have hle : nx.num ≤ m.num := reserve_le hres
        have S0 : Stp ρ φ ⟨nx, bl⟩ w φ ⟨m, bl⟩ { w with drawn := w.drawn + 1 } := (Stp.draw hrel (w.drawn + 1)).raise (m := m) hle
        have hnone : ∀ p, ¬Dn order (Array.replicate ops.size false) p := by
          intro p hp
          unfold Dn at hp
          simp [Array.getD_eq_getD_getElem?, Array.getElem?_replicate] at hp
          split at hp <;> simp at hp
        have hgrow : ∃ S, (line pf h')[0]? = some S ∧ Grow rs ⟨m, bl⟩ S := trc_grow tr 0 ⟨m, bl⟩ rfl
        obtain ⟨S, hS, gS⟩ := hgrow
        have hrid : ∀ r ∈ rs, r.made.isSome = true → (Hp.mk m bl).get r.rid = none := fun r hr hm' => trc_fresh tr r hr hm' _ (line_mem.2 (by simp))
        refine draw_any c hC he tr hres hN hQ ops.size _ a _ 0 φ fr ⟨m, bl⟩ S (by simp) ?_ ?_ ⟨Nat.zero_le _, hS, fun p hp => absurd hp (Nat.not_lt_zero p), fun p _ _ hd => absurd hd (hnone p), gS.next.symm, ?_, ?_, Nat.le_refl _, hf, FrAt.nil hnone, S0, rfl, rfl⟩
        · unfold left
          exact Nat.le_trans List.countP_le_length (by simp)
        · intro i j hi hj hd
          simp [Array.getD_eq_getD_getElem?, Array.getElem?_replicate] at hd
          split at hd <;> simp at hd
        · intro q r hq _ hm'
          have hmem := List.mem_of_getElem? hq
          refine ⟨hrid r hmem hm', ?_⟩
          have h1 : nx.num ≤ r.rid.num := trc_rid tr r hmem
          exact hrel.free r.rid h1
        · intro id hid
          cases hs : S.get id with
          | some x =>
            rcases gS.only id x hs with h2 | ⟨r, h2, h3, h4⟩
            · exact h2
            · obtain ⟨q, hq⟩ := List.getElem?_of_mem h2
              exact absurd h4 (hid q r hq (hnone q) (by rw [h3]; rfl))
          | none =>
            cases hb : (Hp.mk m bl).get id with
            | none => rfl
            | some x => rw [gS.keep id x hb] at hs; cases hs
    · cases hreg
/-- the evaluator is sound -/
theorem eval_ok {T : Tab} (hT : TabOk P E T) (hm : P.follows .mixedOrders = true) (n : Nat) : CallOk P E (callBy T (aev P E T n)) := call_of_code hT (code_ok hT (draw_ok hm) n)
end
end Go.Proofs.YtmbbciidknchiaaGreat
