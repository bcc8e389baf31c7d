/-
  A verified evaluator of the model: EvG.
-/
import Derived.Test.YtjnfgapfhpihmaaGreatEvF
import Derived.Below
set_option linter.unusedVariables false
set_option linter.unusedSimpArgs false
namespace Go.Proofs.YtjnfgapfhpihmaaGreat
structure DI (dl : List (AOp × AK)) (ks order : List Nat) (n : Nat) (rs : List Rec) (pf : List Hp) (hF : Hp) (fr0 : Fr) (m : Bid) (ρ : Vn) (φ0 : Emb) (h0 : Hp) (w0 : World) (a0 : Act) (D : Nat → Prop) (a : Act) (w : World) (b : Nat) (φ : Emb) (fx : Fr) (H S : Hp) : Prop where
  bn : b ≤ n
  snap : (line pf hF)[effN dl b]? = some S
  low : ∀ p, p < b → D p
  noeff : ∀ p, p < n → b ≤ p → D p → ks.getD (order.getD p 0) 0 ≠ 3
  next : H.next = S.next
  undone : ∀ q r, rs[q]? = some r → ¬D q → r.made.isSome = true → H.get r.rid = none ∧ φ r.rid = none
  same : ∀ id, (∀ q r, rs[q]? = some r → ¬D q → r.made.isSome = true → r.rid ≠ id) → H.get id = S.get id
  mnext : m.num ≤ H.next.num
  fr : FR ρ φ fx a.tmps
  frat : FrAt dl rs fr0 D fx
  stp : Stp ρ φ0 h0 w0 φ H w
  dfr : a.defers = a0.defers
  sz : a.tmps.size = a0.tmps.size
section
variable {P : Program} {E : Env} {call : CallF} {N : Nat} {ops : Array Oper} {l : List AOp} {bm ks order : List Nat}
def Dn (order : List Nat) (listed : Array Bool) (p : Nat) : Prop := listed.getD (order.getD p 0) false = true
def Closed (bm : List Nat) (n : Nat) (listed : Array Bool) : Prop := ∀ i j, i < n → j < n → listed.getD i false = true → bAt bm i j = true → listed.getD j false = true
theorem getD_set {listed : Array Bool} {i j : Nat} (hi : i < listed.size) : (listed.setIfInBounds i true).getD j false = true ↔ listed.getD j false = true ∨ j = i := by
  by_cases h : j = i
  · subst h
    simp [Array.getD_eq_getD_getElem?, hi]
  · have h' : i ≠ j := fun e => h e.symm
    simp [Array.getD_eq_getD_getElem?, Array.getElem?_setIfInBounds_ne h', h]
theorem befores (c : Ctx P N ops l bm ks order) {listed : Array Bool} (hcl : Closed bm ops.size listed) {i : Nat} (hr : i ∈ Region.ready .any ops listed) : ∀ j, j < ops.size → bAt bm i j = true → listed.getD j false = true := by
  obtain ⟨h1, o, ho, h2⟩ := mem_ready.1 hr
  intro j hj hb
  obtain ⟨he1, he2⟩ := c.edge ho
  obtain ⟨e, he, hbd, h3⟩ := he2 j hj hb
  have hlt := he1 e he hbd
  have hi : i < ops.size := (Array.getElem?_eq_some_iff.1 ho).1
  rcases h3 with rfl | h3
  · exact h2 e he hbd
  · exact hcl e.on j (by omega) hj (h2 e he hbd) h3
theorem ready_undone {listed : Array Bool} {i : Nat} (hr : i ∈ Region.ready .any ops listed) : i < listed.size ∧ listed.getD i false = false := by
  have h1 := (mem_ready.1 hr).1
  rcases Nat.lt_or_ge i listed.size with h | h
  · refine ⟨h, ?_⟩
    simpa [Array.getD_eq_getD_getElem?, h] using h1
  · simp [Array.getD_eq_getD_getElem?, Array.getElem?_eq_none h] at h1
theorem closed_set (c : Ctx P N ops l bm ks order) {listed : Array Bool} (hcl : Closed bm ops.size listed) {i : Nat} (hr : i ∈ Region.ready .any ops listed) : Closed bm ops.size (listed.setIfInBounds i true) := by
  intro x y hx hy hl hb
  have hi := (ready_undone hr).1
  rw [getD_set hi] at hl ⊢
  rcases hl with hl | rfl
  · exact .inl (hcl x y hx hy hl hb)
  · exact .inl (befores c hcl hr y hy hb)
theorem all_before (c : Ctx P N ops l bm ks order) {listed : Array Bool} (hcl : Closed bm ops.size listed) {q : Nat} (hq : q < ops.size) (hk : ks.getD (order.getD q 0) 0 = 3) (hb : ∀ j, j < ops.size → bAt bm (order.getD q 0) j = true → listed.getD j false = true) :
    ∀ d p, q - p ≤ d → p < q → Dn order listed p
  | 0, p, hd, hp => by omega
  | d + 1, p, hd, hp => by
    obtain ⟨g1, g2, g3, g4⟩ := perm_ok c.perm
    rcases (c.keep hp hq).2 hk with h1 | ⟨r, h1, h2, h3, h4⟩
    · exact hb _ (g3 p (by omega)) h1
    · have hr : Dn order listed r := all_before c hcl hq hk hb d r (by omega) h2
      exact hcl _ _ (g3 r (by omega)) (g3 p (by omega)) hr h4
theorem lo_le (c : Ctx P N ops l bm ks order) {b i : Nat} (hb : b ≤ ops.size) (h : ∀ q, q < ops.size → ks.getD (order.getD q 0) 0 = 3 → bAt bm i (order.getD q 0) = true → q < b) : loOf bm ks order ops.size i ≤ effN (dlOf ops.size l bm ks order) b := by
  have e1 : ∀ p, p ≤ ops.size → effN (dlOf ops.size l bm ks order) p = ((List.range p).filter fun q => ks.getD (order.getD q 0) 0 == 3).length := by
    intro p
    induction p with
    | zero => intro _; rfl
    | succ p ih =>
      intro hp
      obtain ⟨o, ao, g1, g2, g3, g4⟩ := c.at (p := p) hp
      rw [effN_succ g3, ih (by omega), List.range_succ, List.filter_append, List.length_append]
      congr 1
      rcases ak_cases (bm := bm) (ks := ks) (order := order) (n := ops.size) (i := order.getD p 0) (ao := ao.op) with ⟨h1, h2⟩ | ⟨h1, h2⟩ | ⟨h1, h2⟩ | ⟨h1, h2⟩ <;> rw [h2] <;> rw [h1] at g4 <;> simp only [List.filter_cons, List.filter_nil, g4, isEff] <;> rfl
  rw [e1 b hb]
  unfold loOf
  obtain ⟨d, hd⟩ := Nat.exists_eq_add_of_le hb
  have hsplit : List.range ops.size = List.range b ++ (List.range d).map (b + ·) := by rw [hd, List.range_add]
  rw [hsplit, List.filter_append, List.length_append]
  have hz : (((List.range d).map (b + ·)).filter fun q => ks.getD (order.getD q 0) 0 == 3 && bAt bm i (order.getD q 0)) = [] := by
    rw [List.filter_eq_nil_iff]
    intro q hq
    obtain ⟨x, hx, rfl⟩ := List.mem_map.1 hq
    have hx' := List.mem_range.1 hx
    intro hp
    rw [Bool.and_eq_true, beq_iff_eq] at hp
    have := h (b + x) (by omega) hp.1 hp.2
    omega
  rw [hz, List.length_nil, Nat.add_zero]
  rw [← List.countP_eq_length_filter, ← List.countP_eq_length_filter]
  exact List.countP_mono_left fun q _ hp => by rw [Bool.and_eq_true] at hp; exact hp.1
theorem agree_op {o : Oper} {ao : AOp} (hc : cOper P N ops o = some ao) {fx fy : Fr} (hag : Agree ops o fx fy) (h : Hp) : aop P E call ao.op fx h = aop P E call ao.op fy h := by
  have hop := (cOper_ok hc).2.1
  cases hco : cOp P o.op with
  | none => rw [hco] at hop; rw [hop]; rfl
  | some x => rw [hco] at hop; rw [hop]; exact aop_agree hco hag call h
theorem cop_some {o : Oper} {ao : AOp} (hc : cOper P N ops o = some ao) (hk : kindOf ao.op ≠ 0) : cOp P o.op = some ao.op := by
  have hop := (cOper_ok hc).2.1
  cases hco : cOp P o.op with
  | none => rw [hco] at hop; rw [hop] at hk; exact absurd rfl hk
  | some x => rw [hco] at hop; rw [hop]
variable {rs : List Rec} {pf : List Hp} {hF : Hp} {fr0 frF : Fr} {m : Bid} {ρ : Vn} {φ0 : Emb} {h0 : Hp} {w0 : World} {a0 : Act}
theorem draw_step (c : Ctx P N ops l bm ks order) (hC : CallOk P E call) (he : EnvOk E ρ) (t : Trc P E call (dlOf ops.size l bm ks order) fr0 ⟨m, h0.bl⟩ [] h0.next rs frF hF pf) (hres : reserve (dlOf ops.size l bm ks order) h0.next = some m) (hN : N ≤ a0.tmps.size)
    {listed : Array Bool} (hcl : Closed bm ops.size listed) {i : Nat} (hr : i ∈ Region.ready .any ops listed) {a : Act} {w : World} {b : Nat} {φ : Emb} {fx : Fr} {H S : Hp} (di : DI (dlOf ops.size l bm ks order) ks order ops.size rs pf hF fr0 m ρ φ0 h0 w0 a0 (Dn order listed) a w b φ fx H S)
    {Q : Exit → Act → World → Prop} {K : Act → World → Prop} (hK : ∀ a' w' b' φ' fx' H' S', DI (dlOf ops.size l bm ks order) ks order ops.size rs pf hF fr0 m ρ φ0 h0 w0 a0 (Dn order (listed.setIfInBounds i true)) a' w' b' φ' fx' H' S' → K a' w') : wpOp P ops Q i K a w := by
  obtain ⟨hperm1, hperm2, hperm3, hperm4⟩ := perm_ok c.perm
  obtain ⟨o', ho', _⟩ := (mem_ready.1 hr).2
  have hin : i < ops.size := (Array.getElem?_eq_some_iff.1 ho').1
  obtain ⟨hil, hiu⟩ := ready_undone hr
  obtain ⟨p, hp, hpi⟩ := hperm2 i hin
  obtain ⟨o, ao, hio, hco, hdl, hks⟩ := c.at hp
  rw [hpi] at hio hdl hks
  have hbef := befores c hcl hr
  have hnp : ¬Dn order listed p := by unfold Dn; rw [hpi, hiu]; simp
  have hbp : b ≤ p := by
    rcases Nat.lt_or_ge p b with h | h
    · exact absurd (di.low p h) hnp
    · exact h
  have hDn' : ∀ q, q < ops.size → (Dn order (listed.setIfInBounds i true) q ↔ Dn order listed q ∨ q = p) := by
    intro q hq
    unfold Dn
    rw [getD_set hil]
    refine or_congr Iff.rfl ⟨fun h => ?_, fun h => by rw [h, hpi]⟩
    rw [← hpi] at h
    rcases Nat.lt_trichotomy q p with h1 | h1 | h1
    · exact absurd h (hperm4 q p h1 hp)
    · exact h1
    · exact absurd h.symm (hperm4 p q h1 hq)
  have hlenr : rs.length = ops.size := by rw [trc_len t, c.len]
  have hrlt : p < rs.length := by omega
  have hr0 : rs[p]? = some rs[p] := List.getElem?_eq_getElem hrlt
  generalize rs[p] = r at hr0
  have hqlt : ∀ q r, rs[q]? = some r → q < ops.size := fun q r h => by rw [← hlenr]; exact (List.getElem?_eq_some_iff.1 h).1
  have ht := trc_at t p r hr0
  rw [drop_at hdl, drop_at hr0] at ht
  obtain ⟨f1, g1, past1, r1, hcut, hfrp, hpl⟩ := trc_cut t c.dist p (by rw [c.len]; omega)
  rw [drop_at hdl, drop_at hr0] at hcut
  obtain ⟨e1, _, e3, _, _⟩ := trc_head hcut
  rw [← e1] at hfrp
  rw [← e3] at hpl
  clear hcut
  have hagF : ∀ q o' k', (dlOf ops.size l bm ks order)[q]? = some (o', k') → ∀ x, o'.dst = some x → tn x.1 x.2 ∈ looks ops o → (Dn order listed q ↔ q < p) := by
    intro q o' k' hq x hx hm
    have hqn : q < ops.size := by rw [← c.len]; exact (List.getElem?_eq_some_iff.1 hq).1
    obtain ⟨oq, aq, k1, k2, k3, _⟩ := c.at hqn
    rw [hq] at k3
    cases k3
    by_cases hqp : q = p
    · subst hqp
      exact ⟨fun h => absurd h hnp, fun h => absurd h (Nat.lt_irrefl _)⟩
    · have hne : i ≠ order.getD q 0 := by
        rw [← hpi]
        rcases Nat.lt_or_ge p q with h | h
        · exact hperm4 p q h hqn
        · exact (hperm4 q p (by omega) hp).symm
      rcases (c.dst hne hio k1 (dst_tmp k2 hx)).2 hm with h1 | h1
      · refine ⟨fun _ => ?_, fun _ => hbef _ (hperm3 q hqn) h1⟩
        rcases Nat.lt_trichotomy q p with h2 | h2 | h2
        · exact h2
        · exact absurd h2 hqp
        · have := (c.keep h2 hqn).1
          rw [hpi, h1] at this
          cases this
      · refine ⟨fun h => absurd (hcl _ _ (hperm3 q hqn) hin h h1) (by rw [hiu]; simp), fun h => ?_⟩
        have := (c.keep h hp).1
        rw [hpi, h1] at this
        cases this
  have hag : Agree ops o fx r.fr := by
    intro tt htt x hx
    refine FrAt.agree (by rw [hlenr, c.len]) di.frat hfrp fun q o' k' hq hd => ?_
    exact hagF q o' k' hq x hd (by rw [tmpOf_tn (i := x.1) (j := x.2) hx]; exact htt)
  have hwant : wantedA fx ao.guard = some r.b := by
    rw [wanted_agree hco hag]
    exact (trc_head ht).2.2.2.2.1
  have hNa : N ≤ a.tmps.size := by rw [di.sz]; exact hN
  have hrid0 : ∀ r ∈ rs, h0.next.num ≤ r.rid.num := trc_rid t
  have hridm : ∀ r ∈ rs, r.made.isSome = true → r.rid.num < m.num := trc_res t h0.next m (Nat.le_refl _) hres
  have hfrat' : FrAt (dlOf ops.size l bm ks order) rs fr0 (Dn order (listed.setIfInBounds i true)) (setDst ao.dst r.v fx) :=
    (di.frat.step c.dist hdl hr0).mono fun q hq => (hDn' q (by rw [← c.len]; exact hq)).symm
  have plain : kindOf ao.op ≠ 3 → r.made = none → (r.b = true → aop P E call ao.op fx H = .ok r.v H) → (r.b = false → r.v = .t []) → wpOp P ops Q i K a w := by
    intro hk hmade htrue hfalse
    refine oper_wpOp hC hio hco ⟨di.fr, di.stp.rel, he⟩ hNa hwant htrue (fun h => ⟨hfalse h, rfl⟩) ?_
    intro a' w' φ' hfr' T hdf hsz _
    refine hK a' w' b φ' _ H S ⟨di.bn, di.snap, ?_, ?_, di.next, ?_, ?_, di.mnext, hfr', hfrat', di.stp.trans T, hdf.trans di.dfr, hsz.trans di.sz⟩
    · intro q hq
      exact (hDn' q (Nat.lt_of_lt_of_le hq di.bn)).2 (.inl (di.low q hq))
    · intro q hq hbq hd
      rcases (hDn' q hq).1 hd with h | rfl
      · exact di.noeff q hq hbq h
      · rw [hpi, hks]; exact hk
    · intro q r' hq hnd hm
      have hnd' : ¬Dn order listed q := fun h => hnd ((hDn' q (hqlt q r' hq)).2 (.inl h))
      obtain ⟨k1, k2⟩ := di.undone q r' hq hnd' hm
      refine ⟨k1, ?_⟩
      cases hφ : φ' r'.rid with
      | none => rfl
      | some y =>
        rcases T.dom r'.rid (by rw [hφ]; simp) with h | h
        · exact absurd k2 h
        · have := hridm r' (List.mem_of_getElem? hq) hm
          have := di.mnext
          omega
    · intro id hid
      refine di.same id fun q r' hq hnd hm => ?_
      refine hid q r' hq (fun h => ?_) hm
      rcases (hDn' q (hqlt q r' hq)).1 h with h | h
      · exact hnd h
      · subst h
        rw [hr0] at hq
        cases hq
        rw [hmade] at hm
        cases hm
  have effect : ∀ (h1 : Hp) (fr2 : Fr), kindOf ao.op = 3 → r.made = none → Trc P E call ((dlOf ops.size l bm ks order).drop (p + 1)) fr2 h1 (r.h :: r.past) r.rid (rs.drop (p + 1)) frF hF pf → (r.b = true → aop P E call ao.op r.fr r.h = .ok r.v h1) → (r.b = false → r.v = .t [] ∧ h1 = r.h) → wpOp P ops Q i K a w := by
    intro h1 fr2 hk hmade ht2 htrue hfalse
    have hall : ∀ q, q < p → Dn order listed q := fun q hq => all_before c hcl hp (by rw [hpi, hks]; exact hk) (by rw [hpi]; exact hbef) (p - q) q (Nat.le_refl _) hq
    have heff : effN (dlOf ops.size l bm ks order) b = effN (dlOf ops.size l bm ks order) p := by
      refine effN_const hbp (by rw [c.len]; omega) fun q o' k' h2 h3 hq => ?_
      have hqn : q < ops.size := by omega
      obtain ⟨oq, aq, k1, k2, k3, k4⟩ := c.at hqn
      rw [hq] at k3
      cases k3
      have := di.noeff q hqn h2 (hall q h3)
      rw [k4] at this
      cases hke : isEff (akOf bm ks order ops.size (order.getD q 0) o'.op) with
      | false => rfl
      | true => exact absurd (ak_eff'.1 hke) this
    obtain ⟨S1, hS1, gS⟩ := trc_grow ht (effN (dlOf ops.size l bm ks order) p) r.h (by rw [← hpl]; exact line_last)
    have hSS : S1 = S := by
      have := di.snap
      rw [heff, hS1] at this
      exact Option.some.inj this
    subst hSS
    have hnew : ∀ q r', rs[q]? = some r' → r'.made.isSome = true → p < q → r.h.get r'.rid = none := by
      intro q r' hq hm hpq
      have hmem : r' ∈ rs.drop (p + 1) := by
        refine List.mem_of_getElem? (i := q - (p + 1)) ?_
        rw [List.getElem?_drop, show p + 1 + (q - (p + 1)) = q by omega]
        exact hq
      exact trc_fresh ht2 r' hmem hm r.h (line_mem.2 (by simp))
    have hsub : ∀ id x, r.h.get id = some x → H.get id = some x := by
      intro id x hx
      rw [di.same id fun q r' hq hnd hm heq => ?_]
      · exact gS.keep id x hx
      · subst heq
        rcases Nat.lt_trichotomy q p with h2 | h2 | h2
        · exact hnd (hall q h2)
        · subst h2
          rw [hr0] at hq; cases hq
          rw [hmade] at hm; cases hm
        · rw [hnew q r' hq hm h2] at hx; cases hx
    have hnx : r.h.next = H.next := by rw [di.next, gS.next]
    have hrel : Rel ρ φ r.h w := di.stp.part hsub hnx
    refine oper_wpOp hC hio hco ⟨di.fr, hrel, he⟩ hNa hwant (fun h => (agree_op hco hag r.h).trans (htrue h)) hfalse ?_
    intro a' w' φ' hfr' T hdf hsz _
    obtain ⟨S', hS', gS'⟩ := trc_grow ht2 (effN (dlOf ops.size l bm ks order) p + 1) h1 (by rw [← hpl]; exact line_last (past := r.h :: r.past))
    obtain ⟨H', hn', hd', hs'⟩ := exists_drop ((rs.zipIdx.filter fun x => !(listed.setIfInBounds i true).getD (order.getD x.2 0) false && x.1.made.isSome).map fun x => x.1.rid) S'
    have hids : ∀ id, id ∈ ((rs.zipIdx.filter fun x => !(listed.setIfInBounds i true).getD (order.getD x.2 0) false && x.1.made.isSome).map fun x => x.1.rid) ↔ ∃ q r', rs[q]? = some r' ∧ ¬Dn order (listed.setIfInBounds i true) q ∧ r'.made.isSome = true ∧ r'.rid = id := by
      intro id
      simp only [List.mem_map, List.mem_filter, Bool.and_eq_true, Bool.not_eq_true']
      constructor
      · rintro ⟨x, ⟨hx, h2, h3⟩, rfl⟩
        exact ⟨x.2, x.1, List.mem_zipIdx_iff_getElem?.1 hx, by unfold Dn; rw [h2]; simp, h3, rfl⟩
      · rintro ⟨q, r', hq, hnd, hm, rfl⟩
        refine ⟨(r', q), ⟨List.mem_zipIdx_iff_getElem?.2 hq, ?_, hm⟩, rfl⟩
        unfold Dn at hnd
        exact Bool.eq_false_iff.2 hnd
    have hg : ∀ id x, H'.get id = some x → h1.get id = some x ∨ (r.h.get id = none ∧ H.get id = some x) := by
      intro id x hx
      have hni : id ∉ ((rs.zipIdx.filter fun x => !(listed.setIfInBounds i true).getD (order.getD x.2 0) false && x.1.made.isSome).map fun x => x.1.rid) := fun hm => by
        rw [hd' id hm] at hx; cases hx
      rw [hs' id hni] at hx
      rcases gS'.only id x hx with h2 | ⟨r', h2, h3, rfl⟩
      · exact .inl h2
      · obtain ⟨j, hj, hje⟩ := List.getElem_of_mem h2
        have hq : rs[p + 1 + j]? = some r' := by
          rw [← List.getElem?_drop, List.getElem?_eq_getElem hj, hje]
        have hm : r'.made.isSome = true := by rw [h3]; rfl
        have hqn := hqlt _ _ hq
        have hD : Dn order listed (p + 1 + j) := by
          rcases Classical.em (Dn order (listed.setIfInBounds i true) (p + 1 + j)) with h4 | h4
          · exact ((hDn' _ hqn).1 h4).resolve_right (by omega)
          · exact absurd ((hids _).2 ⟨_, r', hq, h4, hm, rfl⟩) hni
        refine .inr ⟨hnew _ r' hq hm (by omega), ?_⟩
        rw [di.same r'.rid fun q r'' hq'' hnd hm'' heq => hnd ?_]
        · have hpast : effN (dlOf ops.size l bm ks order) p ≤ r'.past.length := by
            obtain ⟨f2, g2, past2, r2, hcut2, _, hpl2⟩ := trc_cut t c.dist (p + 1 + j) (by rw [c.len]; omega)
            obtain ⟨_, _, _, _, kk, _⟩ := c.at hqn
            rw [drop_at kk, drop_at hq] at hcut2
            have := (trc_head hcut2).2.2.1
            rw [this, hpl2]
            exact effN_mono _ (by omega)
          obtain ⟨S2, h5, h6⟩ := made_final t hq h3 hpast
          rw [hS1] at h5
          cases h5
          exact h6
        · rw [rid_inj t hq'' hq hm'' hm heq]
          exact hD
    have hmn : m.num ≤ r.h.next.num := by rw [hnx]; exact di.mnext
    refine hK a' w' (p + 1) φ' _ H' S' ⟨by omega, ?_, ?_, ?_, hn', ?_, ?_, ?_, hfr', hfrat', di.stp.over hsub hnx T (by rw [hn', gS'.next]) hg, hdf.trans di.dfr, hsz.trans di.sz⟩
    · rw [effN_succ hdl, ak_eff'.2 hk]
      exact hS'
    · intro q hq
      refine (hDn' q (by omega)).2 ?_
      rcases Nat.lt_or_ge q p with h2 | h2
      · exact .inl (hall q h2)
      · exact .inr (by omega)
    · intro q hq hbq hd
      rcases (hDn' q hq).1 hd with h | rfl
      · exact di.noeff q hq (by omega) h
      · omega
    · intro q r' hq hnd hm
      refine ⟨hd' _ ((hids _).2 ⟨q, r', hq, hnd, hm, rfl⟩), ?_⟩
      have hnd' : ¬Dn order listed q := fun h => hnd ((hDn' q (hqlt q r' hq)).2 (.inl h))
      cases hφ : φ' r'.rid with
      | none => rfl
      | some y =>
        rcases T.dom r'.rid (by rw [hφ]; simp) with h | h
        · exact absurd (di.undone q r' hq hnd' hm).2 h
        · have := hridm r' (List.mem_of_getElem? hq) hm
          omega
    · intro id hid
      refine hs' id fun hm => ?_
      obtain ⟨q, r', hq, hnd, hm', heq⟩ := (hids id).1 hm
      exact hid q r' hq hnd hm' heq
    · rw [hn', gS'.next]
      exact Nat.le_trans hmn T.next
  have make : ∀ (B : AB) (h1 : Hp), kindOf ao.op = 2 → r.b = true → r.made = some B → aop P E noCall ao.op r.fr ⟨r.rid, r.h.bl⟩ = .ok r.v h1 → h1.get r.rid = some B → wpOp P ops Q i K a w := by
    intro B h1 hk hb hmade hop hB
    rw [hb] at hwant
    have hm : r.made.isSome = true := by rw [hmade]; rfl
    have hmem : r ∈ rs := List.mem_of_getElem? hr0
    obtain ⟨hH0, hφ0⟩ := di.undone p r hr0 hnp hm
    have hop' := (agree_op (E := E) (call := noCall) hco hag ⟨r.rid, r.h.bl⟩).trans hop
    obtain ⟨V, B', n', u, blk, tot, k1, k2, k3, k4, k5, k6⟩ := make_of (w := w) (ty := o.type) (cop_some hco (by omega)) hk di.fr hop'
    have hBB : B' = B := by
      rw [k3] at hB
      have := Hp.get_more_same (⟨r.rid, r.h.bl⟩ : Hp) n' B'
      rw [show (⟨r.rid, r.h.bl⟩ : Hp).next = r.rid from rfl] at this
      rw [this] at hB
      exact Option.some.inj hB
    subst hBB
    have hstp := di.stp.push hφ0 (hrid0 r hmem) (Nat.lt_of_lt_of_le (hridm r hmem hm) di.mnext) k6
    have hle := Emb.le_add hφ0 (w.heap.size, 0, tot)
    have hvv : VV ρ (φ.add r.rid (w.heap.size, 0, tot)) r.v u := by
      rw [k2]
      exact k5 _ _ (Emb.add_same _ _ _)
    have hwd := wanted_ok hco di.fr hwant
    unfold wpOp
    rw [hio]
    simp only [hwd, if_true]
    refine .inl ?_
    unfold Oper.wp
    rw [execOp_eq, k4]
    refine hK _ _ b _ _ (H.putB r.rid (some B')) S ⟨di.bn, di.snap, ?_, ?_, by rw [Hp.next_putB]; exact di.next, ?_, ?_, by rw [Hp.next_putB]; exact di.mnext, put_fr (di.fr.le hle) hvv (cOper_ok hco).1 hNa, hfrat', hstp, (put_defers _ _ _).trans di.dfr, (put_size _ _ _).trans di.sz⟩
    · intro q hq
      exact (hDn' q (Nat.lt_of_lt_of_le hq di.bn)).2 (.inl (di.low q hq))
    · intro q hq hbq hd
      rcases (hDn' q hq).1 hd with h | rfl
      · exact di.noeff q hq hbq h
      · rw [hpi, hks, hk]; decide
    · intro q r' hq hnd hm'
      have hnd' : ¬Dn order listed q := fun h => hnd ((hDn' q (hqlt q r' hq)).2 (.inl h))
      have hne : r'.rid ≠ r.rid := fun heq => hnd ((hDn' q (hqlt q r' hq)).2 (.inr (rid_inj t hq hr0 hm' hm heq)))
      obtain ⟨j1, j2⟩ := di.undone q r' hq hnd' hm'
      exact ⟨by rw [Hp.get_putB_ne hne]; exact j1, by rw [Emb.add_ne hne]; exact j2⟩
    · intro id hid
      by_cases hne : id = r.rid
      · subst hne
        rw [Hp.get_putB]
        obtain ⟨S2, h5, h6⟩ := made_final t hr0 hmade (i := effN (dlOf ops.size l bm ks order) b) (by rw [hpl]; exact effN_mono _ hbp)
        rw [di.snap] at h5
        cases h5
        exact h6.symm
      · rw [Hp.get_putB_ne hne]
        refine di.same id fun q r' hq hnd hm' => ?_
        by_cases hqp : q = p
        · subst hqp
          rw [hr0] at hq; cases hq
          exact fun h => hne h.symm
        · exact hid q r' hq (fun h => ((hDn' q (hqlt q r' hq)).1 h).elim hnd hqp) hm'
  have hfin : ∀ s, (line r.past r.h)[effN (dlOf ops.size l bm ks order) b]? = some s → ∀ id x, φ id ≠ none → s.get id = some x → H.get id = some x := by
    intro s hs id x hid hx
    obtain ⟨S1, h2, g⟩ := trc_grow ht _ s hs
    rw [di.snap] at h2
    cases h2
    rw [di.same id fun q r' hq hnd hm heq => ?_]
    · exact g.keep id x hx
    · subst heq
      exact hid (di.undone q r' hq hnd hm).2
  obtain ⟨rb, rv, rfr, rh, rpast, rrid, rmade⟩ := r
  dsimp only at *
  have hk0 : ∃ k, akOf bm ks order ops.size i ao.op = k := ⟨_, rfl⟩
  obtain ⟨k, hk⟩ := hk0
  rw [hk] at ht
  cases ht with
  | skip hw t2 =>
    cases k with
    | effect => exact effect _ _ (ak_eff hk) rfl t2 (fun h => by cases h) (fun _ => ⟨rfl, rfl⟩)
    | pure => exact plain (by rw [ak_pure hk]; decide) rfl (fun h => by cases h) (fun _ => rfl)
    | read lo => exact plain (by rw [(ak_read hk).1]; decide) rfl (fun h => by cases h) (fun _ => rfl)
    | make => exact plain (by rw [ak_make hk]; decide) rfl (fun h => by cases h) (fun _ => rfl)
  | pure hw hop t2 =>
    have hk' := ak_pure hk
    refine plain (by rw [hk']; decide) rfl (fun _ => ?_) (fun h => by cases h)
    rw [agree_op hco hag, noCall_kind (by rw [hk']; decide)]
    exact pure_any hk' hop H
  | read hw hop hs t2 =>
    obtain ⟨hk', rfl⟩ := ak_read hk
    refine plain (by rw [hk']; decide) rfl (fun _ => ?_) (fun h => by cases h)
    rw [noCall_kind (by rw [hk']; decide)]
    have hlo : loOf bm ks order ops.size i ≤ effN (dlOf ops.size l bm ks order) b := by
      refine lo_le c di.bn fun q hq h3 hb => ?_
      rcases Nat.lt_or_ge q b with h | h
      · exact h
      · exact absurd h3 (di.noeff q hq h (hbef _ (hperm3 q hq) hb))
    have hle : effN (dlOf ops.size l bm ks order) b ≤ rpast.length := by rw [hpl]; exact effN_mono _ hbp
    have hread : ∃ s h1, (line rpast rh)[effN (dlOf ops.size l bm ks order) b]? = some s ∧ aop P E noCall ao.op rfr s = .ok rv h1 := by
      rcases Nat.lt_or_ge (effN (dlOf ops.size l bm ks order) b) rpast.length with h | h
      · have hx : rpast[rpast.length - 1 - effN (dlOf ops.size l bm ks order) b]? = some rpast[rpast.length - 1 - effN (dlOf ops.size l bm ks order) b] := List.getElem?_eq_getElem (by omega)
        obtain ⟨h1, h2⟩ := sameIn_get hs _ _ (by omega) hx
        exact ⟨_, h1, by rw [line_get h]; exact hx, h2⟩
      · have : effN (dlOf ops.size l bm ks order) b = rpast.length := by omega
        exact ⟨rh, _, by rw [this]; exact line_last, hop⟩
    obtain ⟨s, h1, hs1, hs2⟩ := hread
    rw [← agree_op hco hag] at hs2
    exact read_any (cop_some hco (by omega)) hk' di.fr hs2 (hfin s hs1)
  | make hw hop hb hri hn t2 => exact make _ _ (ak_make hk) rfl rfl hop hb
  | effect hw hop t2 => exact effect _ _ (ak_eff hk) rfl t2 (fun _ => hop) (fun h => by cases h)
end
end Go.Proofs.YtjnfgapfhpihmaaGreat
namespace Go.Proofs.YtjnfgapfhpihmaaGreat
section
variable {P : Program} {E : Env} {call : CallF} {N : Nat} {ops : Array Oper} {l : List AOp} {bm ks order : List Nat}
def left (listed : Array Bool) : Nat := listed.toList.countP fun b => !b
theorem left_set {listed : Array Bool} {i : Nat} (h : i < listed.size) (hf : listed.getD i false = false) : left (listed.setIfInBounds i true) + 1 = left listed := by
  unfold left
  have hl : i < listed.toList.length := by simpa using h
  have hx : listed.toList[i] = false := by
    have : listed.getD i false = listed[i] := by simp [Array.getD_eq_getD_getElem?, h]
    rw [this] at hf
    simpa using hf
  have hmem : false ∈ listed.toList := hx ▸ List.getElem_mem hl
  have hpos : 0 < listed.toList.countP fun b => !b := List.countP_pos_iff.2 ⟨false, hmem, rfl⟩
  rw [Array.toList_setIfInBounds, List.countP_set hl, hx]
  show (listed.toList.countP (fun b => !b)) - 1 + 0 + 1 = listed.toList.countP fun b => !b
  omega
theorem left_zero {listed : Array Bool} (h : left listed = 0) {i : Nat} (hi : i < listed.size) : listed.getD i false = true := by
  have hl : i < listed.toList.length := by simpa using hi
  have := List.countP_eq_zero.1 h _ (List.getElem_mem hl)
  have hg : listed.getD i false = listed[i] := by simp [Array.getD_eq_getD_getElem?, hi]
  rw [hg]
  simpa using this
theorem all_done (c : Ctx P N ops l bm ks order) {listed : Array Bool} (hs : listed.size = ops.size) (h : Region.ready .any ops listed = []) : ∀ i, i < ops.size → listed.getD i false = true := by
  intro i
  induction i using Nat.strongRecOn with
  | _ i ih =>
    intro hi
    cases hl : listed.getD i false with
    | true => rfl
    | false =>
      exfalso
      have ho : ops[i]? = some ops[i] := Array.getElem?_eq_getElem hi
      have : i ∈ Region.ready .any ops listed := by
        refine mem_ready.2 ⟨?_, _, ho, fun e he hb => ?_⟩
        · have hi' : i < listed.size := by omega
          simpa [Array.getD_eq_getD_getElem?, hi'] using hl
        · have := (c.edge ho).1 e he hb
          exact ih e.on this (by omega)
      rw [h] at this
      cases this
variable {rs : List Rec} {pf : List Hp} {hF : Hp} {fr0 frF : Fr} {m : Bid} {ρ : Vn} {φ0 : Emb} {h0 : Hp} {w0 : World} {a0 : Act}
theorem draw_end (c : Ctx P N ops l bm ks order) (t : Trc P E call (dlOf ops.size l bm ks order) fr0 ⟨m, h0.bl⟩ [] h0.next rs frF hF pf) {listed : Array Bool} (hall : ∀ i, i < ops.size → listed.getD i false = true)
    {a : Act} {w : World} {b : Nat} {φ : Emb} {fx : Fr} {H S : Hp} (di : DI (dlOf ops.size l bm ks order) ks order ops.size rs pf hF fr0 m ρ φ0 h0 w0 a0 (Dn order listed) a w b φ fx H S) : Fin ρ φ0 h0 w0 a0 frF hF a w := by
  obtain ⟨hperm1, hperm2, hperm3, hperm4⟩ := perm_ok c.perm
  have hD : ∀ q, q < ops.size → Dn order listed q := fun q hq => hall _ (hperm3 q hq)
  have hlenr : rs.length = ops.size := by rw [trc_len t, c.len]
  obtain ⟨f, g, past, r1, hcut, hfr, hpl⟩ := trc_cut t c.dist ops.size (by rw [c.len]; exact Nat.le_refl _)
  rw [List.drop_eq_nil_of_le (by rw [c.len]; exact Nat.le_refl _), List.drop_eq_nil_of_le (by rw [hlenr]; exact Nat.le_refl _)] at hcut
  cases hcut
  have heff : effN (dlOf ops.size l bm ks order) b = effN (dlOf ops.size l bm ks order) ops.size := by
    refine effN_const di.bn (by rw [c.len]; exact Nat.le_refl _) fun q o' k' h2 h3 hq => ?_
    obtain ⟨oq, aq, k1, k2, k3, k4⟩ := c.at h3
    rw [hq] at k3
    cases k3
    have := di.noeff q h3 h2 (hD q h3)
    rw [k4] at this
    cases hke : isEff (akOf bm ks order ops.size (order.getD q 0) o'.op) with
    | false => rfl
    | true => exact absurd (ak_eff'.1 hke) this
  have hS : S = hF := by
    have := di.snap
    rw [heff, ← hpl, line_last] at this
    exact (Option.some.inj this).symm
  subst hS
  have hsame : ∀ id, H.get id = S.get id := fun id => di.same id fun q r hq hnd _ => absurd (hD q (by rw [← hlenr]; exact (List.getElem?_eq_some_iff.1 hq).1)) hnd
  refine ⟨φ, fun i j v hv => di.fr i j v ?_, di.stp.over (hp := H) (h1 := H) (fun _ _ h => h) rfl (Stp.refl di.stp.rel) di.next.symm fun id x hx => .inl (by rw [hsame id]; exact hx), di.dfr, di.sz⟩
  rw [← hv]
  refine FrAt.agree (by rw [hlenr, c.len]) di.frat hfr fun q o k hq _ => ?_
  have hqn : q < ops.size := by rw [← c.len]; exact (List.getElem?_eq_some_iff.1 hq).1
  exact ⟨fun _ => hqn, fun _ => hD q hqn⟩
theorem draw_any (c : Ctx P N ops l bm ks order) (hC : CallOk P E call) (he : EnvOk E ρ) (t : Trc P E call (dlOf ops.size l bm ks order) fr0 ⟨m, h0.bl⟩ [] h0.next rs frF hF pf) (hres : reserve (dlOf ops.size l bm ks order) h0.next = some m) (hN : N ≤ a0.tmps.size)
    {Q : Exit → Act → World → Prop} (hQ : ∀ a' w', Fin ρ φ0 h0 w0 a0 frF hF a' w' → Q .normal a' w') :
    ∀ (fuel : Nat) (listed : Array Bool) (a : Act) (w : World) (b : Nat) (φ : Emb) (fx : Fr) (H S : Hp), listed.size = ops.size → left listed ≤ fuel → Closed bm ops.size listed →
      DI (dlOf ops.size l bm ks order) ks order ops.size rs pf hF fr0 m ρ φ0 h0 w0 a0 (Dn order listed) a w b φ fx H S → wpAny P .any ops Q fuel listed a w
  | 0, listed, a, w, b, φ, fx, H, S, hs, hl, hcl, di => by
    have hall : ∀ i, i < ops.size → listed.getD i false = true := fun i hi => left_zero (by omega) (by omega)
    refine ⟨?_, hQ a w (draw_end c t hall di)⟩
    cases hr : Region.ready .any ops listed with
    | nil => rfl
    | cons x xs =>
      exfalso
      have hx : x ∈ Region.ready .any ops listed := by rw [hr]; exact List.mem_cons_self
      obtain ⟨h1, h2⟩ := ready_undone hx
      rw [hall x (by omega)] at h2
      cases h2
  | fuel + 1, listed, a, w, b, φ, fx, H, S, hs, hl, hcl, di => by
    refine ⟨fun hr => hQ a w (draw_end c t (all_done c hs hr) di), fun i hi => ?_⟩
    refine draw_step c hC he t hres hN hcl hi di ?_
    intro a' w' b' φ' fx' H' S' di'
    obtain ⟨h1, h2⟩ := ready_undone hi
    have := left_set h1 h2
    exact draw_any c hC he t hres hN hQ fuel _ a' w' b' φ' fx' H' S' (by simpa using hs) (by omega) (closed_set c hcl hi) di'
theorem draw_ok (hm : P.follows .mixedOrders = true) : DrawOk P E := by
  intro N ops dl hreg call hC ρ φ fr a h w fr' h' he hf hrel hN e Q hQ t
  unfold cRegion at hreg
  cases hl : mapO (cOper P N ops) ops.toList with
  | none => rw [hl] at hreg; cases hreg
  | some l =>
    rw [hl] at hreg
    simp only [Bool.not_true, Bool.false_eq_true, if_false] at hreg
    split at hreg
    · rename_i hchk
      generalize hord : starGo (Region.before ops) ((List.range ops.size).filter fun i => (l.map fun o => kindOf o.op).getD i 0 == 3) ops.size 0 [] = order at hchk hreg
      generalize hks : (l.map fun o => kindOf o.op) = ks at hchk hreg
      generalize (Region.before ops).toList = bm at hchk hreg
      have hreg' : some (ACd.dreg (dlOf ops.size l bm ks order)) = some (ACd.dreg dl) := hreg
      cases hreg'
      unfold drawChk at hchk
      rw [Bool.and_eq_true, Bool.and_eq_true, Bool.and_eq_true] at hchk
      obtain ⟨⟨⟨c1, c2⟩, c3⟩, c4⟩ := hchk
      have c : Ctx P N ops l bm ks order := ⟨hl, hks.symm, c1, c2, c3, c4⟩
      obtain ⟨nx, bl⟩ := h
      have e' : (Option.casesOn (motive := fun _ => RF) (reserve (dlOf ops.size l bm ks order) nx) .no fun m => adraw P E call (dlOf ops.size l bm ks order) fr ⟨m, bl⟩ [] nx) = .ok fr' h' := e
      cases hres : reserve (dlOf ops.size l bm ks order) nx with
      | none => rw [hres] at e'; cases e'
      | some m =>
        rw [hres] at e'
        obtain ⟨rs, pf, tr⟩ := trc_of (show adraw P E call (dlOf ops.size l bm ks order) fr ⟨m, bl⟩ [] nx = .ok fr' h' from e')
        simp only [Region.schedule, hm, Bool.true_or, if_true]
        refine wpAny_sound ops.size t _ a _ ?_
        have hle : nx.num ≤ m.num := reserve_le hres
        have S0 : Stp ρ φ ⟨nx, bl⟩ w φ ⟨m, bl⟩ { w with drawn := w.drawn + 1 } := (Stp.draw hrel (w.drawn + 1)).raise (m := m) hle
        have hnone : ∀ p, ¬Dn order (Array.replicate ops.size false) p := by
          intro p hp
          unfold Dn at hp
          simp [Array.getD_eq_getD_getElem?, Array.getElem?_replicate] at hp
          split at hp <;> simp at hp
        have hgrow : ∃ S, (line pf h')[0]? = some S ∧ Grow rs ⟨m, bl⟩ S := trc_grow tr 0 ⟨m, bl⟩ rfl
        obtain ⟨S, hS, gS⟩ := hgrow
        have hrid : ∀ r ∈ rs, r.made.isSome = true → (Hp.mk m bl).get r.rid = none := fun r hr hm' => trc_fresh tr r hr hm' _ (line_mem.2 (by simp))
        refine draw_any c hC he tr hres hN hQ ops.size _ a _ 0 φ fr ⟨m, bl⟩ S (by simp) ?_ ?_ ⟨Nat.zero_le _, hS, fun p hp => absurd hp (Nat.not_lt_zero p), fun p _ _ hd => absurd hd (hnone p), gS.next.symm, ?_, ?_, Nat.le_refl _, hf, FrAt.nil hnone, S0, rfl, rfl⟩
        · unfold left
          exact Nat.le_trans List.countP_le_length (by simp)
        · intro i j hi hj hd
          simp [Array.getD_eq_getD_getElem?, Array.getElem?_replicate] at hd
          split at hd <;> simp at hd
        · intro q r hq _ hm'
          have hmem := List.mem_of_getElem? hq
          refine ⟨hrid r hmem hm', ?_⟩
          have h1 : nx.num ≤ r.rid.num := trc_rid tr r hmem
          exact hrel.free r.rid h1
        · intro id hid
          cases hs : S.get id with
          | some x =>
            rcases gS.only id x hs with h2 | ⟨r, h2, h3, h4⟩
            · exact h2
            · obtain ⟨q, hq⟩ := List.getElem?_of_mem h2
              exact absurd h4 (hid q r hq (hnone q) (by rw [h3]; rfl))
          | none =>
            cases hb : (Hp.mk m bl).get id with
            | none => rfl
            | some x => rw [gS.keep id x hb] at hs; cases hs
    · cases hreg
theorem eval_ok {T : Tab} (hT : TabOk P E T) (hm : P.follows .mixedOrders = true) (n : Nat) : CallOk P E (callBy T (aev P E T n)) := call_of_code hT (code_ok hT (draw_ok hm) n)
end
end Go.Proofs.YtjnfgapfhpihmaaGreat
namespace Go.Proofs.YtjnfgapfhpihmaaGreat
def tabOf : List (Bid × AFn) → Tab
  | [] => N16.rep (N16.rep (N16.rep none))
  | (i, f) :: l => put3 (tabOf l) i (some f)
section
variable {P : Program} {E : Env}
def EntOk (P : Program) (E : Env) (id : Bid) (fn : AFn) : Prop := (∀ args w, (callFunc id.num args).run P w = .ok (.enter id.num args) w) ∧
    match fn with
    | .code b res => ∃ f c, P.funcs[id.num]? = some f ∧ f.body = some c ∧ cCode P f.ntmps c = some b ∧ cRes P f.results.toList = some res
    | .nat g => ∀ vs v, g vs = some v → ∀ ρ φ h w us, EnvOk E ρ → Rel ρ φ h w → All2 (VV ρ φ) vs us → Calls P id.num us.toArray w fun e w' => ∃ u φ', e = .returned u ∧ VV ρ φ' v u ∧ Stp ρ φ h w φ' h w'
    | .natm g => ∀ vs v h h', g vs h = .ok v h' → ∀ ρ φ w us, EnvOk E ρ → Rel ρ φ h w → All2 (VV ρ φ) vs us → Calls P id.num us.toArray w fun e w' => ∃ u φ', e = .returned u ∧ VV ρ φ' v u ∧ Stp ρ φ h w φ' h' w'
theorem tab_nil : TabOk P E (tabOf []) := by
  intro id fn h
  rw [show tabOf [] = N16.rep (N16.rep (N16.rep none)) from rfl, get3_rep] at h
  cases h
theorem tab_cons {l : List (Bid × AFn)} {i : Bid} {f : AFn} (hl : TabOk P E (tabOf l)) (hf : EntOk P E i f) : TabOk P E (tabOf ((i, f) :: l)) := by
  intro id fn h
  have h' : get3 (put3 (tabOf l) i (some f)) id = some fn := h
  by_cases he : id = i
  · subst he
    rw [get3_put3] at h'
    cases h'
    exact hf
  · rw [get3_put3_ne he] at h'
    exact hl id fn h'
theorem enter_run {f : FuncId} {fn : Func} {c : Code} (hf : P.funcs[f]? = some fn) (hname : (fn.name == "runtime.NumGoroutine") = false) (hb : fn.body = some c) (args : Array Value) (w : World) : (callFunc f args).run P w = .ok (.enter f args) w := by
  have h1 : fn.name ≠ "runtime.NumGoroutine" := by simpa using hname
  simp [callFunc, hf, h1, hb]
theorem ent_code {n : FuncId} {id : Bid} {f : Func} {b : ACd} {r : List AR} (hf : P.funcs[n]? = some f) (hid : Nat.beq id.num n = true) (hc : cFn P f = some (.code b r)) (hn : (f.name == "runtime.NumGoroutine") = false) : EntOk P E id (.code b r) := by
  have hid := Nat.eq_of_beq_eq_true hid
  subst hid
  unfold cFn at hc
  cases hb : f.body with
  | none => rw [hb] at hc; cases hc
  | some c =>
    rw [hb] at hc
    dsimp only at hc
    split at hc
    · rename_i b' r' h1 h2
      cases hc
      exact ⟨fun args w => enter_run hf hn hb args w, f, c, hf, hb, h1, h2⟩
    · cases hc
theorem ent_nat {n : FuncId} {id : Bid} {f : Func} {c : Code} {g : List AV → Option AV} (hf : P.funcs[n]? = some f) (hid : Nat.beq id.num n = true) (hb : f.body = some c) (hn : (f.name == "runtime.NumGoroutine") = false)
    (hg : ∀ vs v, g vs = some v → ∀ ρ φ h w us, EnvOk E ρ → Rel ρ φ h w → All2 (VV ρ φ) vs us → Calls P n us.toArray w fun e w' => ∃ u φ', e = .returned u ∧ VV ρ φ' v u ∧ Stp ρ φ h w φ' h w') : EntOk P E id (.nat g) := by
  have hid := Nat.eq_of_beq_eq_true hid
  subst hid
  exact ⟨fun args w => enter_run hf hn hb args w, hg⟩
end
end Go.Proofs.YtjnfgapfhpihmaaGreat
namespace Go.Proofs.YtjnfgapfhpihmaaGreat
def isTrue (r : RO) : Bool := match r with | .ok (.c (.b x)) _ => x | _ => false
theorem isTrue_ok {r : RO} (h : isTrue r = true) : ∃ h', r = .ok (.c (.b true)) h' := by
  unfold isTrue at h
  split at h
  · subst h; exact ⟨_, rfl⟩
  · cases h
def restOf (tab : List (Nat × Nat × Nat)) (y n : Nat) : Option Nat :=
  match tab with
  | [] => none
  | (a, b, c) :: l => bif Nat.beq a y && Nat.beq b n then some c else restOf l y n
def remGen (tab : List (Nat × Nat × Nat)) : Op → List (Option AV) → Option AV
  | .binOp .rem _ _ _ _, [some (.c (.si .i64 (.v y))), some (.c (.i .i64 (.ofNat (n + 1))))] => (restOf tab y (n + 1)).map fun r => .c (.i .i64 (Int.ofNat r))
  | _, _ => none
def byteCv : IntKind → IntKind → Nm → Option AC
  | .i64, .u8, y => some (.si .i64 y)
  | _, _, _ => none
def byteEnv (tab : List (Nat × Nat × Nat)) : Env := ⟨fun _ => True, fun _ _ _ => none, fun _ => none, byteCv, fun _ _ _ => none, fun _ => remGen tab, fun _ => none, fun _ _ => none, fun _ _ _ _ => none, fun _ _ _ => none, fun _ _ _ => none, fun _ _ => none, fun _ _ => false, fun _ => none⟩
theorem restOf_ok {tab : List (Nat × Nat × Nat)} {ρ : Vn} (ht : ∀ x ∈ tab, (ρ.i (.v x.1)).tmod (x.2.1 : Int) = (x.2.2 : Int)) : ∀ {y n r : Nat}, restOf tab y n = some r → (ρ.i (.v y)).tmod (n : Int) = (r : Int) := by
  induction tab with
  | nil => intro y n r h; cases h
  | cons x l ih =>
    intro y n r h
    obtain ⟨a, b, c⟩ := x
    simp only [restOf] at h
    cases hb : (Nat.beq a y && Nat.beq b n) with
    | true =>
      rw [hb] at h
      cases h
      rw [Bool.and_eq_true] at hb
      have h1 := Nat.eq_of_beq_eq_true hb.1
      have h2 := Nat.eq_of_beq_eq_true hb.2
      subst h1; subst h2
      exact ht _ List.mem_cons_self
    | false =>
      rw [hb] at h
      exact ih (fun x hx => ht x (List.mem_cons_of_mem _ hx)) h
theorem rem_run {P : Program} {f : Operand → Value} {t u ty : TypeId} {x y : Operand} {k : IntKind} {a b : Int} (hx : f x = .int k a) (hy : f y = .int k b) (hb : b ≠ 0) (w : World) : (opR f (.binOp .rem t x y u) ty).run P w = .ok (.value (.int k (a.tmod b))) w := by
  simp [opR, execOp, eqGuard, binOp, hx, hy, Op.intDiv, hb]
theorem remGen_ok {tab : List (Nat × Nat × Nat)} {ρ : Vn} (ht : ∀ x ∈ tab, (ρ.i (.v x.1)).tmod (x.2.1 : Int) = (x.2.2 : Int)) {o : Op} {l : List (Option AV)} {v : AV} (h : remGen tab o l = some v) (P : Program) (φ : Emb) (f : Operand → Value) (ty : TypeId) (w : World)
    (hl : All2 (fun (a : Option AV) x => ∀ b, a = some b → VV ρ φ b (f x)) l o.operands.toList) : ∃ u, (opR f o ty).run P w = .ok (.value u) w ∧ VV ρ φ v u := by
  unfold remGen at h
  split at h
  · rename_i t x y u i n
    obtain ⟨r, h1, h2⟩ := map_some h
    subst h2
    have hl' : All2 (fun (a : Option AV) x => ∀ b, a = some b → VV ρ φ b (f x)) [some (.c (.si .i64 (.v i))), some (.c (.i .i64 (.ofNat (n + 1))))] [x, y] := hl
    cases hl' with
    | cons a1 t1 =>
      cases t1 with
      | cons a2 t2 =>
        have e1 : f x = .int .i64 (ρ.i (.v i)) := a1 _ rfl
        have e2 : f y = .int .i64 (Int.ofNat (n + 1)) := a2 _ rfl
        refine ⟨_, rem_run e1 e2 (by simp; omega) w, ?_⟩
        have := restOf_ok ht h1
        show Value.int .i64 ((ρ.i (.v i)).tmod (Int.ofNat (n + 1))) = .int .i64 (Int.ofNat r)
        rw [show Int.ofNat (n + 1) = ((n + 1 : Nat) : Int) from rfl, this]
        rfl
  · cases h
theorem byteCv_ok {ρ : Vn} (hb : ∀ y, 0 ≤ ρ.i y ∧ ρ.i y < 256) {k q : IntKind} {y : Nm} {c : AC} (h : byteCv k q y = some c) (φ : Emb) : VC ρ φ c (.int k (k.wrap (ρ.i y))) := by
  unfold byteCv at h
  split at h
  · cases h
    show Value.int .i64 _ = .int .i64 _
    have := hb y
    rw [IntWalk.i64_in _ (by omega)]
  · cases h
theorem byteEnv_ok {tab : List (Nat × Nat × Nat)} {ρ : Vn} (hb : ∀ y, 0 ≤ ρ.i y ∧ ρ.i y < 256) (ht : ∀ x ∈ tab, (ρ.i (.v x.1)).tmod (x.2.1 : Int) = (x.2.2 : Int)) : EnvOk (byteEnv tab) ρ :=
  ⟨trivial, (fun op u v b h => nomatch h), (fun op u v b h => nomatch h), (fun y c h => nomatch h), fun k q y c h φ => byteCv_ok hb h φ, fun P o l v h φ f ty w hl => remGen_ok ht h P φ f ty w hl, (fun y c e => nomatch e), (fun y c t e => nomatch e), (fun sh y t p c e => nomatch e), (fun y lo hi t e => nomatch e), (fun e y cs t h => nomatch h), (fun y y' t e => nomatch e), (fun t b e => nomatch e), (fun l c e => nomatch e)⟩
end Go.Proofs.YtjnfgapfhpihmaaGreat
namespace Go.Proofs.YtjnfgapfhpihmaaGreat
open Go.RowKit
def hp0 : Hp := ⟨⟨.x0, .x0, .x0⟩, bl0⟩
theorem hp0_get (id : Bid) : hp0.get id = none := by
  show get3 bl0 id = none
  exact get3_rep id none
theorem relZ (ρ : Vn) (w : World) {z : Nat → Option Obj} (hin : ∀ b x, ρ.z b = some x → z b = some x) (hz : ∀ b x, z b = some x → w.heap[b]? = some x) : Rel ρ (Emb.nil z) hp0 w :=
  ⟨⟨fun id c h => (by rw [hp0_get] at h; cases h), fun id l h => (by rw [hp0_get] at h; cases h), fun id d y h => (by rw [hp0_get] at h; cases h), fun id id' x x' h => (by rw [hp0_get] at h; cases h), fun id h => (by rw [hp0_get] at h; cases h), fun _ _ => rfl⟩, ⟨hin, fun b x hb => ⟨hz b x hb, fun id y hi => by rw [hp0_get] at hi; cases hi⟩⟩⟩
theorem rel0 (ρ : Vn) (w : World) (hz : ∀ b x, ρ.z b = some x → w.heap[b]? = some x) : Rel ρ (Emb.nil ρ.z) hp0 w := relZ ρ w (fun _ _ h => h) hz
section
variable {P : Program} {E : Env} {call : CallF} {ρ : Vn}
theorem Stp.old {z : Nat → Option Obj} {φ' : Emb} {h' : Hp} {w w' : World} (T : Stp ρ (Emb.nil z) hp0 w φ' h' w') : Below w.heap.size w w' :=
  ⟨T.os, T.tape, T.output, T.size, fun b hb => T.frame b hb fun id x hi => by rw [hp0_get] at hi; cases hi⟩
theorem law_run (hC : CallOk P E call) (he : EnvOk E ρ) {f : Bid} {args : List AV} {us : List Value} (hrun : isTrue (call f args hp0) = true) (hargs : All2 (VV ρ (Emb.nil ρ.z)) args us) (w : World) (hz : ∀ b x, ρ.z b = some x → w.heap[b]? = some x := by intro b x h; cases h) : Calls P f.num us.toArray w fun e w' => e = .returned (.bool true) ∧ Below w.heap.size w w' := by
  obtain ⟨h', h1⟩ := isTrue_ok hrun
  refine ((hC f args hp0 _ h' h1).2 ρ _ w us he (rel0 ρ w hz) hargs).mono ?_
  rintro e w' ⟨u, φ', rfl, hv, T⟩
  exact ⟨by rw [show u = .bool true from hv], T.old⟩
def isPlain (v : AV) (r : RO) : Bool := match r with | .ok x _ => AV.beq x v | .no => false
theorem isPlain_ok {v : AV} {r : RO} (h : isPlain v r = true) : ∃ h', r = .ok v h' := by
  cases r with
  | no => cases h
  | ok x h' =>
    have hb : AV.beq x v = true := h
    refine ⟨h', ?_⟩
    congr 1
    cases x <;> cases v <;> first | (exact absurd hb Bool.false_ne_true) | (have h2 : decide _ = true := hb; rw [of_decide_eq_true h2])
theorem val_run (hC : CallOk P E call) (he : EnvOk E ρ) {f : Bid} {v : AV} {u : Value} (hrun : isPlain v (call f [] hp0) = true) (hv : v.val = some u) (w : World) (hz : ∀ b x, ρ.z b = some x → w.heap[b]? = some x := by intro b x h; cases h) : Calls P f.num #[] w fun e w' => e = .returned u ∧ Below w.heap.size w w' := by
  obtain ⟨h', h1⟩ := isPlain_ok hrun
  refine ((hC f [] hp0 _ h' h1).2 ρ _ w [] he (rel0 ρ w hz) .nil).mono ?_
  rintro e w' ⟨x, φ', rfl, hx, T⟩
  exact ⟨by rw [AV.val_eq hv hx], T.old⟩
theorem Rel.keep {φ : Emb} {h : Hp} {w w' : World} (r : Rel ρ φ h w) (b : Below w.heap.size w w') : Rel ρ φ h w' :=
  ⟨⟨fun id c hc => (by
    obtain ⟨bl, base, arr, T, h1, h2, h3⟩ := r.cells id c hc
    exact ⟨bl, base, arr, T, h1, by rw [b.block _ (r.block (by rw [hc]; rfl) h1)]; exact h2, h3⟩),
   fun id l hc => (by
    obtain ⟨bl, es, cl, h1, h2, h3⟩ := r.maps id l hc
    exact ⟨bl, es, cl, h1, by rw [b.block _ (r.block (by rw [hc]; rfl) h1)]; exact h2, h3⟩),
   fun id d y hc => (by
    obtain ⟨bl, arr, T, h1, h2, h3⟩ := r.rows id d y hc
    exact ⟨bl, arr, T, h1, by rw [b.block _ (r.block (by rw [hc]; rfl) h1)]; exact h2, h3⟩),
   r.inj, r.low, r.free⟩, ⟨r.frz.zin, fun g x hg => ⟨(b.block g (Array.getElem?_eq_some_iff.1 (r.frz.at_ g x hg).1).1).trans (r.frz.at_ g x hg).1, (r.frz.at_ g x hg).2⟩⟩⟩
theorem Rel.keepS {φ : Emb} {h : Hp} {w w' : World} (r : Rel ρ φ h w) (b : Below w.heap.size w w') : Stp ρ φ h w φ h w' :=
  ⟨.refl _, r.keep b, b.size, fun g hg _ => b.block g hg, fun id x hl hx _ => ⟨id, x, hl, hx, rfl⟩, Nat.le_refl _, fun _ h => .inl h, b.os, b.tape, b.output, fun _ _ h => .inl h⟩
def natTrue : List AV → Option AV
  | [] => some (.c (.b true))
  | _ => none
theorem natTrue_ok {E0 : Env} {ρ0 : Vn} (hC : CallOk P E0 call) (he0 : EnvOk E0 ρ0) {f : Bid} (hrun : isTrue (call f [] hp0) = true) (hz0 : ∀ b, ρ0.z b = none := by intro b; rfl) : EntOk P E f (.nat natTrue) := by
  obtain ⟨h', h1⟩ := isTrue_ok hrun
  refine ⟨(hC f [] hp0 _ h' h1).1, ?_⟩
  intro vs v hv ρ φ h w us he hr hu
  unfold natTrue at hv
  split at hv
  · cases hv
    cases hu
    refine (law_run hC he0 hrun .nil w (fun b x h => by rw [hz0] at h; cases h)).mono ?_
    rintro e w' ⟨rfl, b⟩
    exact ⟨_, φ, rfl, rfl, hr.keepS b⟩
  · cases hv
def rho0 : Vn := ⟨fun _ => 0, fun _ => ⟨#[]⟩, fun _ => false, fun _ => [], fun _ => .bool false, fun _ => none⟩
def env0 : Env := byteEnv []
theorem env0_ok : EnvOk env0 rho0 := byteEnv_ok (fun _ => ⟨Int.le_refl 0, (by decide : (0 : Int) < 256)⟩) (fun x h => nomatch h)
end
end Go.Proofs.YtjnfgapfhpihmaaGreat
