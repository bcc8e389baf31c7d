/-
  A round: what is known of it, and what holds behind it.
-/
import Derived.Test.YtjnfgapfhpihmaaGreatSeF
set_option linter.unusedVariables false
set_option linter.unusedSimpArgs false
section
set_option maxRecDepth 100000
namespace Go.Proofs.YtjnfgapfhpihmaaGreat
open Go.RowKit
theorem insL_mem : ∀ {l : List (Int × Int)} {p m : Int} {x : Int × Int}, x ∈ insL l p m → (x.1 = p ∧ (x.2 = m ∨ ∃ y ∈ l, x.2 = max y.2 m)) ∨ x ∈ l
  | [], p, m, x, h => by
    have h' : x ∈ [(p, m)] := h
    rw [List.mem_singleton] at h'
    subst h'
    exact .inl ⟨rfl, .inl rfl⟩
  | y :: l, p, m, x, h => by
    unfold insL at h
    split at h
    · rcases List.mem_cons.1 h with rfl | h
      · exact .inr List.mem_cons_self
      · rcases insL_mem h with ⟨h1, h2⟩ | h1
        · refine .inl ⟨h1, ?_⟩
          rcases h2 with h2 | ⟨z, hz, h2⟩
          · exact .inl h2
          · exact .inr ⟨z, List.mem_cons_of_mem _ hz, h2⟩
        · exact .inr (List.mem_cons_of_mem _ h1)
    · split at h
      · rcases List.mem_cons.1 h with rfl | h
        · exact .inl ⟨rfl, .inr ⟨y, List.mem_cons_self, rfl⟩⟩
        · exact .inr (List.mem_cons_of_mem _ h)
      · rcases List.mem_cons.1 h with rfl | h
        · exact .inl ⟨rfl, .inl rfl⟩
        · exact .inr h
theorem insL_asc : ∀ {l : List (Int × Int)} {p m : Int}, l.Pairwise (fun x y => x.1 < y.1) → (insL l p m).Pairwise (fun x y => x.1 < y.1)
  | [], p, m, _ => by
    show List.Pairwise _ [(p, m)]
    exact List.pairwise_singleton _ _
  | y :: l, p, m, h => by
    rw [List.pairwise_cons] at h
    unfold insL
    split
    · rename_i hy
      rw [List.pairwise_cons]
      refine ⟨fun x hx => ?_, insL_asc h.2⟩
      rcases insL_mem hx with ⟨h1, _⟩ | h1
      · rw [h1]; exact hy
      · exact h.1 x h1
    · split
      · rename_i hy
        rw [List.pairwise_cons]
        exact ⟨fun x hx => by have := h.1 x hx; simp only; omega, h.2⟩
      · rename_i hy1 hy2
        rw [List.pairwise_cons, List.pairwise_cons]
        refine ⟨fun x hx => ?_, h.1, h.2⟩
        simp only
        rcases List.mem_cons.1 hx with rfl | hx
        · omega
        · have := h.1 x hx; omega
theorem HV.ins {d : List (List DV)} {n p m : Int} (h : HV d n) (p0 : 0 ≤ p) (p1 : p < n) (m0 : 1 ≤ m) (m1 : m ≤ 2) : HV (insD d p m) n := by
  obtain ⟨hn, l, rfl, h2, h3⟩ := h
  refine ⟨hn, insL l p m, by unfold insD; rw [toL_ofL], insL_asc h2, fun x hx => ?_⟩
  rcases insL_mem hx with ⟨h4, h5⟩ | h4
  · rcases h5 with h5 | ⟨y, hy, h5⟩
    · omega
    · have := h3 y hy
      rw [h5]
      omega
  · exact h3 x h4
theorem asc_cnt {ns : List Int} {m : Int} (hp : ns.Pairwise (· < ·)) (hb : ∀ n ∈ ns, 1 ≤ n ∧ n ≤ m) (hm : 0 ≤ m) : (ns.length : Int) ≤ m := by
  have h := asc_len (ns.map fun n => (n, (0 : Int))) 1 (m + 1) (by rw [List.pairwise_map]; exact hp) fun x hx => by
    obtain ⟨y, hy, rfl⟩ := List.mem_map.1 hx
    have := hb y hy
    simp only
    omega
  rw [List.length_map] at h
  omega
theorem Asc.len {d : List (List DV)} {m : Int} (h : Asc d m) (hm : 0 ≤ m) : (d.length : Int) ≤ m := by
  obtain ⟨_, _, ns, rfl, h1, h2⟩ := h
  rw [List.length_map]
  exact asc_cnt h1 h2 hm
theorem Asc.add {d : List (List DV)} {m x : Int} (h : Asc d m) (hm : 0 ≤ m) (hx : m < x) (h4 : x ≤ 4000) : Asc (d ++ [[.i x]]) x := by
  have hl := h.len hm
  obtain ⟨_, _, ns, rfl, h1, h2⟩ := h
  refine ⟨by simp at hl ⊢; omega, h4, ns ++ [x], by simp, ?_, ?_⟩
  · rw [List.pairwise_append]
    refine ⟨h1, List.pairwise_singleton _ _, fun a ha b hb => ?_⟩
    rw [List.mem_singleton] at hb
    subst hb
    have := h2 a ha
    omega
  · intro a ha
    rcases List.mem_append.1 ha with ha | ha
    · have := h2 a ha; omega
    · rw [List.mem_singleton] at ha; omega
theorem JV.add {d : List (List DV)} {row : List DV} (h : JV d) (hl : d.length < 4000) (hr : EnOk d.length row) : JV (d ++ [row]) := by
  refine ⟨by rw [List.length_append]; exact hl, fun i r hi => ?_⟩
  by_cases hlt : i < d.length
  · rw [List.getElem?_append_left hlt] at hi
    exact h.2 i r hi
  · rw [List.getElem?_append_right (by omega)] at hi
    have h0 : i - d.length = 0 := by
      have := (List.getElem?_eq_some_iff.1 hi).1
      simp at this
      omega
    rw [h0] at hi
    cases hi
    rw [show i = d.length by omega]
    exact hr
theorem facts_up {ρ : Vn} {g : Nat → List Fc} : ∀ n, (∀ i, i < n → ∀ f ∈ g i, f.holds QR ρ) → ∀ f ∈ upC g n, f.holds QR ρ
  | 0, _ => facts_nil
  | n + 1, h => facts_app (facts_up n fun i hi => h i (by omega)) (h n (by omega))
theorem lk_app {l m : List (Nat × Nm)} {j : Nat} : lk (l ++ m) j = (match lk l j with | some t => some t | none => lk m j) := by
  induction l with
  | nil => rfl
  | cons x l ih =>
    show (bif Nat.beq x.1 j then some x.2 else lk (l ++ m) j) = (match (bif Nat.beq x.1 j then some x.2 else lk l j) with | some t => some t | none => lk m j)
    cases Nat.beq x.1 j with
    | true => rfl
    | false => exact ih
theorem lk_up_none {f : Nat → Nm} {a j : Nat} : ∀ n, (∀ i, i < n → a + i ≠ j) → lk (upN (fun i => (Nat.add a i, f i)) n) j = none
  | 0, _ => rfl
  | n + 1, h => by
    show lk (upN (fun i => (Nat.add a i, f i)) n ++ [(Nat.add a n, f n)]) j = none
    rw [lk_app, lk_up_none n fun i hi => h i (by omega)]
    show (bif Nat.beq (a + n) j then some (f n) else none) = none
    cases hb : Nat.beq (a + n) j with
    | true => exact absurd (Nat.eq_of_beq_eq_true hb) (h n (by omega))
    | false => rfl
theorem lk_up {f : Nat → Nm} {a i : Nat} : ∀ n, i < n → lk (upN (fun i => (Nat.add a i, f i)) n) (a + i) = some (f i)
  | 0, h => absurd h (Nat.not_lt_zero _)
  | n + 1, h => by
    show lk (upN (fun i => (Nat.add a i, f i)) n ++ [(Nat.add a n, f n)]) (a + i) = some (f i)
    rw [lk_app]
    by_cases hi : i < n
    · rw [lk_up n hi]
    · have : i = n := by omega
      subst this
      rw [lk_up_none i fun j hj => by omega]
      show (bif Nat.beq (a + i) (a + i) then some (f i) else none) = some (f i)
      rw [Nat.beq_refl]; rfl
section
variable {b : Nat → MV} {g : Nm → Value} {z : Nat → Option Obj}
theorem nb_i {r : Rn} {j : Nat} {t : Nm} (h : lk r.i j = some t) : (nb b r j).i = (vb b g z).i t := by
  unfold nb
  simp only [h]
  rfl
theorem nb_s {r : Rn} {j : Nat} {t : Nm} (h : lk r.s j = some t) : (nb b r j).s = (vb b g z).s t := by
  unfold nb
  simp only [h]
  rfl
theorem nb_b {r : Rn} {j : Nat} {t : Nm} (h : lk r.b j = some t) : (nb b r j).b = (vb b g z).b t := by
  unfold nb
  simp only [h]
  rfl
theorem nb_d {r : Rn} {j : Nat} {t : Nm} (h : lk r.d j = some t) : (nb b r j).d = (vb b g z).d t := by
  unfold nb
  simp only [h]
  rfl
end
theorem rowE_val {ρ : Vn} (hs : StdF ρ) (lsn kind tx ptx pp ref pg sl bb bd ab ad : Nm) : ρ.d (rowE lsn kind tx ptx pp ref pg sl bb bd ab ad) = [enR (ρ.i lsn) (ρ.i kind) (ρ.i tx) (ρ.i ptx) (ρ.i pp) (ρ.i ref) (ρ.i pg) (ρ.i sl) (ρ.b bb) (ρ.s bd) (ρ.b ab) (ρ.s ad)] := by
  unfold rowE
  rw [hs.rci, hs.rci, hs.rci, hs.rci, hs.rci, hs.rci, hs.rci, hs.rci, hs.rcb, hs.rcs, hs.rcb, hs.rcs, hs.rcs, show ρ.d (.f1 8 (num 0)) = [[]] from hs.rnil, show ρ.s tNo = ⟨#[]⟩ from by unfold tNo; rw [hs.lit]; rfl]
  rfl
theorem num_i {ρ : Vn} (hs : StdF ρ) (n : Nat) : ρ.i (num n) = (n : Int) := hs.num _
theorem tT_b {ρ : Vn} (hs : StdF ρ) (n : Nat) : ρ.b (tT n) = decide (n ≠ 0) := by
  have := hs.bt (.ofNat n)
  refine (show ρ.b (tT n) = _ from this).trans ?_
  congr 1
  simp
theorem tNo_s {ρ : Vn} (hs : StdF ρ) : ρ.s tNo = ⟨#[]⟩ := by unfold tNo; rw [hs.lit]; rfl
theorem plus_i {ρ : Vn} (hs : StdF ρ) (t : Nm) (k : Nat) : ρ.i (plus t k) = ρ.i t + k := by
  unfold plus
  rw [hs.ex, num_i hs]
structure Inv (n k q : Nat) (b : Nat → MV) : Prop where
  n2 : 2 ≤ n
  n7 : n ≤ 7
  qn : k ≠ 0 → q < n
  k2 : k ≤ 2
  co : BytesD (b 50).d
  at0 : 0 ≤ (b 8).i
  at1 : (b 8).i ≤ (b 50).d.length
  jv : JV (b 0).d
  yl : ((b 0).d.length : Int) + 2 * ((b 50).d.length - (b 8).i) ≤ 400
  l0 : 0 ≤ (b 2).i
  l1 : (b 2).i ≤ (b 0).d.length
  asc : Asc (b 1).d (b 2).i
  d0 : 0 ≤ (b 4).i
  d1 : (b 4).i ≤ (b 0).d.length
  w0 : 0 ≤ (b 6).i
  w1 : (b 6).i + ((b 50).d.length - (b 8).i) ≤ 400
  hv : HV (b 7).d n
  wt : (b 11).d = []
  pg : ∀ i, i < n → PgB (b (110 + i)).s i (b (100 + i)).i (b (120 + i)).b (b (130 + i)).s ∧ (b (100 + i)).i ≤ (b 0).d.length
  dy : k = 2 → 1 ≤ (b 3).i ∧ (b 3).i ≤ (b 0).d.length ∧ 1 ≤ (b 5).i ∧ (b 5).i ≤ (b 3).i ∧ (b 10).s.size = 1 ∧ (b (100 + q)).i ≤ (b 3).i ∧ (b 4).i < (b 3).i
theorem enc_size {id x : Int} {d : ByteArray} (h : d.size = 1) : (encB id x d).size = 256 := by
  obtain ⟨y, hy⟩ := one_list h
  rw [← size_list]
  show (encL id x d.data.toList).length = 256
  rw [hy, encL_eq, encG_len]
theorem PgB.size {v d : ByteArray} {id x : Int} {b : Bool} (h : PgB v id x b d) : v.size = 256 := by
  obtain ⟨_, _, ⟨_, _, _, rfl⟩ | ⟨_, _, _, h4, rfl⟩⟩ := h
  · rfl
  · exact enc_size h4
theorem PgB.cell {v d : ByteArray} {id x : Int} {b : Bool} (h : PgB v id x b d) : PgC x b d ∧ VCell b d ∧ 0 ≤ x ∧ x ≤ 4000 := by
  obtain ⟨_, _, ⟨rfl, rfl, rfl, _⟩ | ⟨h1, h2, rfl, h4, _⟩⟩ := h
  · exact ⟨.inl ⟨by decide, by decide, rfl, rfl⟩, ⟨by decide, fun _ => rfl⟩, by decide, by decide⟩
  · exact ⟨.inr ⟨h1, h2, rfl, h4⟩, ⟨by omega, fun h => (nomatch h)⟩, by omega, h2⟩
structure Rd (c : Cs) (b : Nat → MV) : Prop where
  left : (b 8).i < (b 50).d.length
  p : nxtF (b 50).d (b 8).i c.n = c.p
  kd : nxtF (b 50).d (advF (b 50).d (b 8).i) 2 = c.kd
  pn : c.p < c.n
  k1 : c.kd ≤ 1
  s1 : c.st ≤ 1
  st : c.rd = true → (b (120 + c.p)).b = decide (c.st ≠ 0)
structure Rc (c : Cs) (b : Nat → MV) : Prop where
  pn : c.rd = true → c.p < c.n
  st : c.rd = true → (b (120 + c.p)).b = decide (c.st ≠ 0)
theorem Rd.rc {c : Cs} {b : Nat → MV} (h : Rd c b) : Rc c b := ⟨fun _ => h.pn, h.st⟩
theorem adv_le {d : List (List DV)} {i : Int} (h0 : 0 ≤ i) (h1 : i ≤ d.length) : i ≤ advF d i ∧ advF d i ≤ d.length := by
  unfold advF
  split <;> omega
theorem nxt_rng {d : List (List DV)} (hd : BytesD d) (i : Int) {n : Nat} (hn : 1 ≤ n) : 0 ≤ nxtF d i n ∧ nxtF d i n < n := by
  unfold nxtF
  split
  · rename_i x l hx
    exact ⟨Int.emod_nonneg _ (by omega), Int.emod_lt_of_pos _ (by omega)⟩
  · omega
theorem seq_one {a c : ByteArray} (h : a.size = 1) (h2 : c = ⟨#[]⟩) : (a.toList == c.toList) = false := by
  refine seq_ne fun e => ?_
  subst h2
  have := congrArg List.length e
  rw [size_list, h] at this
  cases this
section
variable {c : Cs} {b : Nat → MV} {g : Nm → Value} {z : Nat → Option Obj}
theorem cb_val (h : Rc c b) (i : Nat) : (vb b g z).b (c.cb i) = (b (120 + i)).b := by
  unfold Cs.cb
  cases hr : (c.rd && Nat.beq i c.p) with
  | false => rfl
  | true =>
    rw [Bool.and_eq_true] at hr
    have hi := Nat.eq_of_beq_eq_true hr.2
    show (vb b g z).b (tT c.st) = _
    rw [tT_b (vb_std b g z), hi, h.st hr.1]
theorem cd_val (h : Rc c b) {n k q : Nat} (hI : Inv n k q b) (hn : c.n = n) (i : Nat) : (vb b g z).s (c.cd i) = (b (130 + i)).s := by
  unfold Cs.cd
  cases hr : (c.rd && (Nat.beq i c.p && Nat.beq c.st 0)) with
  | false => rfl
  | true =>
    rw [Bool.and_eq_true, Bool.and_eq_true] at hr
    have hi := Nat.eq_of_beq_eq_true hr.2.1
    have h0 := Nat.eq_of_beq_eq_true hr.2.2
    show (vb b g z).s tNo = _
    rw [tNo_s (vb_std b g z), hi]
    have hb := h.st hr.1
    rw [h0] at hb
    obtain ⟨⟨_, _, ⟨_, _, h5, _⟩ | ⟨_, _, h5, _⟩⟩, _⟩ := hI.pg c.p (by rw [← hn]; exact h.pn hr.1)
    · exact h5.symm
    · rw [h5] at hb; cases hb
theorem fPage_ok (h : Rc c b) (hI : Inv c.n c.k c.q b) {i : Nat} (hi : i < c.n) : ∀ f ∈ fPage c i, f.holds QR (vb b g z) := by
  have hs := vb_std b g z
  obtain ⟨hp, hx⟩ := hI.pg i hi
  obtain ⟨hpc, hvc, x0, x1⟩ := hp.cell
  have hyl := hI.yl
  have hat := hI.at1
  have hlen : ((b 0).d.length : Int) ≤ 400 := by omega
  have tail : ∀ f ∈ [Fc.dif (nX i) lY (-400) 0, .rng (.f1 6 (nV i)) 256 256, .pr 10 [nV i, num i, nX i, c.cb i, c.cd i], .pr 2 [c.cb i, c.cd i], .pr 13 [nX i, c.cb i, c.cd i]], f.holds QR (vb b g z) := by
    refine facts_cons (f := .dif (nX i) lY (-400) 0) (show (-400 : Int) ≤ (b (100 + i)).i - (((b 0).d.length : Nat) : Int) ∧ (b (100 + i)).i - (((b 0).d.length : Nat) : Int) ≤ 0 by omega) ?_
    refine facts_cons (f := .rng (.f1 6 (nV i)) 256 256) (show (256 : Int) ≤ (((b (110 + i)).s.size : Nat) : Int) ∧ (((b (110 + i)).s.size : Nat) : Int) ≤ 256 by rw [hp.size]; exact ⟨Int.le_refl _, Int.le_refl _⟩) ?_
    refine facts_cons (f := .pr 10 [nV i, num i, nX i, c.cb i, c.cd i]) (show PgB (b (110 + i)).s ((vb b g z).i (num i)) (b (100 + i)).i ((vb b g z).b (c.cb i)) ((vb b g z).s (c.cd i)) from ?_) ?_
    · rw [num_i hs, cb_val h, cd_val h hI rfl]; exact hp
    refine facts_cons (f := .pr 2 [c.cb i, c.cd i]) (show VCell ((vb b g z).b (c.cb i)) ((vb b g z).s (c.cd i)) from ?_) ?_
    · rw [cb_val h, cd_val h hI rfl]; exact hvc
    refine facts_cons (f := .pr 13 [nX i, c.cb i, c.cd i]) (show PgC (b (100 + i)).i ((vb b g z).b (c.cb i)) ((vb b g z).s (c.cd i)) from ?_) facts_nil
    rw [cb_val h, cd_val h hI rfl]; exact hpc
  unfold fPage
  refine facts_app ?_ tail
  cases hr : (c.rd && (Nat.beq i c.p && Nat.beq c.st 1)) with
  | false => exact facts_cons (f := .rng (nX i) 0 400) (show (0 : Int) ≤ (b (100 + i)).i ∧ (b (100 + i)).i ≤ 400 by omega) facts_nil
  | true =>
    rw [Bool.and_eq_true, Bool.and_eq_true] at hr
    have hip := Nat.eq_of_beq_eq_true hr.2.1
    have h1 := Nat.eq_of_beq_eq_true hr.2.2
    have hb := h.st hr.1
    rw [h1, ← hip] at hb
    have hset : 1 ≤ (b (100 + i)).i ∧ (b (130 + i)).s.size = 1 := by
      obtain ⟨_, _, ⟨_, h5, _⟩ | ⟨h5, _, _, h6, _⟩⟩ := hp
      · rw [h5] at hb; cases hb
      · exact ⟨h5, h6⟩
    refine facts_cons (f := .rng (nX i) 1 400) (show (1 : Int) ≤ (b (100 + i)).i ∧ (b (100 + i)).i ≤ 400 by omega) (facts_cons (f := .seq (nD i) tNo false) (seq_one hset.2 (tNo_s hs)) (facts_cons (f := .rng (.f1 6 (nD i)) 1 1) (show (1 : Int) ≤ (((b (130 + i)).s.size : Nat) : Int) ∧ (((b (130 + i)).s.size : Nat) : Int) ≤ 1 by rw [hset.2]; exact ⟨Int.le_refl _, Int.le_refl _⟩) facts_nil))
theorem fHead_ok (h : Rc c b) (hI : Inv c.n c.k c.q b) : ∀ f ∈ fHead c, f.holds QR (vb b g z) := by
  have hs := vb_std b g z
  have hyl := hI.yl
  have hat := hI.at1
  have hat0 := hI.at0
  have hl0 := hI.l0
  have hl1 := hI.l1
  have hql := hI.asc.len hI.l0
  have hd0 := hI.d0
  have hd1 := hI.d1
  have hw0 := hI.w0
  have hw1 := hI.w1
  have hco := hI.co.1
  obtain ⟨l, hl, _, _, hbd, _⟩ := hI.hv.list
  have hhl : (((b 7).d.length : Nat) : Int) ≤ c.n := by
    obtain ⟨hn, l, h1, h2, h3⟩ := hI.hv
    have h4 := asc_len l 0 c.n h2 fun x hx => ⟨(h3 x hx).1, (h3 x hx).2.1⟩
    rw [h1, ofL_len]
    omega
  unfold fHead
  refine facts_app ?_ (facts_app (facts_up c.n fun i hi => fPage_ok h hI hi) ?_)
  · refine facts_cons (f := .rng lY 0 400) (show (0 : Int) ≤ (((b 0).d.length : Nat) : Int) ∧ (((b 0).d.length : Nat) : Int) ≤ 400 by omega) ?_
    refine facts_cons (f := .rng (.v 2) 0 400) (show (0 : Int) ≤ (b 2).i ∧ (b 2).i ≤ 400 by omega) ?_
    refine facts_cons (f := .rng (.f1 5 (.v 1)) 0 400) (show (0 : Int) ≤ (((b 1).d.length : Nat) : Int) ∧ (((b 1).d.length : Nat) : Int) ≤ 400 by omega) ?_
    refine facts_cons (f := .dif (.v 2) lY (-400) 0) (show (-400 : Int) ≤ (b 2).i - (((b 0).d.length : Nat) : Int) ∧ (b 2).i - (((b 0).d.length : Nat) : Int) ≤ 0 by omega) ?_
    refine facts_cons (f := .dif (.f1 5 (.v 1)) lY (-400) 0) (show (-400 : Int) ≤ (((b 1).d.length : Nat) : Int) - (((b 0).d.length : Nat) : Int) ∧ (((b 1).d.length : Nat) : Int) - (((b 0).d.length : Nat) : Int) ≤ 0 by omega) ?_
    refine facts_cons (f := .rng (.v 4) 0 400) (show (0 : Int) ≤ (b 4).i ∧ (b 4).i ≤ 400 by omega) ?_
    refine facts_cons (f := .dif (.v 4) lY (-400) 0) (show (-400 : Int) ≤ (b 4).i - (((b 0).d.length : Nat) : Int) ∧ (b 4).i - (((b 0).d.length : Nat) : Int) ≤ 0 by omega) ?_
    refine facts_cons (f := .rng (.v 6) 0 400) (show (0 : Int) ≤ (b 6).i ∧ (b 6).i ≤ 400 by omega) ?_
    refine facts_cons (f := .rng (.f1 5 (.v 11)) 0 0) (show (0 : Int) ≤ (((b 11).d.length : Nat) : Int) ∧ (((b 11).d.length : Nat) : Int) ≤ 0 by rw [hI.wt]; exact ⟨Int.le_refl _, Int.le_refl _⟩) ?_
    refine facts_cons (f := .rng (.f1 5 (.v 7)) 0 (.ofNat c.n)) (show (0 : Int) ≤ (((b 7).d.length : Nat) : Int) ∧ (((b 7).d.length : Nat) : Int) ≤ ((c.n : Nat) : Int) by omega) ?_
    refine facts_cons (f := .pr 1 [.v 0]) hI.jv ?_
    refine facts_cons (f := .pr 3 [.v 1, .v 2]) hI.asc ?_
    refine facts_cons (f := .pr 11 [.v 7, num c.n]) (show HV (b 7).d ((vb b g z).i (num c.n)) by rw [num_i hs]; exact hI.hv) ?_
    refine facts_cons (f := .pr 12 [.v 50]) hI.co ?_
    refine facts_cons (f := .rng (.v 8) 0 200) (show (0 : Int) ≤ (b 8).i ∧ (b 8).i ≤ 200 by omega) ?_
    exact facts_cons (f := .rng (.f1 5 (.v 50)) 0 200) (show (0 : Int) ≤ (((b 50).d.length : Nat) : Int) ∧ (((b 50).d.length : Nat) : Int) ≤ 200 by omega) facts_nil
  · cases hk : Nat.beq c.k 2 with
    | false => exact facts_nil
    | true =>
      have h2 := Nat.eq_of_beq_eq_true hk
      obtain ⟨f1, f2, f3, f4, f5, f6, f7⟩ := hI.dy h2
      have hqn := hI.qn (by omega)
      obtain ⟨x0, x1⟩ := (hI.pg c.q hqn).1.cell.2.2
      show ∀ f ∈ fDirty c, f.holds QR (vb b g z)
      unfold fDirty
      refine facts_cons (f := .rng (.v 3) 1 400) (show (1 : Int) ≤ (b 3).i ∧ (b 3).i ≤ 400 by omega) ?_
      refine facts_cons (f := .dif (.v 3) lY (-400) 0) (show (-400 : Int) ≤ (b 3).i - (((b 0).d.length : Nat) : Int) ∧ (b 3).i - (((b 0).d.length : Nat) : Int) ≤ 0 by omega) ?_
      refine facts_cons (f := .rng (.v 5) 1 400) (show (1 : Int) ≤ (b 5).i ∧ (b 5).i ≤ 400 by omega) ?_
      refine facts_cons (f := .dif (.v 5) (.v 3) (-400) 0) (show (-400 : Int) ≤ (b 5).i - (b 3).i ∧ (b 5).i - (b 3).i ≤ 0 by omega) ?_
      refine facts_cons (f := .rng (.f1 6 (.v 10)) 1 1) (show (1 : Int) ≤ (((b 10).s.size : Nat) : Int) ∧ (((b 10).s.size : Nat) : Int) ≤ 1 by rw [f5]; exact ⟨Int.le_refl _, Int.le_refl _⟩) ?_
      refine facts_cons (f := .seq (.v 10) tNo false) (seq_one f5 (tNo_s hs)) ?_
      refine facts_cons (f := .dif (nX c.q) (.v 3) (-400) 0) (show (-400 : Int) ≤ (b (100 + c.q)).i - (b 3).i ∧ (b (100 + c.q)).i - (b 3).i ≤ 0 by omega) ?_
      refine facts_cons (f := .dif (.v 4) (.v 3) (-400) (-1)) (show (-400 : Int) ≤ (b 4).i - (b 3).i ∧ (b 4).i - (b 3).i ≤ -1 by omega) ?_
      refine facts_cons (f := .rng (.f1 6 c.enc) 256 256) (show (256 : Int) ≤ ((((vb b g z).s c.enc).size : Nat) : Int) ∧ ((((vb b g z).s c.enc).size : Nat) : Int) ≤ 256 from ?_) facts_nil
      have he : (vb b g z).s c.enc = encB (((vb b g z).i (num c.q)).toNat : Nat) (b 3).i (b 10).s := (vb_pp b g z).enc (.v 3) (num c.q) (.v 10)
      rw [he, enc_size f5]
      exact ⟨Int.le_refl _, Int.le_refl _⟩
end
end Go.Proofs.YtjnfgapfhpihmaaGreat
end
section
set_option maxRecDepth 100000
namespace Go.Proofs.YtjnfgapfhpihmaaGreat
open Go.RowKit
theorem beq_no {a b : Nat} (h : a ≠ b) : Nat.beq a b = false := by
  cases hb : Nat.beq a b with
  | true => exact absurd (Nat.eq_of_beq_eq_true hb) h
  | false => rfl
section
variable {c : Cs} {b : Nat → MV} {g : Nm → Value} {z : Nat → Option Obj}
theorem rT_hv (h : Rd c b) (hI : Inv c.n c.k c.q b) {t : Nm} (ht : HV ((vb b g z).d t) c.n) : HV ((vb b g z).d (c.rT t)) c.n := by
  have hs := vb_std b g z
  have e : (vb b g z).d (c.rT t) = insD ((vb b g z).d t) ((vb b g z).i (num c.p)) (((vb b g z).i (num (bif c.wr then 2 else 1))).toNat : Nat) := (vb_pp b g z).ins t _ _
  rw [e, num_i hs, num_i hs]
  have hp := h.pn
  cases c.wr with
  | true => exact ht.ins (by omega) (by omega) (by decide) (by decide)
  | false => exact ht.ins (by omega) (by omega) (by decide) (by decide)
theorem ev_k (he : c.ev = true) : c.k = 2 ∧ c.q ≠ c.p := by
  unfold Cs.ev at he
  rw [Bool.and_eq_true] at he
  refine ⟨Nat.eq_of_beq_eq_true he.1, fun e => ?_⟩
  have := he.2
  rw [e, Nat.beq_refl] at this
  cases this
theorem own_k (he : c.own = true) : c.k = 2 ∧ c.q = c.p := by
  unfold Cs.own at he
  rw [Bool.and_eq_true] at he
  exact ⟨Nat.eq_of_beq_eq_true he.1, Nat.eq_of_beq_eq_true he.2⟩
theorem yT_ok (hI : Inv c.n c.k c.q b) : JV ((vb b g z).d c.yT) ∧ (((vb b g z).d c.yT).length : Int) = (b 0).d.length + (if c.ev = true then 1 else 0) := by
  have hs := vb_std b g z
  unfold Cs.yT
  cases he : c.ev with
  | false => exact ⟨hI.jv, by simp; rfl⟩
  | true =>
    obtain ⟨hk, hqp⟩ := ev_k he
    obtain ⟨f1, f2, f3, f4, f5, f6, f7⟩ := hI.dy hk
    have hq := hI.qn (by omega)
    have hn := hI.n7
    have hyl := hI.yl
    have hat := hI.at1
    have e : (vb b g z).d (.f2 1403 (.v 0) (rowE (plus lY 1) (num 7) (num 0) (num 0) (num 0) (.v 3) (num c.q) (num 0) (tT 0) tNo (tT 0) tNo)) = (b 0).d ++ [enR ((b 0).d.length + 1) 7 0 0 0 (b 3).i c.q 0 false ⟨#[]⟩ false ⟨#[]⟩] := by
      rw [hs.cat, rowE_val hs, plus_i hs, num_i hs, num_i hs, num_i hs, tT_b hs, tNo_s hs]
      rfl
    simp only [cond_true, if_true]
    rw [e]
    refine ⟨hI.jv.add (by omega) ⟨7, 0, 0, 0, (b 3).i, c.q, 0, false, ⟨#[]⟩, false, ⟨#[]⟩, rfl, by omega, by omega, by omega, by omega, by omega, by omega, .inr ⟨rfl, rfl, rfl, rfl, by omega, by omega, rfl, rfl, rfl, rfl, rfl, rfl⟩⟩, by simp⟩
theorem at2_ok (h : Rd c b) (hI : Inv c.n c.k c.q b) : (vb b g z).i aT1 = advF (b 50).d (b 8).i ∧ (vb b g z).i aT2 = advF (b 50).d (advF (b 50).d (b 8).i) ∧ (vb b g z).i aT3 = advF (b 50).d (advF (b 50).d (advF (b 50).d (b 8).i)) := by
  have e1 : (vb b g z).i aT1 = advF (b 50).d (b 8).i := (vb_pp b g z).adv (.v 50) (.v 8)
  have e2 : (vb b g z).i aT2 = advF (b 50).d ((vb b g z).i aT1) := (vb_pp b g z).adv (.v 50) aT1
  have e3 : (vb b g z).i aT3 = advF (b 50).d ((vb b g z).i aT2) := (vb_pp b g z).adv (.v 50) aT2
  rw [e1] at e2
  rw [e2] at e3
  exact ⟨e1, e2, e3⟩
theorem nxT_ok (a : Nm) (n : Nat) : (vb b g z).i (nxT a n) = nxtF (b 50).d ((vb b g z).i a) n := (vb_pp b g z).nx (.v 50) a (.ofNat n)
theorem dtT_size : ((vb b g z).s dtT).size = 1 := by
  have : (vb b g z).s dtT = strOfNums [(vb b g z).i (plus chT 97)] := (vb_std b g z).byt _
  rw [this]
  rfl
theorem fRound_ok (h : Rd c b) (hI : Inv c.n c.k c.q b) : ∀ f ∈ fRound c, f.holds QR (vb b g z) := by
  have hs := vb_std b g z
  have hat := hI.at1
  have hat0 := hI.at0
  have hco := hI.co.1
  have hlt := h.left
  obtain ⟨a1, a2, a3⟩ := at2_ok (g := g) (z := z) h hI
  obtain ⟨r1, r2⟩ := adv_le hat0 hat
  obtain ⟨r3, r4⟩ := adv_le (d := (b 50).d) (i := advF (b 50).d (b 8).i) (by omega) r2
  unfold fRound
  refine facts_app ?_ ?_
  · refine facts_cons (f := .rng (.f2 1 (.f1 5 (.v 50)) (.v 8)) 1 200) (show (1 : Int) ≤ (vb b g z).i (.f2 1 (.f1 5 (.v 50)) (.v 8)) ∧ (vb b g z).i (.f2 1 (.f1 5 (.v 50)) (.v 8)) ≤ 200 from ?_) ?_
    · rw [hs.sub, IntKind.wrap_i64]
      show (1 : Int) ≤ ((((b 50).d.length : Nat) : Int) - (b 8).i + 9223372036854775808) % 18446744073709551616 - 9223372036854775808 ∧ _
      have e : (vb b g z).i (.f1 5 (.v 50)) = (((b 50).d.length : Nat) : Int) := rfl
      have e2 : (vb b g z).i (.v 8) = (b 8).i := rfl
      rw [e, e2]
      omega
    refine facts_cons (f := .rng aT1 0 200) (show (0 : Int) ≤ (vb b g z).i aT1 ∧ (vb b g z).i aT1 ≤ 200 by rw [a1]; omega) ?_
    refine facts_cons (f := .rng aT2 0 200) (show (0 : Int) ≤ (vb b g z).i aT2 ∧ (vb b g z).i aT2 ≤ 200 by rw [a2]; omega) ?_
    refine facts_cons (f := .rng (nxT (.v 8) c.n) (.ofNat c.p) (.ofNat c.p)) (show ((c.p : Nat) : Int) ≤ (vb b g z).i (nxT (.v 8) c.n) ∧ (vb b g z).i (nxT (.v 8) c.n) ≤ ((c.p : Nat) : Int) from ?_) ?_
    · rw [nxT_ok, show (vb b g z).i (.v 8) = (b 8).i from rfl, h.p]; exact ⟨Int.le_refl _, Int.le_refl _⟩
    refine facts_cons (f := .rng (nxT aT1 2) (.ofNat c.kd) (.ofNat c.kd)) (show ((c.kd : Nat) : Int) ≤ (vb b g z).i (nxT aT1 2) ∧ (vb b g z).i (nxT aT1 2) ≤ ((c.kd : Nat) : Int) from ?_) ?_
    · rw [nxT_ok, a1, h.kd]; exact ⟨Int.le_refl _, Int.le_refl _⟩
    have hv1 := rT_hv (g := g) (z := z) h hI (t := .v 7) hI.hv
    refine facts_cons (f := .pr 11 [c.rT (.v 7), num c.n]) (show HV ((vb b g z).d (c.rT (.v 7))) ((vb b g z).i (num c.n)) by rw [num_i hs]; exact hv1) ?_
    refine facts_cons (f := .pr 11 [c.rT (c.rT (.v 7)), num c.n]) (show HV ((vb b g z).d (c.rT (c.rT (.v 7)))) ((vb b g z).i (num c.n)) by rw [num_i hs]; exact rT_hv h hI hv1) ?_
    exact facts_cons (f := .pr 1 [c.yT]) (yT_ok (g := g) (z := z) hI).1 facts_nil
  · cases hw : c.wr with
    | false => exact facts_nil
    | true =>
      obtain ⟨s0, s1⟩ := nxt_rng hI.co (advF (b 50).d (advF (b 50).d (b 8).i)) (n := 26) (by decide)
      refine facts_cons (f := .rng chT 0 25) (show (0 : Int) ≤ (vb b g z).i chT ∧ (vb b g z).i chT ≤ 25 from ?_) (facts_cons (f := .rng (.f1 6 dtT) 1 1) (show (1 : Int) ≤ ((((vb b g z).s dtT).size : Nat) : Int) ∧ ((((vb b g z).s dtT).size : Nat) : Int) ≤ 1 by rw [dtT_size]; exact ⟨Int.le_refl _, Int.le_refl _⟩) facts_nil)
      unfold chT
      rw [nxT_ok, a2]
      omega
theorem facts_ok (h : Rd c b) (hI : Inv c.n c.k c.q b) : ∀ f ∈ facts c, f.holds QR (vb b g z) := facts_app (fHead_ok h.rc hI) (fRound_ok h hI)
theorem new_i (b : Nat → MV) (g : Nm → Value) (z : Nat → Option Obj) (c : Cs) : (nb b (rn c) 2).i = (vb b g z).i (bif c.wr then c.nw else .v 2) ∧ (nb b (rn c) 3).i = (vb b g z).i (bif c.wr then c.nw else .v 3) ∧ (nb b (rn c) 4).i = (vb b g z).i (bif c.ev then .v 3 else .v 4) ∧ (nb b (rn c) 5).i = (vb b g z).i (bif c.wr && !c.own then c.nw else .v 5) ∧ (nb b (rn c) 6).i = (vb b g z).i (bif c.ev then plus (.v 6) 1 else .v 6) ∧ (nb b (rn c) 8).i = (vb b g z).i (bif c.wr then aT3 else aT2) :=
  ⟨nb_i rfl, nb_i rfl, nb_i rfl, nb_i rfl, nb_i rfl, nb_i rfl⟩
theorem new_x {i : Nat} (hi : i < c.n) : (nb b (rn c) (100 + i)).i = (vb b g z).i (bif c.vq i then .v 3 else nX i) := by
  refine nb_i ?_
  show lk ([(2, _), (3, _), (4, _), (5, _), (6, _), (8, _)] ++ upN (fun i => (Nat.add 100 i, bif c.vq i then Nm.v 3 else nX i)) c.n) (100 + i) = _
  rw [lk_app]
  have e : ∀ {t1 t2 t3 t4 t5 t6 : Nm}, lk [(2, t1), (3, t2), (4, t3), (5, t4), (6, t5), (8, t6)] (100 + i) = none := by
    intro t1 t2 t3 t4 t5 t6
    simp only [lk, cond_false, beq_no (show (2 : Nat) ≠ 100 + i by omega), beq_no (show (3 : Nat) ≠ 100 + i by omega), beq_no (show (4 : Nat) ≠ 100 + i by omega), beq_no (show (5 : Nat) ≠ 100 + i by omega), beq_no (show (6 : Nat) ≠ 100 + i by omega), beq_no (show (8 : Nat) ≠ 100 + i by omega)]
  rw [e]
  exact lk_up c.n hi
theorem new_v {i : Nat} (hi : i < c.n) (hn : c.n ≤ 7) : (nb b (rn c) (110 + i)).s = (vb b g z).s (bif c.vq i then c.enc else nV i) ∧ (nb b (rn c) (130 + i)).s = (vb b g z).s (bif c.vq i then .v 10 else c.cd i) := by
  have hl : ∀ j, 100 < j → lk (rn c).s j = lk (upN (fun i => (Nat.add 110 i, bif c.vq i then c.enc else nV i)) c.n ++ upN (fun i => (Nat.add 130 i, bif c.vq i then Nm.v 10 else c.cd i)) c.n) j := fun j hj => by
    show lk ((10, _) :: (upN _ c.n ++ upN _ c.n)) j = _
    show (bif Nat.beq 10 j then _ else _) = _
    rw [beq_no (show 10 ≠ j by omega)]
    rfl
  refine ⟨nb_s ?_, nb_s ?_⟩
  · rw [hl _ (by omega), lk_app, lk_up c.n hi]
  · rw [hl _ (by omega), lk_app, lk_up_none c.n fun j hj => by omega]
    exact lk_up c.n hi
theorem new_c {i : Nat} (hi : i < c.n) : (nb b (rn c) (120 + i)).b = (vb b g z).b (bif c.vq i then tT 1 else c.cb i) := nb_b (lk_up c.n hi)
theorem new_d (b : Nat → MV) (g : Nm → Value) (z : Nat → Option Obj) (c : Cs) : (nb b (rn c) 0).d = (vb b g z).d c.yU ∧ (nb b (rn c) 1).d = (vb b g z).d (bif c.wr then .f2 1403 (.v 1) (.f2 1410 c.nw (.f1 8 (num 0))) else .v 1) ∧ (nb b (rn c) 7).d = (vb b g z).d c.hT ∧ (nb b (rn c) 11).d = (vb b g z).d nmNil ∧ (nb b (rn c) 50).d = (b 50).d :=
  ⟨nb_d rfl, nb_d rfl, nb_d rfl, nb_d rfl, (nb_d (g := g) (z := z) rfl).trans rfl⟩
theorem nw_val (hI : Inv c.n c.k c.q b) : (vb b g z).i c.nw = (((vb b g z).d c.yT).length : Int) + 1 := by
  unfold Cs.nw
  rw [plus_i (vb_std b g z), (yT_ok hI).2]
  show (((b 0).d.length : Nat) : Int) + _ = _
  unfold Cs.kN
  cases c.ev with
  | true => simp only [cond_true, if_true]; omega
  | false => simp
theorem yU_ok (h : Rd c b) (hI : Inv c.n c.k c.q b) : JV ((vb b g z).d c.yU) ∧ (((vb b g z).d c.yU).length : Int) = ((vb b g z).d c.yT).length + (if c.wr = true then 1 else 0) := by
  have hs := vb_std b g z
  obtain ⟨j1, j2⟩ := yT_ok (g := g) (z := z) hI
  unfold Cs.yU
  cases hw : c.wr with
  | false => exact ⟨j1, by simp⟩
  | true =>
    have hp := h.pn
    have hn := hI.n7
    have hyl := hI.yl
    have hat := hI.at1
    have hlt := h.left
    have hl0 := hI.l0
    have hl1 := hI.l1
    have hev : ((if c.ev = true then 1 else 0 : Int)) ≤ 1 ∧ 0 ≤ ((if c.ev = true then 1 else 0 : Int)) := by split <;> omega
    obtain ⟨hpg, hpx⟩ := hI.pg c.p hp
    obtain ⟨_, hvc, x0, _⟩ := hpg.cell
    obtain ⟨pp, bb, bd, e1, e2, e3, p0, p1, hbc⟩ : ∃ pp bb bd, (vb b g z).i (bif c.own then .v 3 else nX c.p) = pp ∧ (vb b g z).b (bif c.own then tT 1 else nC c.p) = bb ∧ (vb b g z).s (bif c.own then .v 10 else nD c.p) = bd ∧ 0 ≤ pp ∧ pp ≤ ((b 0).d.length : Int) ∧ VCell bb bd := by
      cases ho : c.own with
      | false => exact ⟨_, _, _, rfl, rfl, rfl, x0, hpx, hvc⟩
      | true =>
        obtain ⟨f1, f2, f3, f4, f5, f6, f7⟩ := hI.dy (own_k ho).1
        refine ⟨(b 3).i, true, (b 10).s, rfl, ?_, rfl, by omega, f2, ⟨by omega, fun h => (nomatch h)⟩⟩
        show (vb b g z).b (tT 1) = true
        rw [tT_b hs]; rfl
    have e : (vb b g z).d (.f2 1403 c.yT (rowE c.nw (num 1) (num 1) (.v 2) (bif c.own then .v 3 else nX c.p) (num 0) (num c.p) (num 7) (bif c.own then tT 1 else nC c.p) (bif c.own then .v 10 else nD c.p) (tT 1) dtT)) = (vb b g z).d c.yT ++ [enR (((vb b g z).d c.yT).length + 1) 1 1 (b 2).i pp 0 c.p 7 bb bd true ((vb b g z).s dtT)] := by
      rw [hs.cat, rowE_val hs, e1, e2, e3, nw_val hI, num_i hs, num_i hs, num_i hs, num_i hs, tT_b hs]
      rfl
    simp only [cond_true, if_true]
    rw [e]
    refine ⟨j1.add (by omega) ⟨1, 1, (b 2).i, pp, 0, c.p, 7, bb, bd, true, (vb b g z).s dtT, rfl, by omega, by omega, by omega, by omega, by omega, by omega, .inl ⟨rfl, rfl, rfl, by omega, by omega, by omega, by omega, hbc, ⟨by rw [dtT_size]; decide, fun h => (nomatch h)⟩⟩⟩, by simp⟩
def Cs.k' (c : Cs) : Nat := bif c.wr then 2 else bif c.own then 2 else 1
theorem wr_own_ev (c : Cs) : (c.own = true → c.ev = false) := fun h => by
  cases he : c.ev with
  | false => rfl
  | true => exact absurd (own_k h).2 (ev_k he).2
theorem inv_next (g : Nm → Value) (z : Nat → Option Obj) (h : Rd c b) (hI : Inv c.n c.k c.q b) : Inv c.n c.k' c.p (nb b (rn c)) ∧ (((b 50).d.length : Int) - (nb b (rn c) 8).i).toNat < (((b 50).d.length : Int) - (b 8).i).toNat := by
  have hs := vb_std b g z
  obtain ⟨i2, i3, i4, i5, i6, i8⟩ := new_i b g z c
  obtain ⟨d0, d1, d7, d11, d50⟩ := new_d b g z c
  obtain ⟨j1, j2⟩ := yT_ok (g := g) (z := z) hI
  obtain ⟨u1, u2⟩ := yU_ok (g := g) (z := z) h hI
  have hnw := nw_val (g := g) (z := z) hI
  obtain ⟨a1, a2, a3⟩ := at2_ok (g := g) (z := z) h hI
  have hat := hI.at1
  have hat0 := hI.at0
  have hco := hI.co.1
  have hlt := h.left
  have hyl := hI.yl
  have hl0 := hI.l0
  have hl1 := hI.l1
  have hd0 := hI.d0
  have hd1 := hI.d1
  have hw0 := hI.w0
  have hw1 := hI.w1
  have hp := h.pn
  have hn := hI.n7
  have s1 : advF (b 50).d (b 8).i = (b 8).i + 1 := by unfold advF; rw [if_pos hlt]
  obtain ⟨r3, r4⟩ := adv_le (d := (b 50).d) (i := advF (b 50).d (b 8).i) (by omega) (by omega)
  obtain ⟨r5, r6⟩ := adv_le (d := (b 50).d) (i := advF (b 50).d (advF (b 50).d (b 8).i)) (by omega) r4
  have hat' : (b 8).i + 1 ≤ (nb b (rn c) 8).i ∧ (nb b (rn c) 8).i ≤ (b 50).d.length := by
    rw [i8]
    cases c.wr with
    | true => show _ ≤ (vb b g z).i aT3 ∧ (vb b g z).i aT3 ≤ _; rw [a3]; omega
    | false => show _ ≤ (vb b g z).i aT2 ∧ (vb b g z).i aT2 ≤ _; rw [a2]; omega
  have hY : ((nb b (rn c) 0).d.length : Int) = (b 0).d.length + (if c.ev = true then 1 else 0) + (if c.wr = true then 1 else 0) := by rw [d0, u2, j2]
  have hb1 : 0 ≤ (if c.ev = true then 1 else 0 : Int) ∧ (if c.ev = true then 1 else 0 : Int) ≤ 1 := by split <;> omega
  have hb2 : 0 ≤ (if c.wr = true then 1 else 0 : Int) ∧ (if c.wr = true then 1 else 0 : Int) ≤ 1 := by split <;> omega
  refine ⟨⟨hI.n2, hI.n7, fun _ => hp, ?_, by rw [d50]; exact hI.co, by omega, by rw [d50]; omega, by rw [d0]; exact u1, by rw [hY, d50]; omega, ?_, ?_, ?_, ?_, ?_, ?_, ?_, ?_, by rw [d11]; exact hs.nil, ?_, ?_⟩, by omega⟩
  · unfold Cs.k'
    cases c.wr <;> cases c.own <;> decide
  · rw [i2]
    cases hw : c.wr with
    | true => show 0 ≤ (vb b g z).i c.nw; rw [hnw]; omega
    | false => exact hl0
  · rw [i2, hY]
    cases hw : c.wr with
    | true =>
      show (vb b g z).i c.nw ≤ _
      rw [hnw, j2]
      simp only [if_true]
      omega
    | false =>
      show (b 2).i ≤ _
      rw [hw] at hb2
      omega
  · rw [d1, i2]
    cases hw : c.wr with
    | true =>
      have e : (vb b g z).d (.f2 1403 (.v 1) (.f2 1410 c.nw (.f1 8 (num 0)))) = (b 1).d ++ [[.i ((vb b g z).i c.nw)]] := by
        rw [hs.cat, hs.rci, show (vb b g z).d (.f1 8 (num 0)) = [[]] from hs.rnil]
        rfl
      simp only [cond_true]
      rw [e]
      exact hI.asc.add hl0 (by rw [hnw]; omega) (by rw [hnw]; omega)
    | false => exact hI.asc
  · rw [i4]
    cases he : c.ev with
    | true =>
      obtain ⟨f1, f2, _⟩ := hI.dy (ev_k he).1
      show 0 ≤ (b 3).i
      omega
    | false => exact hd0
  · rw [i4, hY]
    cases he : c.ev with
    | true =>
      obtain ⟨f1, f2, _⟩ := hI.dy (ev_k he).1
      show (b 3).i ≤ _
      rw [he] at hb1
      omega
    | false =>
      show (b 4).i ≤ _
      rw [he] at hb1
      omega
  · rw [i6]
    cases he : c.ev with
    | true => show 0 ≤ (vb b g z).i (plus (.v 6) 1); rw [plus_i hs]; show 0 ≤ (b 6).i + _; omega
    | false => exact hw0
  · rw [i6, d50]
    cases he : c.ev with
    | true =>
      show (vb b g z).i (plus (.v 6) 1) + _ ≤ 400
      rw [plus_i hs]
      show (b 6).i + ((1 : Nat) : Int) + _ ≤ 400
      omega
    | false => show (b 6).i + _ ≤ 400; omega
  · rw [d7]
    unfold Cs.hT
    have hv1 := rT_hv (g := g) (z := z) h hI (t := .v 7) hI.hv
    cases c.same with
    | true => exact hv1
    | false => exact rT_hv h hI hv1
  · intro i hi
    obtain ⟨v1, v2⟩ := new_v (b := b) (g := g) (z := z) hi hn
    rw [new_x (g := g) (z := z) hi, v1, v2, new_c (g := g) (z := z) hi, hY]
    obtain ⟨hpg, hpx⟩ := hI.pg i hi
    cases hv : c.vq i with
    | true =>
      unfold Cs.vq at hv
      rw [Bool.and_eq_true] at hv
      obtain ⟨hk, hqp⟩ := ev_k hv.1
      have hiq := Nat.eq_of_beq_eq_true hv.2
      obtain ⟨f1, f2, f3, f4, f5, f6, f7⟩ := hI.dy hk
      have he : (vb b g z).s c.enc = encB (((vb b g z).i (num c.q)).toNat : Nat) (b 3).i (b 10).s := (vb_pp b g z).enc (.v 3) (num c.q) (.v 10)
      rw [num_i hs] at he
      show PgB ((vb b g z).s c.enc) i (b 3).i ((vb b g z).b (tT 1)) (b 10).s ∧ (b 3).i ≤ _
      rw [he, tT_b hs, hiq]
      exact ⟨⟨by omega, by omega, .inr ⟨f1, by omega, rfl, f5, rfl⟩⟩, by omega⟩
    | false =>
      show PgB (b (110 + i)).s i (b (100 + i)).i ((vb b g z).b (c.cb i)) ((vb b g z).s (c.cd i)) ∧ (b (100 + i)).i ≤ _
      rw [cb_val h.rc, cd_val h.rc hI rfl]
      exact ⟨hpg, by omega⟩
  · intro hk
    rw [new_x (g := g) (z := z) hp, hY, i3, i4, i5, show (nb b (rn c) 10).s = (vb b g z).s (bif c.wr then dtT else .v 10) from nb_s rfl]
    have hvp : c.vq c.p = false := by
      unfold Cs.vq
      cases he : c.ev with
      | false => rfl
      | true =>
        have := (ev_k he).2
        show Nat.beq c.p c.q = false
        cases hb : Nat.beq c.p c.q with
        | true => exact absurd (Nat.eq_of_beq_eq_true hb).symm this
        | false => rfl
    rw [hvp]
    show _ ∧ _ ∧ _ ∧ _ ∧ _ ∧ (b (100 + c.p)).i ≤ _ ∧ _
    obtain ⟨hpg, hpx⟩ := hI.pg c.p hp
    cases hw : c.wr with
    | true =>
      rw [hw] at hb2
      have hn1 : (vb b g z).i c.nw = ((b 0).d.length : Int) + (if c.ev = true then 1 else 0) + 1 := by rw [hnw, j2]
      simp only [cond_true, Bool.true_and, if_true]
      rw [hn1]
      refine ⟨by omega, by omega, ?_, ?_, dtT_size, by omega, ?_⟩
      · cases ho : c.own with
        | true =>
          obtain ⟨f1, f2, f3, f4, f5, f6, f7⟩ := hI.dy (own_k ho).1
          exact f3
        | false => show 1 ≤ (vb b g z).i c.nw; rw [hn1]; omega
      · cases ho : c.own with
        | true =>
          obtain ⟨f1, f2, f3, f4, f5, f6, f7⟩ := hI.dy (own_k ho).1
          show (b 5).i ≤ _
          omega
        | false => show (vb b g z).i c.nw ≤ _; rw [hn1]; omega
      · cases he : c.ev with
        | true =>
          obtain ⟨f1, f2, f3, f4, f5, f6, f7⟩ := hI.dy (ev_k he).1
          show (b 3).i < _
          simp only [if_true]
          omega
        | false => show (b 4).i < _; simp; omega
    | false =>
      unfold Cs.k' at hk
      rw [hw] at hk
      cases ho : c.own with
      | false => rw [ho] at hk; cases hk
      | true =>
        obtain ⟨hk2, hqp⟩ := own_k ho
        have he := wr_own_ev c ho
        obtain ⟨f1, f2, f3, f4, f5, f6, f7⟩ := hI.dy hk2
        rw [hqp] at f6
        rw [he]
        exact ⟨f1, by show (b 3).i ≤ _; simp; omega, f3, f4, f5, f6, f7⟩
end
end Go.Proofs.YtjnfgapfhpihmaaGreat
end
