/-
  KernelPlays, the plain law, seventh part: the kernel's invariant, and each of its steps. No function of the program is named here.
-/
import Derived.Test.YtgjindhjgmplgaaGreatWpR
set_option linter.unusedVariables false
set_option linter.unusedSimpArgs false
section
namespace Go.Proofs.YtgjindhjgmplgaaGreat.Wp
theorem heldAt_srt {hs : List G} (h : ∀ j, j < hs.length → heldAt hs j = true) : hs.Pairwise ltG := by
  rw [List.pairwise_iff_getElem]
  have nb : ∀ i, (hi : i + 1 < hs.length) → ltG hs[i] hs[i + 1] ∧ conflictB hs[i] hs[i + 1] = false := by
    intro i hi
    have := h (i + 1) hi
    unfold heldAt at this
    rw [List.getElem?_eq_getElem hi] at this
    simp only [List.getElem?_eq_getElem (show i < hs.length by omega), Bool.and_eq_true, decide_eq_true_eq, Bool.not_eq_true'] at this
    exact ⟨ordI_lt.1 this.2.1, this.2.2⟩
  intro i j hi hj hij
  obtain ⟨d, rfl⟩ : ∃ d, j = i + 1 + d := ⟨j - i - 1, by omega⟩
  induction d with
  | zero => exact (nb i hj).1
  | succ d ih =>
    have h1 := ih (by omega) (by omega)
    exact ltG_tr h1 (nb (i + 1 + d) hj).1
theorem same_between {a b c : G} (h1 : ltG a b) (h2 : ltG b c) (h : sameLock a c = true) : sameLock a b = true ∧ sameLock b c = true := by
  unfold sameLock at *
  simp only [Bool.and_eq_true, beq_iff_eq] at *
  unfold ltG at *
  omega
theorem heldAt_cf {hs : List G} (h : ∀ j, j < hs.length → heldAt hs j = true) : hs.Pairwise fun a b => conflictB a b = false := by
  have srt := heldAt_srt h
  have nb : ∀ i, (hi : i + 1 < hs.length) → conflictB hs[i] hs[i + 1] = false := by
    intro i hi
    have := h (i + 1) hi
    unfold heldAt at this
    rw [List.getElem?_eq_getElem hi] at this
    simp only [List.getElem?_eq_getElem (show i < hs.length by omega), Bool.and_eq_true, decide_eq_true_eq, Bool.not_eq_true'] at this
    exact this.2.2
  rw [List.pairwise_iff_getElem] at srt ⊢
  intro i j hi hj hij
  cases hc : conflictB hs[i] hs[j] with
  | false => rfl
  | true =>
    exfalso
    unfold conflictB at hc
    simp only [Bool.and_eq_true, Bool.or_eq_true, bne_iff_ne, beq_iff_eq] at hc
    obtain ⟨⟨_, hsl⟩, hm⟩ := hc
    have near : ∀ {a b : G}, ltG a b → sameLock a b = true → (a.mode = 2 ∨ b.mode = 2) → conflictB a b = true := by
      intro a b hlt hsl hm
      unfold conflictB
      simp only [Bool.and_eq_true, Bool.or_eq_true, bne_iff_ne, beq_iff_eq]
      refine ⟨⟨fun e => ?_, hsl⟩, hm⟩
      unfold sameLock at hsl
      simp only [Bool.and_eq_true, beq_iff_eq] at hsl
      unfold ltG at hlt
      omega
    rcases hm with hm | hm
    · -- the next one behind i
      have hi1 : i + 1 < hs.length := by omega
      have hl : sameLock hs[i] hs[i + 1] = true := by
        by_cases e : i + 1 = j
        · subst e; exact hsl
        · exact (same_between (srt i (i + 1) hi hi1 (by omega)) (srt (i + 1) j hi1 hj (by omega)) hsl).1
      have := near (srt i (i + 1) hi hi1 (by omega)) hl (.inl hm)
      rw [nb i hi1] at this; cases this
    · obtain ⟨k, rfl⟩ : ∃ k, j = k + 1 := ⟨j - 1, by omega⟩
      have hk : k < hs.length := by omega
      have hl : sameLock hs[k] hs[k + 1] = true := by
        by_cases e : i = k
        · subst e; exact hsl
        · exact (same_between (srt i k hi hk (by omega)) (srt k (k + 1) hk hj (by omega)) hsl).2
      have := near (srt k (k + 1) hk hj (by omega)) hl (.inr hm)
      rw [nb k hj] at this; cases this
theorem TV.of {hs ws : List G} (h : validT hs ws = true) : TV hs ws := by
  unfold validT at h
  simp only [Bool.and_eq_true] at h
  obtain ⟨⟨_, h1⟩, h2⟩ := h
  have ha : ∀ j, j < hs.length → heldAt hs j = true := by
    unfold heldOk at h1; rw [List.all_eq_true] at h1; intro j hj; exact h1 j (by simpa using hj)
  have hw : ∀ j, j < ws.length → waitAt hs ws j = true := by
    unfold waitOk at h2; rw [List.all_eq_true] at h2; intro j hj; exact h2 j (by simpa using hj)
  have hwv : ∀ j, (hj : j < ws.length) → validG ws[j] = true ∧ modeF hs ws[j] < ws[j].mode ∧ ((ws.take j).any fun x => x.tx == ws[j].tx) = false := by
    intro j hj
    have := hw j hj
    unfold waitAt at this
    rw [List.getElem?_eq_getElem hj] at this
    simp only [Bool.and_eq_true, decide_eq_true_eq, Bool.not_eq_true'] at this
    exact ⟨this.1.1, this.1.2, this.2⟩
  refine ⟨heldAt_srt ha, fun g hg => ?_, heldAt_cf ha, fun g hg => ?_, ?_⟩
  · obtain ⟨j, hj, rfl⟩ := List.mem_iff_getElem.1 hg
    have := ha j hj
    unfold heldAt at this
    rw [List.getElem?_eq_getElem hj] at this
    simp only [Bool.and_eq_true] at this
    exact this.1
  · obtain ⟨j, hj, rfl⟩ := List.mem_iff_getElem.1 hg
    exact ⟨(hwv j hj).1, (hwv j hj).2.1⟩
  · rw [List.Nodup, List.pairwise_map, List.pairwise_iff_getElem]
    intro i j hi hj hij e
    have h3 := (hwv j hj).2.2
    rw [List.any_eq_false] at h3
    exact h3 ws[i] (List.mem_iff_getElem?.2 ⟨i, by rw [List.getElem?_take, if_pos hij, List.getElem?_eq_getElem hi]⟩) (by simpa using e)
end Go.Proofs.YtgjindhjgmplgaaGreat.Wp
end
section
namespace Go.Proofs.YtgjindhjgmplgaaGreat.Wp
def bl (hs p : List G) (g : G) : Bool := (hs ++ p).any fun x => conflictB x g
def scanF : List G → List G → List G → List G × List G
  | hs, p, [] => (hs, p)
  | hs, p, g :: s => if bl hs p g then scanF hs (p ++ [g]) s else scanF (putF g hs) p s
def AllB (hs p : List G) : Prop := ∀ a x b, p = a ++ x :: b → bl hs a x = true
theorem AllB.nil (hs : List G) : AllB hs [] := fun a x b e => by cases a <;> cases e
theorem AllB.snoc {hs p : List G} {g : G} (h : AllB hs p) (hb : bl hs p g = true) : AllB hs (p ++ [g]) := by
  intro a x b e
  rcases List.append_eq_append_iff.1 e with ⟨c, e1, e2⟩ | ⟨c, e1, e2⟩
  · cases c with
    | nil => simp at e1 e2; obtain ⟨rfl, rfl⟩ := e2; rw [e1]; exact hb
    | cons y c =>
      simp at e2
  · cases c with
    | nil => simp at e1 e2; obtain ⟨rfl, rfl⟩ := e2; rw [← e1]; exact hb
    | cons y c =>
      simp at e2
      obtain ⟨rfl, e3⟩ := e2
      exact h a x c e1
theorem scan_all {hs : List G} (s : List G) : ∀ (p q : List G), (∀ a x b, p = a ++ x :: b → bl hs (q ++ a) x = true) → scanF hs q (p ++ s) = scanF hs (q ++ p) s
  | [], q, _ => by simp
  | g :: p, q, h => by
    have h0 := h [] g p rfl
    simp only [List.append_nil] at h0
    rw [List.cons_append]
    conv => lhs; unfold scanF
    rw [if_pos h0, scan_all s p (q ++ [g]) fun a x b e => by
      have := h (g :: a) x b (by rw [e]; rfl)
      simpa using this]
    simp
theorem scan_from {hs p : List G} (h : AllB hs p) (s : List G) : scanF hs [] (p ++ s) = scanF hs p s := by
  have := scan_all s p [] (fun a x b e => by simpa using h a x b e)
  simpa using this
theorem putF_keep {g y : G} : ∀ {hs : List G}, y ∈ hs → y ∈ putF g hs ∨ ordI y g = 0
  | x :: l, h => by
    unfold putF
    split
    · rcases List.mem_cons.1 h with rfl | h
      · exact .inl (by simp)
      · rcases putF_keep (g := g) h with k | k
        · exact .inl (by simp [k])
        · exact .inr k
    · split
      · rename_i e
        rcases List.mem_cons.1 h with rfl | h
        · exact .inr e
        · exact .inl (by simp [h])
      · exact .inl (by simp; simpa using Or.inr h)
theorem putF_self {g : G} : ∀ hs : List G, g ∈ putF g hs
  | [] => by simp [putF]
  | x :: l => by
    unfold putF
    split
    · simp [putF_self l]
    · split <;> simp
theorem AllB.move {hs p s : List G} {g : G} (t : TV hs (p ++ g :: s)) (h : AllB hs p) (hb : bl hs p g = false) : AllB (putF g hs) p := by
  intro a x b e
  have h1 := h a x b e
  unfold bl at h1 hb ⊢
  rw [List.any_eq_true] at h1 ⊢
  rw [List.any_eq_false] at hb
  obtain ⟨y, hy, hc⟩ := h1
  rcases List.mem_append.1 hy with hy | hy
  · rcases putF_keep (g := g) hy with k | k
    · exact ⟨y, by simp [k], hc⟩
    · exfalso
      have hm := (t.vw g (by simp)).2
      rw [modeF_of t.srt hy (sk_iff.2 (ordI_z.1 k))] at hm
      have hy1 := validG_mode (t.vh y hy)
      have hg1 := validG_mode (t.vw g (by simp)).1
      have hx : x ∈ p := by rw [e]; simp
      have hn := hb x (by simp [hx])
      have kz := ordI_z.1 k
      apply hn
      unfold conflictB sameLock at hc ⊢
      simp only [Bool.and_eq_true, Bool.or_eq_true, bne_iff_ne, beq_iff_eq] at hc ⊢
      obtain ⟨⟨c1, c2, c3⟩, c4⟩ := hc
      exact ⟨⟨by omega, by omega, by omega⟩, by omega⟩
  · exact ⟨y, by simp [hy], hc⟩
theorem scan_blocked : ∀ (s hs p : List G), TV hs (p ++ s) → AllB hs p → AllB (scanF hs p s).1 (scanF hs p s).2
  | [], hs, p, _, h => h
  | g :: s, hs, p, t, h => by
    unfold scanF
    cases hb : bl hs p g with
    | true => exact scan_blocked s hs (p ++ [g]) (by simpa using t) (h.snoc hb)
    | false =>
      simp only [Bool.false_eq_true, if_false]
      refine scan_blocked s (putF g hs) p (t.step fun x hx => ?_) (h.move t hb)
      unfold bl at hb
      rw [List.any_eq_false] at hb
      simpa using hb x hx
theorem bl_at {hs p s : List G} {g : G} : blockedB hs (p ++ g :: s) p.length = bl hs p g := by
  unfold blockedB bl
  simp [List.any_append]
theorem pass_scan : ∀ (s hs p : List G) (c : Bool), (passF s.length hs (p ++ s) p.length c).1 = (scanF hs p s).1 ∧ (passF s.length hs (p ++ s) p.length c).2.1 = (scanF hs p s).2 ∧ ((passF s.length hs (p ++ s) p.length c).2.2 = false → c = false ∧ scanF hs p s = (hs, p ++ s))
  | [], hs, p, c => by simp [passF, scanF]
  | g :: s, hs, p, c => by
    have hget : (p ++ g :: s)[p.length]? = some g := by simp
    rw [List.length_cons]
    unfold passF
    rw [hget]
    simp only [bl_at]
    unfold scanF
    cases hb : bl hs p g with
    | true =>
      have ih := pass_scan s hs (p ++ [g]) c
      have e : (p ++ [g]) ++ s = p ++ g :: s := by simp
      rw [e, List.length_append, List.length_singleton] at ih
      simpa using ih
    | false =>
      have ih := pass_scan s (putF g hs) p true
      have e : (p ++ g :: s).eraseIdx p.length = p ++ s := by
        rw [List.eraseIdx_append_of_length_le (Nat.le_refl _)]
        simp
      simp only [e, Bool.false_eq_true, if_false]
      exact ⟨ih.1, ih.2.1, fun h => by have := (ih.2.2 h).1; cases this⟩
theorem pass_same : ∀ (s hs p : List G) (c : Bool), (∀ a x b, s = a ++ x :: b → bl hs (p ++ a) x = true) → passF s.length hs (p ++ s) p.length c = (hs, p ++ s, c)
  | [], hs, p, c, _ => by simp [passF]
  | g :: s, hs, p, c, h => by
    have h0 := h [] g s rfl
    simp only [List.append_nil] at h0
    have hget : (p ++ g :: s)[p.length]? = some g := by simp
    rw [List.length_cons]
    unfold passF
    rw [hget]
    simp only [bl_at, h0, if_true]
    have ih := pass_same s hs (p ++ [g]) c fun a x b e => by
      have := h (g :: a) x b (by rw [e]; rfl)
      simpa using this
    have e : (p ++ [g]) ++ s = p ++ g :: s := by simp
    rw [e, List.length_append, List.length_singleton] at ih
    exact ih
theorem settle_scan {hs ws : List G} (t : TV hs ws) : settle hs ws = scanF hs [] ws := by
  have hp := pass_scan ws hs [] false
  simp only [List.nil_append, List.length_nil] at hp
  obtain ⟨h1, h2, h3⟩ := hp
  unfold settle settleF
  cases hc : (passF ws.length hs ws 0 false).2.2 with
  | false =>
    simp only [Bool.false_eq_true, if_false]
    rw [h1, h2]
  | true =>
    simp only [if_true]
    rw [h1, h2]
    have hpos : 0 < ws.length := by
      cases ws with
      | nil => simp [passF] at hc
      | cons x l => simp
    obtain ⟨n, hn⟩ : ∃ n, ws.length = n + 1 := ⟨ws.length - 1, by omega⟩
    rw [hn]
    have hall := scan_blocked ws hs [] (by simpa using t) (AllB.nil hs)
    have hs2 := pass_same (scanF hs [] ws).2 (scanF hs [] ws).1 [] false (fun a x b e => by simpa using hall a x b e)
    simp only [List.nil_append, List.length_nil] at hs2
    unfold settleF
    rw [hs2]
    simp
structure RSInv (R : List G × List G) (hs ws : List G) (i : Nat) : Prop where
  tv : TV hs ws
  le : i ≤ ws.length
  all : AllB hs (ws.take i)
  eq : R = scanF hs (ws.take i) (ws.drop i)
theorem drop_at {ws : List G} {i : Nat} {g : G} (h : ws[i]? = some g) : ws.drop i = g :: ws.drop (i + 1) := by
  obtain ⟨hi, rfl⟩ := List.getElem?_eq_some_iff.1 h
  exact (List.getElem_cons_drop (h := hi)).symm
theorem take_at {ws : List G} {i : Nat} {g : G} (h : ws[i]? = some g) : ws.take (i + 1) = ws.take i ++ [g] := by
  obtain ⟨hi, rfl⟩ := List.getElem?_eq_some_iff.1 h
  exact List.take_succ_eq_append_getElem hi
theorem bl_of {hs ws : List G} {i : Nat} {g : G} (h : ws[i]? = some g) : blockedB hs ws i = bl hs (ws.take i) g := by
  unfold blockedB bl
  rw [h, List.any_append]
theorem RSInv.skip {R : List G × List G} {hs ws : List G} {i : Nat} {g : G} (h : RSInv R hs ws i) (hg : ws[i]? = some g) (hb : blockedB hs ws i = true) : RSInv R hs ws (i + 1) := by
  rw [bl_of hg] at hb
  have hi := (List.getElem?_eq_some_iff.1 hg).1
  refine ⟨h.tv, by omega, by rw [take_at hg]; exact h.all.snoc hb, ?_⟩
  rw [h.eq, drop_at hg, take_at hg]
  conv => lhs; unfold scanF
  rw [if_pos hb]
theorem RSInv.move {R : List G × List G} {hs ws : List G} {i : Nat} {g : G} (h : RSInv R hs ws i) (hg : ws[i]? = some g) (hb : blockedB hs ws i = false) : RSInv R (putF g hs) (ws.take i ++ ws.drop (i + 1)) 0 := by
  rw [bl_of hg] at hb
  have hcut := cut_at hg
  have t : TV hs (ws.take i ++ g :: ws.drop (i + 1)) := by rw [← hcut]; exact h.tv
  refine ⟨t.step fun x hx => ?_, Nat.zero_le _, by simpa using AllB.nil _, ?_⟩
  · unfold bl at hb
    rw [List.any_eq_false] at hb
    simpa using hb x hx
  · simp only [List.take_zero, List.drop_zero]
    rw [scan_from (h.all.move t hb), h.eq, drop_at hg]
    conv => lhs; unfold scanF
    rw [hb]
    simp
theorem RSInv.done {R : List G × List G} {hs ws : List G} {i : Nat} (h : RSInv R hs ws i) (hi : ws.length ≤ i) : R = (hs, ws) := by
  rw [h.eq, List.take_of_length_le hi, List.drop_eq_nil_of_le hi]
  rfl
end Go.Proofs.YtgjindhjgmplgaaGreat.Wp
end
section
namespace Go.Proofs.YtgjindhjgmplgaaGreat
abbrev Cl := Bool × ByteArray
structure En where
  kind : Int
  tx : Int
  ptx : Int
  pp : Int
  ref : Int
  page : Int
  slot : Int
  b : Cl
  a : Cl
def lastBy (p : En → Bool) : List En → Nat
  | [] => 0
  | x :: l => if 0 < lastBy p l then lastBy p l + 1 else if p x then 1 else 0
theorem lastBy_snoc (p : En → Bool) (x : En) : ∀ l : List En, lastBy p (l ++ [x]) = if p x then l.length + 1 else lastBy p l
  | [] => by simp [lastBy]
  | y :: l => by
    have ih := lastBy_snoc p x l
    simp only [List.cons_append, lastBy, ih]
    cases hp : p x <;> simp [List.length_cons]
theorem lastBy_le (p : En → Bool) : ∀ l : List En, lastBy p l ≤ l.length
  | [] => Nat.le_refl _
  | x :: l => by
    have := lastBy_le p l
    simp only [lastBy, List.length_cons]
    split
    · omega
    · split <;> omega
theorem lastBy_zero {p : En → Bool} : ∀ {l : List En}, lastBy p l = 0 → ∀ x ∈ l, p x = false
  | [], _ => by simp
  | y :: l, h => by
    simp only [lastBy] at h
    split at h
    · omega
    · rename_i h0
      split at h
      · omega
      · rename_i hy
        intro x hx
        rcases List.mem_cons.1 hx with rfl | hx
        · simpa using hy
        · exact lastBy_zero (by omega) x hx
theorem lastBy_none {p : En → Bool} : ∀ {l : List En}, (∀ x ∈ l, p x = false) → lastBy p l = 0
  | [], _ => rfl
  | y :: l, h => by
    have h1 := lastBy_none (p := p) (l := l) fun x hx => h x (by simp [hx])
    simp [lastBy, h1, h y (by simp)]
theorem lastBy_congr {p q : En → Bool} : ∀ {l : List En}, (∀ x ∈ l, p x = q x) → lastBy p l = lastBy q l
  | [], _ => rfl
  | y :: l, h => by
    have h1 := lastBy_congr (p := p) (q := q) (l := l) fun x hx => h x (by simp [hx])
    simp only [lastBy, h1, h y (by simp)]
theorem lastBy_at {p : En → Bool} : ∀ {l : List En} {n : Nat}, lastBy p l = n + 1 → ∃ x, l[n]? = some x ∧ p x = true
  | [], n, h => by simp [lastBy] at h
  | y :: l, n, h => by
    simp only [lastBy] at h
    split at h
    · rename_i h0
      obtain ⟨m, hm⟩ : ∃ m, lastBy p l = m + 1 := ⟨lastBy p l - 1, by omega⟩
      obtain ⟨x, h1, h2⟩ := lastBy_at hm
      obtain rfl : n = m + 1 := by omega
      exact ⟨x, by simpa using h1, h2⟩
    · split at h
      · rename_i hy
        obtain rfl : n = 0 := by omega
        exact ⟨y, rfl, hy⟩
      · omega
def ofTx (tx : Int) (e : En) : Bool := e.tx == tx
def ofPg (pg : Int) (e : En) : Bool := e.kind == 1 && e.page == pg
def ofCell (pg sl : Int) (e : En) : Bool := e.kind == 1 && (e.page == pg && e.slot == sl)
def lastTx (l : List En) (tx : Int) : Nat := lastBy (ofTx tx) l
def lastPg (l : List En) (pg : Int) : Nat := lastBy (ofPg pg) l
def lastCell (l : List En) (pg sl : Int) : Nat := lastBy (ofCell pg sl) l
def comm (l : List En) (tx : Int) : Bool := l.any fun e => e.kind == 3 && e.tx == tx
def noCl : Cl := (false, ⟨#[]⟩)
def cellAt (l : List En) (n : Nat) : Cl := match n with
  | 0 => noCl
  | k + 1 => match l[k]? with
    | some e => e.a
    | none => noCl
def cellOf (l : List En) (pg sl : Int) : Cl := cellAt l (lastCell l pg sl)
def seenF (l : List En) (pg sl tx : Int) : Nat := lastBy (fun e => ofCell pg sl e && (e.tx == tx || comm l e.tx)) l
def VCl (c : Cl) : Prop := c.2.size ≤ 12 ∧ (c.1 = false → c.2 = ⟨#[]⟩)
def noChg (e : En) : Prop := e.slot = 0 ∧ e.b = noCl ∧ e.a = noCl
def EnR (n : Nat) (e : En) : Prop := 0 ≤ e.ptx ∧ e.ptx ≤ n ∧ 0 ≤ e.pp ∧ e.pp ≤ n ∧ 0 ≤ e.ref ∧ e.ref ≤ n ∧ 0 ≤ e.page ∧ e.page < 64 ∧
  ((e.kind = 1 ∧ 1 ≤ e.tx ∧ e.tx ≤ 1073741824 ∧ e.ref = 0 ∧ 0 ≤ e.slot ∧ e.slot < 16 ∧ VCl e.b ∧ VCl e.a) ∨
   ((e.kind = 3 ∨ e.kind = 4) ∧ 1 ≤ e.tx ∧ e.tx ≤ 1073741824 ∧ 0 < e.ptx ∧ e.pp = 0 ∧ e.ref = 0 ∧ e.page = 0 ∧ noChg e) ∨
   (e.kind = 7 ∧ e.tx = 0 ∧ e.ptx = 0 ∧ e.pp = 0 ∧ noChg e))
structure Fits (l : List En) (e : En) : Prop where
  right : EnR l.length e
  tx : 0 < e.tx → e.ptx = lastTx l e.tx ∧ ∀ x ∈ l, x.tx = e.tx → x.kind = 1
  page : e.kind = 1 → e.pp = lastPg l e.page
  strict : e.kind = 1 → ∀ x ∈ l, x.kind = 1 → x.tx ≠ e.tx → x.page = e.page → x.slot = e.slot → comm l x.tx = true
def LogOk (l : List En) : Prop := ∀ i e, l[i]? = some e → Fits (l.take i) e
theorem LogOk.nil : LogOk [] := fun i e h => by simp at h
theorem LogOk.snoc {l : List En} {e : En} (h : LogOk l) (f : Fits l e) : LogOk (l ++ [e]) := by
  intro i x hx
  rcases Nat.lt_or_ge i l.length with hi | hi
  · rw [List.getElem?_append_left hi] at hx
    rw [List.take_append_of_le_length (Nat.le_of_lt hi)]
    exact h i x hx
  · have hi' : i < (l ++ [e]).length := (List.getElem?_eq_some_iff.1 hx).1
    rw [List.length_append, List.length_singleton] at hi'
    obtain rfl : i = l.length := by omega
    rw [List.getElem?_append_right (Nat.le_refl _), Nat.sub_self] at hx
    cases hx
    rw [List.take_left' rfl]
    exact f
theorem LogOk.right {l : List En} (h : LogOk l) {i : Nat} {e : En} (he : l[i]? = some e) : EnR i e := by
  have := (h i e he).right
  rwa [List.length_take, Nat.min_eq_left (Nat.le_of_lt (List.getElem?_eq_some_iff.1 he).1)] at this
theorem comm_mono {l : List En} {tx : Int} (h : comm l tx = true) (m : List En) : comm (l ++ m) tx = true := by
  unfold comm at h ⊢
  rw [List.any_append, h]; rfl
theorem seen_last {l : List En} {pg sl tx : Int} (h : ∀ x ∈ l, x.kind = 1 → x.tx ≠ tx → x.page = pg → x.slot = sl → comm l x.tx = true) : seenF l pg sl tx = lastCell l pg sl := by
  unfold seenF lastCell
  refine lastBy_congr fun x hx => ?_
  cases hc : ofCell pg sl x with
  | false => rfl
  | true =>
    simp only [ofCell, Bool.and_eq_true, beq_iff_eq] at hc
    by_cases ht : x.tx = tx
    · simp [ht]
    · simp [h x hx hc.1 ht hc.2.1 hc.2.2]
theorem lastTx_snoc (l : List En) (e : En) (tx : Int) : lastTx (l ++ [e]) tx = if e.tx = tx then l.length + 1 else lastTx l tx := by
  unfold lastTx; rw [lastBy_snoc]; simp [ofTx]
theorem lastPg_snoc (l : List En) (e : En) (pg : Int) : lastPg (l ++ [e]) pg = if e.kind = 1 ∧ e.page = pg then l.length + 1 else lastPg l pg := by
  unfold lastPg; rw [lastBy_snoc]; simp [ofPg]
theorem lastCell_snoc (l : List En) (e : En) (pg sl : Int) : lastCell (l ++ [e]) pg sl = if e.kind = 1 ∧ e.page = pg ∧ e.slot = sl then l.length + 1 else lastCell l pg sl := by
  unfold lastCell; rw [lastBy_snoc]; simp [ofCell]
theorem cellAt_mono {l : List En} {n : Nat} (h : n ≤ l.length) (m : List En) : cellAt (l ++ m) n = cellAt l n := by
  cases n with
  | zero => rfl
  | succ k => unfold cellAt; simp only; rw [List.getElem?_append_left (by omega)]
theorem cellOf_snoc (l : List En) (e : En) (pg sl : Int) : cellOf (l ++ [e]) pg sl = if e.kind = 1 ∧ e.page = pg ∧ e.slot = sl then e.a else cellOf l pg sl := by
  unfold cellOf
  rw [lastCell_snoc]
  split
  · simp [cellAt, List.getElem?_append_right (Nat.le_refl l.length)]
  · exact cellAt_mono (lastBy_le _ _) _
theorem fm_congr {α β : Type} {f g : α → Option β} : ∀ {l : List α}, (∀ x ∈ l, f x = g x) → l.filterMap f = l.filterMap g
  | [], _ => rfl
  | y :: l, h => by
    have h1 := fm_congr (f := f) (g := g) (l := l) fun x hx => h x (by simp [hx])
    rw [List.filterMap_cons, List.filterMap_cons, h y (by simp), h1]
def pendF (l : List En) (tx : Int) : List Nat := (List.range l.length).filterMap fun i => match l[i]? with
  | some e => if e.kind = 1 ∧ e.tx = tx then some (i + 1) else none
  | none => none
theorem pendF_snoc (l : List En) (e : En) (tx : Int) : pendF (l ++ [e]) tx = pendF l tx ++ (if e.kind = 1 ∧ e.tx = tx then [l.length + 1] else []) := by
  unfold pendF
  rw [List.length_append, List.length_singleton, List.range_succ, List.filterMap_append]
  congr 1
  · refine fm_congr fun i hi => ?_
    rw [List.getElem?_append_left (by simpa using hi)]
  · simp only [List.filterMap_cons, List.filterMap_nil, List.getElem?_append_right (Nat.le_refl l.length), Nat.sub_self, List.getElem?_cons_zero]
    split <;> simp_all
end Go.Proofs.YtgjindhjgmplgaaGreat
end
section
namespace Go.Proofs.YtgjindhjgmplgaaGreat.Wp
def Up (hs hs' : List G) : Prop := ∀ x ∈ hs, ∃ y ∈ hs', y.tx = x.tx ∧ y.page = x.page ∧ y.slot = x.slot ∧ x.mode ≤ y.mode
theorem Up.refl (hs : List G) : Up hs hs := fun x h => ⟨x, h, rfl, rfl, rfl, Int.le_refl _⟩
theorem Up.trans {a b c : List G} (h : Up a b) (k : Up b c) : Up a c := fun x hx => by
  obtain ⟨y, hy, e1, e2, e3, e4⟩ := h x hx
  obtain ⟨z, hz, f1, f2, f3, f4⟩ := k y hy
  exact ⟨z, hz, f1.trans e1, f2.trans e2, f3.trans e3, Int.le_trans e4 f4⟩
theorem ordI_sk {x g : G} (h : ordI x g = 0) : sameKey g x = true := sk_iff.2 (ordI_z.1 h)
theorem put_up {g : G} {hs : List G} (hs' : hs.Pairwise ltG) (hm : modeF hs g < g.mode) : Up hs (putF g hs) := by
  intro x hx
  rcases putF_keep (g := g) hx with h | h
  · exact ⟨x, h, rfl, rfl, rfl, Int.le_refl _⟩
  · obtain ⟨e1, e2, e3⟩ := ordI_z.1 h
    have := modeF_of hs' hx (ordI_sk h)
    exact ⟨g, putF_self hs, e3.symm, e1.symm, e2.symm, by omega⟩
theorem Sts.up {hs ws hs' ws' : List G} (h : Sts hs ws hs' ws') (t : TV hs ws) : Up hs hs' := by
  induction h with
  | refl => exact Up.refl _
  | @step hs p s hs' ws' g hb _ ih => exact (put_up t.srt (t.vw g (by simp)).2).trans (ih (t.step hb))
theorem settle_up {hs ws : List G} (t : TV hs ws) : Up hs (settle hs ws).1 := (settle_sts hs ws).up t
theorem settle_tv {hs ws : List G} (t : TV hs ws) : TV (settle hs ws).1 (settle hs ws).2 := (settle_sts hs ws).tv t
theorem settle_blocked {hs ws : List G} (t : TV hs ws) {g : G} (h : g ∈ (settle hs ws).2) : ∃ b, b ∈ blockF (settle hs ws).1 (settle hs ws).2 g.tx := by
  have tv := settle_tv t
  have ab : AllB (settle hs ws).1 (settle hs ws).2 := by
    rw [settle_scan t]
    exact scan_blocked ws hs [] (by simpa using t) (AllB.nil hs)
  obtain ⟨p, s, e⟩ := List.append_of_mem h
  have hb := ab p g s e
  unfold bl at hb
  rw [List.any_eq_true] at hb
  obtain ⟨x, hx, hc⟩ := hb
  exact ⟨x.tx, (block_iff tv).2 ⟨p, g, s, e, rfl, x, hx, hc, rfl⟩⟩
theorem TV.excl {hs ws : List G} (t : TV hs ws) {x y : G} (hx : x ∈ hs) (hy : y ∈ hs) (hn : x.tx ≠ y.tx) (h1 : x.page = y.page) (h2 : x.slot = y.slot) : x.mode ≠ 2 ∧ y.mode ≠ 2 := by
  have key : conflictB x y = false := by
    obtain ⟨i, hi, rfl⟩ := List.mem_iff_getElem.1 hx
    obtain ⟨j, hj, rfl⟩ := List.mem_iff_getElem.1 hy
    rcases Nat.lt_trichotomy i j with h | h | h
    · exact List.pairwise_iff_getElem.1 t.cf i j hi hj h
    · subst h; exact absurd rfl hn
    · rw [conflict_symm]; exact List.pairwise_iff_getElem.1 t.cf j i hj hi h
  unfold conflictB sameLock at key
  simp only [Bool.and_eq_false_iff, bne_eq_false_iff_eq, beq_eq_false_iff_ne, Bool.or_eq_false_iff] at key
  rcases key with (h | h | h) | h
  · exact absurd h hn
  · exact absurd h1 h
  · exact absurd h2 h
  · exact h
structure Asked (hs ws u v : List G) (g : G) (o : Bool) : Prop where
  tv : TV u v
  up : Up hs u
  mem : ∀ x ∈ u ++ v, x ∈ hs ++ ws ∨ x = g
  wait : ∀ x ∈ v, x ∈ ws ∨ x = g
  has : o = true → ∃ y ∈ u, y.tx = g.tx ∧ y.page = g.page ∧ y.slot = g.slot ∧ g.mode ≤ y.mode
theorem modeF_has {hs : List G} {g : G} (hg : 1 ≤ g.mode) (h : g.mode ≤ modeF hs g) : ∃ y ∈ hs, y.tx = g.tx ∧ y.page = g.page ∧ y.slot = g.slot ∧ g.mode ≤ y.mode := by
  unfold modeF at h
  cases e : hs.find? (sameKey g) with
  | none => rw [e] at h; simp only at h; omega
  | some y =>
    rw [e] at h
    obtain ⟨a1, a2, a3⟩ := sk_iff.1 (List.find?_some e)
    exact ⟨y, List.mem_of_find?_eq_some e, a3, a1, a2, h⟩
theorem asked {hs ws u v : List G} {g : G} {o : Bool} (e : reqF hs ws g = some (u, v, o)) : Asked hs ws u v g o := by
  unfold reqF at e
  split at e
  · rename_i hv
    rw [Bool.and_eq_true] at hv
    obtain ⟨hv1, hv2⟩ := hv
    have t := TV.of hv1
    have hg1 : 1 ≤ g.mode := by rcases validG_mode hv2 with h | h <;> omega
    split at e
    · split at e
      · cases e
        exact ⟨t, Up.refl _, fun x h => .inl h, fun x h => .inl h, fun h => by cases h⟩
      · cases e
    · rename_i hf
      split at e
      · rename_i hm
        cases e
        exact ⟨t, Up.refl _, fun x h => .inl h, fun x h => .inl h, fun _ => modeF_has hg1 hm⟩
      · rename_i hm
        split at e
        · cases e
        · cases e
          have t2 : TV hs (ws.take (placeF hs ws g) ++ g :: ws.drop (placeF hs ws g)) := TV.ins (by rw [List.take_append_drop]; exact t) hv2 (by omega) fun x hx => by
            rw [List.take_append_drop] at hx
            simpa using List.find?_eq_none.1 hf x hx
          have st := settle_sts hs (ws.take (placeF hs ws g) ++ g :: ws.drop (placeF hs ws g))
          have back : ∀ x ∈ ws.take (placeF hs ws g) ++ g :: ws.drop (placeF hs ws g), x ∈ ws ∨ x = g := by
            intro x hx
            rcases List.mem_append.1 hx with hx | hx
            · exact .inl (List.mem_of_mem_take hx)
            · rcases List.mem_cons.1 hx with rfl | hx
              · exact .inr rfl
              · exact .inl (List.mem_of_mem_drop hx)
          refine ⟨settle_tv t2, settle_up t2, fun x hx => ?_, fun x hx => back x (st.wait hx), fun h => modeF_has hg1 (of_decide_eq_true h)⟩
          rcases List.mem_append.1 (st.mem hx) with hx | hx
          · exact .inl (by simp [hx])
          · rcases back x hx with hx | hx
            · exact .inl (by simp [hx])
            · exact .inr hx
  · cases e
structure Left (hs ws u v : List G) (p q : G → Bool) : Prop where
  tv : TV u v
  up : Up (hs.filter fun g => !p g) u
  mem : ∀ x ∈ u ++ v, (x ∈ hs ∧ p x = false) ∨ (x ∈ ws ∧ q x = false)
  wait : ∀ x ∈ v, x ∈ ws ∧ q x = false
theorem left_of {hs ws : List G} (t : TV hs ws) (hv : validT hs ws = true) (p q : G → Bool) : Left hs ws (withoutF p q hs ws).1 (withoutF p q hs ws).2 p q := by
  unfold withoutF
  rw [if_pos hv]
  have t2 := t.filter (fun g => !p g) (fun g => !q g)
  have st := settle_sts (hs.filter fun g => !p g) (ws.filter fun g => !q g)
  refine ⟨settle_tv t2, settle_up t2, fun x hx => ?_, fun x hx => by simpa using st.wait hx⟩
  rcases List.mem_append.1 (st.mem hx) with hx | hx
  · exact .inl (by simpa using hx)
  · exact .inr (by simpa using hx)
end Go.Proofs.YtgjindhjgmplgaaGreat.Wp
end
section
namespace Go.Proofs.YtgjindhjgmplgaaGreat.Wp
structure TxR where
  id : Int
  state : Int
  last : Int
  pend : List Int
  saves : List Int
def rmT (ts : List TxR) (id : Int) : List TxR := ts.filter fun t => t.id != id
def setT (ts : List TxR) (t : TxR) : List TxR := ts.map fun x => if x.id = t.id then t else x
def newT (id : Int) : TxR := ⟨id, 1, 0, [], []⟩
def toI (n : Nat) : Int := n
structure TxOk (l : List En) (n : Int) (t : TxR) : Prop where
  id0 : 1 ≤ t.id
  id1 : t.id ≤ n
  last : t.last = lastTx l t.id
  pend : t.pend = (pendF l t.id).map toI
  act : t.state = 1 → ∀ x ∈ l, x.tx = t.id → x.kind = 1
  st : t.state = 1 ∨ t.state = 3
  nocomm : comm l t.id = false
  saves : t.saves.length ≤ 8 ∧ t.saves.Pairwise (· ≤ ·) ∧ ∀ x ∈ t.saves, 0 ≤ x ∧ x ≤ t.last
structure TblOk (l : List En) (ts : List TxR) (n : Int) : Prop where
  srt : ts.Pairwise fun a b => a.id < b.id
  each : ∀ t ∈ ts, TxOk l n t
  all : ∀ e ∈ l, 0 < e.tx → e.tx ≤ n ∧ ((∃ t ∈ ts, t.id = e.tx) ∨ comm l e.tx = true)
theorem TblOk.nil : TblOk [] [] 0 := ⟨.nil, by simp, by simp⟩
theorem setT_mem {ts : List TxR} {t x : TxR} (h : x ∈ setT ts t) : x = t ∨ (x ∈ ts ∧ x.id ≠ t.id) := by
  unfold setT at h
  obtain ⟨y, hy, rfl⟩ := List.mem_map.1 h
  split
  · exact .inl rfl
  · rename_i hn; exact .inr ⟨hy, hn⟩
theorem setT_has {ts : List TxR} {t s : TxR} (hs : s ∈ ts) (e : s.id = t.id) : t ∈ setT ts t := List.mem_map.2 ⟨s, hs, by rw [if_pos e]⟩
theorem setT_ids (ts : List TxR) (t : TxR) : (setT ts t).map TxR.id = ts.map TxR.id := by
  unfold setT
  rw [List.map_map]
  refine List.map_congr_left fun x _ => ?_
  simp only [Function.comp]
  split
  · rename_i h; exact h.symm
  · rfl
theorem srt_ids {ts ts' : List TxR} (h : ts.Pairwise fun a b => a.id < b.id) (e : ts'.map TxR.id = ts.map TxR.id) : ts'.Pairwise fun a b => a.id < b.id := by
  have h1 : (ts.map TxR.id).Pairwise (· < ·) := List.pairwise_map.2 h
  rw [← e] at h1
  exact List.pairwise_map.1 h1
theorem has_ids {ts ts' : List TxR} (e : ts'.map TxR.id = ts.map TxR.id) {i : Int} (h : ∃ t ∈ ts, t.id = i) : ∃ t ∈ ts', t.id = i := by
  have : i ∈ ts.map TxR.id := List.mem_map.2 h
  rw [← e] at this
  exact List.mem_map.1 this
theorem comm_snoc (l : List En) (e : En) (tx : Int) : comm (l ++ [e]) tx = (comm l tx || (e.kind == 3 && e.tx == tx)) := by
  unfold comm; rw [List.any_append]; simp
theorem TxOk.other {l : List En} {n : Int} {t : TxR} (h : TxOk l n t) {e : En} (hn : e.tx ≠ t.id) : TxOk (l ++ [e]) n t := by
  refine ⟨h.id0, h.id1, ?_, ?_, fun hs x hx ht => ?_, h.st, ?_, h.saves⟩
  · rw [lastTx_snoc, if_neg hn]; exact h.last
  · rw [pendF_snoc, if_neg (by simp [hn]), List.append_nil]; exact h.pend
  · rcases List.mem_append.1 hx with hx | hx
    · exact h.act hs x hx ht
    · obtain rfl := List.mem_singleton.1 hx
      exact absurd ht hn
  · rw [comm_snoc, h.nocomm]; simp [hn]
theorem TblOk.begin {l : List En} {ts : List TxR} {n : Int} (h : TblOk l ts n) (hn : 0 ≤ n) : TblOk l (ts ++ [newT (n + 1)]) (n + 1) := by
  have none : ∀ x ∈ l, ¬ x.tx = n + 1 := fun x hx e => by have := (h.all x hx (by omega)).1; omega
  refine ⟨?_, fun t ht => ?_, fun e he h0 => ?_⟩
  · rw [List.pairwise_append]
    refine ⟨h.srt, by simp, fun a ha b hb => ?_⟩
    obtain rfl := List.mem_singleton.1 hb
    have := (h.each a ha).id1
    show a.id < n + 1
    omega
  · rcases List.mem_append.1 ht with ht | ht
    · have o := h.each t ht
      exact ⟨o.id0, by have := o.id1; omega, o.last, o.pend, o.act, o.st, o.nocomm, o.saves⟩
    · obtain rfl := List.mem_singleton.1 ht
      refine ⟨by show 1 ≤ n + 1; omega, Int.le_refl _, ?_, ?_, fun _ x hx e => absurd e (none x hx), .inl rfl, ?_, by simp [newT], by simp [newT], by simp [newT]⟩
      · show (0 : Int) = _
        rw [show lastTx l (newT (n + 1)).id = 0 from lastBy_none fun x hx => by simpa [ofTx, newT] using none x hx]; rfl
      · show [] = _
        rw [show pendF l (newT (n + 1)).id = [] from List.filterMap_eq_nil_iff.2 fun i hi => by
          cases hx : l[i]? with
          | none => rfl
          | some x =>
            have := none x (List.mem_of_getElem? hx)
            simp [newT, this]]
        rfl
      · unfold comm
        rw [List.any_eq_false]
        intro x hx
        have := none x hx
        simp [newT, this]
  · obtain ⟨a, b⟩ := h.all e he h0
    refine ⟨by omega, b.imp (fun ⟨t, ht, e⟩ => ⟨t, by simp [ht], e⟩) id⟩
theorem TblOk.change {l : List En} {ts : List TxR} {n : Int} (h : TblOk l ts n) {t : TxR} (ht : t ∈ ts) {e : En} (hk : e.kind = 1) (he : e.tx = t.id) :
    TblOk (l ++ [e]) (setT ts { t with last := l.length + 1, pend := t.pend ++ [(l.length + 1 : Int)] }) n := by
  have o := h.each t ht
  refine ⟨srt_ids h.srt (setT_ids _ _), fun s hs => ?_, fun x hx h0 => ?_⟩
  · rcases setT_mem hs with rfl | ⟨hs, hn⟩
    · refine ⟨o.id0, o.id1, ?_, ?_, fun k x hx hx2 => ?_, o.st, ?_, o.saves.1, o.saves.2.1, fun x hx => ?_⟩
      · show ((l.length : Int) + 1) = _
        rw [lastTx_snoc, if_pos he]; simp
      · show t.pend ++ [((l.length : Int) + 1)] = List.map toI (pendF (l ++ [e]) t.id)
        rw [pendF_snoc, if_pos ⟨hk, he⟩, List.map_append, ← o.pend]; rfl
      · rcases List.mem_append.1 hx with hx | hx
        · exact o.act k x hx hx2
        · obtain rfl := List.mem_singleton.1 hx; exact hk
      · show comm (l ++ [e]) t.id = false
        rw [comm_snoc, o.nocomm, hk]; rfl
      · have := o.saves.2.2 x hx
        have h2 := lastBy_le (ofTx t.id) l
        have h3 := o.last
        unfold lastTx at h3
        refine ⟨this.1, ?_⟩
        show x ≤ (l.length : Int) + 1
        omega
    · exact (h.each s hs).other (by rw [he]; exact fun k => hn k.symm)
  · rcases List.mem_append.1 hx with hx | hx
    · obtain ⟨a, b⟩ := h.all x hx h0
      refine ⟨a, b.imp (fun k => has_ids (setT_ids _ _) k) fun k => comm_mono k _⟩
    · obtain rfl := List.mem_singleton.1 hx
      exact ⟨by rw [he]; exact o.id1, .inl (has_ids (setT_ids _ _) ⟨t, ht, he.symm⟩)⟩
theorem TblOk.commit {l : List En} {ts : List TxR} {n : Int} (h : TblOk l ts n) {t : TxR} (ht : t ∈ ts) {e : En} (hk : e.kind = 3) (he : e.tx = t.id) : TblOk (l ++ [e]) (rmT ts t.id) n := by
  have o := h.each t ht
  refine ⟨h.srt.filter _, fun s hs => ?_, fun x hx h0 => ?_⟩
  · obtain ⟨h1, h2⟩ := List.mem_filter.1 hs
    exact (h.each s h1).other (by rw [he]; simpa using fun k : t.id = s.id => by simp [k] at h2)
  · rcases List.mem_append.1 hx with hx | hx
    · obtain ⟨a, b⟩ := h.all x hx h0
      refine ⟨a, ?_⟩
      rcases b with ⟨s, hs, e1⟩ | b
      · by_cases k : s.id = t.id
        · right; rw [comm_snoc, hk, he, ← e1, k]; simp
        · left; exact ⟨s, List.mem_filter.2 ⟨hs, by simpa using k⟩, e1⟩
      · exact .inr (comm_mono b _)
    · obtain rfl := List.mem_singleton.1 hx
      exact ⟨by rw [he]; exact o.id1, .inr (by rw [comm_snoc, hk]; simp)⟩
theorem TblOk.gone {l : List En} {ts : List TxR} {n : Int} (h : TblOk l ts n) {t : TxR} (ht : t ∈ ts) (h0 : t.last = 0) : TblOk l (rmT ts t.id) n := by
  have o := h.each t ht
  have none : ∀ x ∈ l, ¬ x.tx = t.id := fun x hx e => by
    have h1 : lastTx l t.id = 0 := by have := o.last; omega
    have := lastBy_zero h1 x hx
    simp [ofTx, e] at this
  refine ⟨h.srt.filter _, fun s hs => h.each s (List.mem_filter.1 hs).1, fun x hx h0 => ?_⟩
  obtain ⟨a, b⟩ := h.all x hx h0
  refine ⟨a, b.imp (fun ⟨s, hs, e⟩ => ⟨s, List.mem_filter.2 ⟨hs, ?_⟩, e⟩) id⟩
  have := none x hx
  simp only [bne_iff_ne, ne_eq]
  rw [e]; exact this
theorem TblOk.abort {l : List En} {ts : List TxR} {n : Int} (h : TblOk l ts n) {t : TxR} (ht : t ∈ ts) {e : En} (hk : e.kind = 4) (he : e.tx = t.id) : TblOk (l ++ [e]) (setT ts { t with state := 3, last := l.length + 1, saves := [] }) n := by
  have o := h.each t ht
  refine ⟨srt_ids h.srt (setT_ids _ _), fun s hs => ?_, fun x hx h0 => ?_⟩
  · rcases setT_mem hs with rfl | ⟨hs, hn⟩
    · refine ⟨o.id0, o.id1, ?_, ?_, fun k => absurd (show (3 : Int) = 1 from k) (by decide), .inr rfl, ?_, by simp, by simp, by simp⟩
      · show ((l.length : Int) + 1) = _
        rw [lastTx_snoc, if_pos he]; simp
      · show t.pend = List.map toI (pendF (l ++ [e]) t.id)
        rw [pendF_snoc, if_neg (by rw [hk]; simp), List.append_nil]; exact o.pend
      · show comm (l ++ [e]) t.id = false
        rw [comm_snoc, o.nocomm, hk]; rfl
    · exact (h.each s hs).other (by rw [he]; exact fun k => hn k.symm)
  · rcases List.mem_append.1 hx with hx | hx
    · obtain ⟨a, b⟩ := h.all x hx h0
      refine ⟨a, b.imp (fun k => has_ids (setT_ids _ _) k) fun k => comm_mono k _⟩
    · obtain rfl := List.mem_singleton.1 hx
      exact ⟨by rw [he]; exact o.id1, .inl (has_ids (setT_ids _ _) ⟨t, ht, he.symm⟩)⟩
theorem TblOk.index {l : List En} {ts : List TxR} {n : Int} (h : TblOk l ts n) {e : En} (he : e.tx = 0) : TblOk (l ++ [e]) ts n := by
  refine ⟨h.srt, fun s hs => (h.each s hs).other (by have := (h.each s hs).id0; omega), fun x hx h0 => ?_⟩
  rcases List.mem_append.1 hx with hx | hx
  · obtain ⟨a, b⟩ := h.all x hx h0
    exact ⟨a, b.imp id fun k => comm_mono k _⟩
  · obtain rfl := List.mem_singleton.1 hx
    omega
theorem TblOk.save {l : List En} {ts : List TxR} {n : Int} (h : TblOk l ts n) {t : TxR} (ht : t ∈ ts) (h8 : t.saves.length < 8) : TblOk l (setT ts { t with saves := t.saves ++ [t.last] }) n := by
  have o := h.each t ht
  refine ⟨srt_ids h.srt (setT_ids _ _), fun s hs => ?_, fun x hx h0 => ?_⟩
  · rcases setT_mem hs with rfl | ⟨hs, hn⟩
    · refine ⟨o.id0, o.id1, o.last, o.pend, o.act, o.st, o.nocomm, ?_, ?_, fun x hx => ?_⟩
      · show (t.saves ++ [t.last]).length ≤ 8
        rw [List.length_append, List.length_singleton]; omega
      · show (t.saves ++ [t.last]).Pairwise _
        rw [List.pairwise_append]
        refine ⟨o.saves.2.1, by simp, fun a ha b hb => ?_⟩
        obtain rfl := List.mem_singleton.1 hb
        exact (o.saves.2.2 a ha).2
      · rcases List.mem_append.1 hx with hx | hx
        · exact o.saves.2.2 x hx
        · obtain rfl := List.mem_singleton.1 hx
          exact ⟨by have := o.last; show 0 ≤ t.last; omega, Int.le_refl _⟩
    · exact h.each s hs
  · obtain ⟨a, b⟩ := h.all x hx h0
    exact ⟨a, b.imp (fun k => has_ids (setT_ids _ _) k) id⟩
structure LkOk (l : List En) (ts : List TxR) (hs ws : List G) : Prop where
  tv : TV hs ws
  own : ∀ x ∈ hs ++ ws, (∃ t ∈ ts, t.id = x.tx) ∧ x.page < 3
  keep : ∀ t ∈ ts, ∀ x ∈ l, x.kind = 1 → x.tx = t.id → ∃ y ∈ hs, y.tx = x.tx ∧ y.page = x.page ∧ y.slot = x.slot ∧ y.mode = 2
theorem LkOk.others {l : List En} {ts : List TxR} {hs ws : List G} {n : Int} (k : LkOk l ts hs ws) (h : TblOk l ts n) (hl : LogOk l) {y : G} (hy : y ∈ hs) : ∀ x ∈ l, x.kind = 1 → x.tx ≠ y.tx → x.page = y.page → x.slot = y.slot → comm l x.tx = true := by
  intro x hx hk hn h1 h2
  obtain ⟨i, hi⟩ := List.getElem?_of_mem hx
  have r := hl.right hi
  have h0 : 0 < x.tx := by
    rcases r.2.2.2.2.2.2.2.2 with q | q | q
    · omega
    · omega
    · have := q.1; omega
  rcases (h.all x hx h0).2 with ⟨t, ht, e⟩ | c
  · obtain ⟨z, hz, e1, e2, e3, e4⟩ := k.keep t ht x hx hk e.symm
    have := (k.tv.excl hz hy (by rw [e1]; exact hn) (e2.trans h1) (e3.trans h2)).1
    exact absurd e4 this
  · exact c
theorem LkOk.len0 {l : List En} {ts : List TxR} {hs ws : List G} {n : Int} (k : LkOk l ts hs ws) (h : TblOk l ts n) (hn : n ≤ 12) : hs.length + ws.length ≤ 637 := by
  have inr : ∀ x ∈ hs ++ ws, 1 ≤ x.tx ∧ x.tx ≤ 12 ∧ x.page < 3 := fun x hx => by
    obtain ⟨⟨t, ht, e⟩, hp⟩ := k.own x hx
    have := (h.each t ht).id0
    have := (h.each t ht).id1
    exact ⟨by omega, by omega, hp⟩
  have vr : ∀ x ∈ hs, 0 ≤ x.page ∧ 0 ≤ x.slot ∧ x.slot < 16 := fun x hx => by
    have := k.tv.vh x hx
    unfold validG at this
    simp only [Bool.and_eq_true, decide_eq_true_eq] at this
    exact ⟨this.1.1.1.1.2, this.1.1.2, this.1.2⟩
  have a1 : hs.length ≤ 624 := by
    have nd : (hs.map fun g => g.page * 208 + g.slot * 13 + g.tx).Nodup := by
      unfold List.Nodup
      rw [List.pairwise_map]
      refine k.tv.srt.imp_of_mem fun {a b} ha hb hab => ?_
      have ra := inr a (by simp [ha])
      have rb := inr b (by simp [hb])
      have va := vr a ha
      have vb := vr b hb
      unfold ltG at hab
      omega
    have := nodup_le (hs.map fun g => g.page * 208 + g.slot * 13 + g.tx) ((List.range 624).map toI) nd fun x hx => by
      obtain ⟨g, hg, rfl⟩ := List.mem_map.1 hx
      have rg := inr g (by simp [hg])
      have vg := vr g hg
      refine List.mem_map.2 ⟨(g.page * 208 + g.slot * 13 + g.tx).toNat, List.mem_range.2 (by omega), ?_⟩
      show ((g.page * 208 + g.slot * 13 + g.tx).toNat : Int) = _
      omega
    simpa using this
  have a2 : ws.length ≤ 13 := by
    have := nodup_le (ws.map G.tx) ((List.range 13).map toI) k.tv.nd fun x hx => by
      obtain ⟨g, hg, rfl⟩ := List.mem_map.1 hx
      have rg := inr g (by simp [hg])
      exact List.mem_map.2 ⟨g.tx.toNat, List.mem_range.2 (by omega), by show (g.tx.toNat : Int) = _; omega⟩
    simpa using this
  omega
theorem LkOk.len {l : List En} {ts : List TxR} {hs ws : List G} {n : Int} (k : LkOk l ts hs ws) (h : TblOk l ts n) (hn : n ≤ 12) : hs.length + ws.length ≤ 1024 := Nat.le_trans (k.len0 h hn) (by decide)
end Go.Proofs.YtgjindhjgmplgaaGreat.Wp
end
section
namespace Go.Proofs.YtgjindhjgmplgaaGreat.Wp
theorem TV.two {hs ws : List G} (t : TV hs ws) {y : G} (hy : y ∈ hs) (h : 2 ≤ y.mode) : y.mode = 2 := by
  rcases validG_mode (t.vh y hy) with e | e <;> omega
theorem LkOk.nil : LkOk [] [] [] [] := ⟨⟨.nil, by simp, .nil, by simp, by simp⟩, by simp, by simp⟩
theorem LkOk.up {l : List En} {ts : List TxR} {hs ws u v : List G} (k : LkOk l ts hs ws) (tv : TV u v) (h : Up hs u) (own : ∀ x ∈ u ++ v, (∃ t ∈ ts, t.id = x.tx) ∧ x.page < 3) : LkOk l ts u v :=
  ⟨tv, own, fun t ht x hx hk he => by
    obtain ⟨y, hy, e1, e2, e3, e4⟩ := k.keep t ht x hx hk he
    obtain ⟨z, hz, f1, f2, f3, f4⟩ := h y hy
    exact ⟨z, hz, f1.trans e1, f2.trans e2, f3.trans e3, tv.two hz (by omega)⟩⟩
theorem LkOk.request {l : List En} {ts : List TxR} {hs ws u v : List G} {g : G} {o : Bool} (k : LkOk l ts hs ws) (a : Asked hs ws u v g o) (hg : ∃ t ∈ ts, t.id = g.tx) (hp : g.page < 3) : LkOk l ts u v :=
  k.up a.tv a.up fun x hx => by
    rcases a.mem x hx with h | rfl
    · exact k.own x h
    · exact ⟨hg, hp⟩
theorem LkOk.cancel {l : List En} {ts : List TxR} {hs ws u v : List G} {q : G → Bool} (k : LkOk l ts hs ws) (a : Left hs ws u v (fun _ => false) q) : LkOk l ts u v :=
  k.up a.tv (by have h := a.up; rwa [show hs.filter (fun g => !false) = hs from List.filter_eq_self.2 fun _ _ => rfl] at h) fun x hx => by
    rcases a.mem x hx with ⟨h, _⟩ | ⟨h, _⟩
    · exact k.own x (by simp [h])
    · exact k.own x (by simp [h])
theorem LkOk.drop {l : List En} {ts : List TxR} {hs ws u v : List G} {g : G} (k : LkOk l ts hs ws) (a : Left hs ws u v (fun x => (x.tx == g.tx) && sameLock x g) (fun _ => false)) (hn : ∀ x ∈ l, x.kind = 1 → x.tx = g.tx → ¬ (x.page = g.page ∧ x.slot = g.slot)) : LkOk l ts u v := by
  refine ⟨a.tv, fun x hx => ?_, fun t ht x hx hk he => ?_⟩
  · rcases a.mem x hx with ⟨h, _⟩ | ⟨h, _⟩
    · exact k.own x (by simp [h])
    · exact k.own x (by simp [h])
  · obtain ⟨y, hy, e1, e2, e3, e4⟩ := k.keep t ht x hx hk he
    have hf : y ∈ hs.filter fun x => !((x.tx == g.tx) && sameLock x g) := by
      refine List.mem_filter.2 ⟨hy, ?_⟩
      cases hc : (y.tx == g.tx) && sameLock y g with
      | false => rfl
      | true =>
        unfold sameLock at hc
        simp only [Bool.and_eq_true, beq_iff_eq] at hc
        exact absurd ⟨e2.symm.trans hc.2.1, e3.symm.trans hc.2.2⟩ (hn x hx hk (e1.symm.trans hc.1))
    obtain ⟨z, hz, f1, f2, f3, f4⟩ := a.up y hf
    exact ⟨z, hz, f1.trans e1, f2.trans e2, f3.trans e3, a.tv.two hz (by omega)⟩
theorem LkOk.release {l : List En} {ts : List TxR} {hs ws u v : List G} {tx : Int} (k : LkOk l ts hs ws) (a : Left hs ws u v (fun x => x.tx == tx) (fun x => x.tx == tx)) : LkOk l (rmT ts tx) u v := by
  refine ⟨a.tv, fun x hx => ?_, fun t ht x hx hk he => ?_⟩
  · have : x ∈ hs ++ ws ∧ x.tx ≠ tx := by
      rcases a.mem x hx with ⟨h, h2⟩ | ⟨h, h2⟩
      · exact ⟨by simp [h], by simpa using h2⟩
      · exact ⟨by simp [h], by simpa using h2⟩
    obtain ⟨⟨t, ht, e⟩, hp⟩ := k.own x this.1
    exact ⟨⟨t, List.mem_filter.2 ⟨ht, by simp only [bne_iff_ne, ne_eq]; rw [e]; exact this.2⟩, e⟩, hp⟩
  · obtain ⟨h1, h2⟩ := List.mem_filter.1 ht
    obtain ⟨y, hy, e1, e2, e3, e4⟩ := k.keep t h1 x hx hk he
    have hf : y ∈ hs.filter fun x => !(x.tx == tx) := List.mem_filter.2 ⟨hy, by
      have : y.tx ≠ tx := by rw [e1, he]; simpa using h2
      simpa using this⟩
    obtain ⟨z, hz, f1, f2, f3, f4⟩ := a.up y hf
    exact ⟨z, hz, f1.trans e1, f2.trans e2, f3.trans e3, a.tv.two hz (by omega)⟩
theorem LkOk.ids {l : List En} {ts ts' : List TxR} {hs ws : List G} (k : LkOk l ts hs ws) (e : ts'.map TxR.id = ts.map TxR.id) : LkOk l ts' hs ws :=
  ⟨k.tv, fun x hx => ⟨has_ids e (k.own x hx).1, (k.own x hx).2⟩, fun t ht x hx hk he => by
    obtain ⟨s, hs, e1⟩ := has_ids e.symm ⟨t, ht, rfl⟩
    exact k.keep s hs x hx hk (by rw [he, e1])⟩
theorem LkOk.begin {l : List En} {ts : List TxR} {hs ws : List G} {n : Int} (k : LkOk l ts hs ws) (h : TblOk l ts n) (hl : LogOk l) : LkOk l (ts ++ [newT (n + 1)]) hs ws :=
  ⟨k.tv, fun x hx => ⟨(k.own x hx).1.imp fun t h => ⟨by simp [h.1], h.2⟩, (k.own x hx).2⟩, fun t ht x hx hk he => by
    rcases List.mem_append.1 ht with ht | ht
    · exact k.keep t ht x hx hk he
    · obtain rfl := List.mem_singleton.1 ht
      obtain ⟨i, hi⟩ := List.getElem?_of_mem hx
      have r := hl.right hi
      have h0 : 0 < x.tx := by
        rcases r.2.2.2.2.2.2.2.2 with q | q | q
        · omega
        · omega
        · have := q.1; omega
      have := (h.all x hx h0).1
      have : x.tx = n + 1 := he
      omega⟩
theorem LkOk.entry {l : List En} {ts : List TxR} {hs ws : List G} {e : En} (k : LkOk l ts hs ws) (hk : e.kind ≠ 1) : LkOk (l ++ [e]) ts hs ws :=
  ⟨k.tv, k.own, fun t ht x hx h1 he => by
    rcases List.mem_append.1 hx with hx | hx
    · exact k.keep t ht x hx h1 he
    · obtain rfl := List.mem_singleton.1 hx
      exact absurd h1 hk⟩
theorem LkOk.change {l : List En} {ts : List TxR} {hs ws : List G} {e : En} (k : LkOk l ts hs ws) {y : G} (hy : y ∈ hs) (h1 : y.tx = e.tx) (h2 : y.page = e.page) (h3 : y.slot = e.slot) (h4 : 2 ≤ y.mode) : LkOk (l ++ [e]) ts hs ws :=
  ⟨k.tv, k.own, fun t ht x hx hk he => by
    rcases List.mem_append.1 hx with hx | hx
    · exact k.keep t ht x hx hk he
    · obtain rfl := List.mem_singleton.1 hx
      exact ⟨y, hy, h1, h2, h3, k.tv.two hy h4⟩⟩
theorem change_fits {l : List En} {ts : List TxR} {hs ws : List G} {n : Int} {t : TxR} {e : En} {y : G} (hl : LogOk l) (h : TblOk l ts n) (k : LkOk l ts hs ws) (ht : t ∈ ts) (ha : t.state = 1) (hr : EnR l.length e) (he : e.tx = t.id) (hp : e.ptx = t.last)
    (hpp : e.pp = lastPg l e.page) (hy : y ∈ hs) (h1 : y.tx = e.tx) (h2 : y.page = e.page) (h3 : y.slot = e.slot) : Fits l e :=
  ⟨hr, fun _ => ⟨by rw [hp, he]; exact (h.each t ht).last, fun x hx hxe => (h.each t ht).act ha x hx (hxe.trans he)⟩, fun _ => hpp,
    fun _ x hx hk hn e1 e2 => k.others h hl hy x hx hk (by rw [h1]; exact hn) (e1.trans h2.symm) (e2.trans h3.symm)⟩
theorem end_fits {l : List En} {ts : List TxR} {n : Int} {t : TxR} {e : En} (h : TblOk l ts n) (ht : t ∈ ts) (ha : t.state = 1) (hr : EnR l.length e) (he : e.tx = t.id) (hp : e.ptx = t.last) (hk : e.kind ≠ 1) : Fits l e :=
  ⟨hr, fun _ => ⟨by rw [hp, he]; exact (h.each t ht).last, fun x hx hxe => (h.each t ht).act ha x hx (hxe.trans he)⟩, fun h1 => absurd h1 hk, fun h1 => absurd h1 hk⟩
theorem index_fits {l : List En} {e : En} (hr : EnR l.length e) (hk : e.kind = 7) (h0 : e.tx = 0) : Fits l e :=
  ⟨hr, fun h => by omega, fun h => by omega, fun h => by omega⟩
theorem read_seen {l : List En} {ts : List TxR} {hs ws : List G} {n : Int} {y : G} (hl : LogOk l) (h : TblOk l ts n) (k : LkOk l ts hs ws) (hy : y ∈ hs) : seenF l y.page y.slot y.tx = lastCell l y.page y.slot :=
  seen_last fun x hx hk hn e1 e2 => k.others h hl hy x hx hk hn e1 e2
end Go.Proofs.YtgjindhjgmplgaaGreat.Wp
end
section
namespace Go.Proofs.YtgjindhjgmplgaaGreat.Wp
structure Pg where
  id : Int
  lsn : Int
  cells : List Cl
structure Fr where
  pg : Pg
  dirty : Bool
  rec_ : Int
  used : Bool
def validCl (c : Cl) : Bool := decide (c.2.size ≤ 12) && (c.1 || c.2.size == 0)
def cellB1 (lsn : Int) (c : Cl) : Bool := validCl c && !(c.1 && lsn == 0)
def placedB (p : Pg) : Bool := decide (0 ≤ p.id) && decide (p.id < 64) && decide (0 ≤ p.lsn) && decide (p.lsn ≤ 1099511627776)
def validPg (p : Pg) : Bool := placedB p && p.cells.all (cellB1 p.lsn)
def findFr (fs : List Fr) (id : Int) : Option Nat := fs.findIdx? fun f => f.pg.id == id
def recB (f : Fr) : Bool := if f.dirty then decide (1 ≤ f.rec_) && decide (f.rec_ ≤ f.pg.lsn) else f.rec_ == 0
def frAt (fs : List Fr) (i : Nat) : Bool := match fs[i]? with
  | some f => validPg f.pg && (findFr fs f.pg.id == some i) && recB f
  | none => true
def poolB (size hand : Int) (fs : List Fr) : Bool := decide (1 ≤ size) && decide (size ≤ 64) && decide ((fs.length : Int) ≤ size) && decide (0 ≤ hand) && decide (hand < max 1 (fs.length : Int)) && (List.range fs.length).all (frAt fs)
structure PgOk (l : List En) (p : Pg) : Prop where
  id0 : 0 ≤ p.id
  id3 : p.id < 3
  lsn : p.lsn = lastPg l p.id
  len : p.cells.length = 16
  cell : ∀ s : Nat, s < 16 → p.cells[s]? = some (cellOf l p.id s)
theorem emp_size {s : ByteArray} (h : s.size = 0) : s = ⟨#[]⟩ := by
  cases s with
  | mk d => rw [show d = #[] from Array.size_eq_zero_iff.1 h]
theorem vcl_b {c : Cl} (h : VCl c) : validCl c = true := by
  unfold validCl
  rw [Bool.and_eq_true, decide_eq_true_eq]
  refine ⟨h.1, ?_⟩
  cases hc : c.1 with
  | true => rfl
  | false => rw [h.2 hc]; rfl
theorem vcl_no : VCl noCl := ⟨by decide, fun _ => rfl⟩
theorem cellOf_ok {l : List En} (hl : LogOk l) (pg sl : Int) : VCl (cellOf l pg sl) ∧ (lastPg l pg = 0 → (cellOf l pg sl).1 = false) := by
  unfold cellOf
  cases h : lastCell l pg sl with
  | zero => exact ⟨vcl_no, fun _ => rfl⟩
  | succ n =>
    obtain ⟨x, hx, hp⟩ := lastBy_at (show lastBy (ofCell pg sl) l = n + 1 from h)
    simp only [ofCell, Bool.and_eq_true, beq_iff_eq] at hp
    have r := hl.right hx
    unfold cellAt
    simp only [hx]
    refine ⟨?_, fun h0 => ?_⟩
    · rcases r.2.2.2.2.2.2.2.2 with q | q | q
      · exact q.2.2.2.2.2.2.2
      · omega
      · omega
    · have := lastBy_zero (show lastBy (ofPg pg) l = 0 from h0) x (List.mem_of_getElem? hx)
      simp [ofPg, hp.1, hp.2.1] at this
theorem PgOk.valid {l : List En} {p : Pg} (h : PgOk l p) (hl : LogOk l) (hn : l.length ≤ 4096) : validPg p = true := by
  have hle := lastBy_le (ofPg p.id) l
  have e := h.lsn
  unfold lastPg at e
  have h0 := h.id0
  have h3 := h.id3
  unfold validPg placedB
  simp only [Bool.and_eq_true, decide_eq_true_eq, List.all_eq_true]
  refine ⟨⟨⟨⟨h0, by omega⟩, by omega⟩, by omega⟩, fun c hc => ?_⟩
  obtain ⟨s, hs⟩ := List.getElem?_of_mem hc
  have hs16 : s < 16 := by have := (List.getElem?_eq_some_iff.1 hs).1; rw [h.len] at this; exact this
  have := h.cell s hs16
  rw [hs] at this
  obtain rfl := Option.some.inj this
  obtain ⟨v, z⟩ := cellOf_ok hl p.id s
  unfold cellB1
  rw [vcl_b v, Bool.true_and]
  cases hz : (p.lsn == 0) with
  | false => simp
  | true =>
    have : p.lsn = 0 := by simpa using hz
    rw [z (by have := h.lsn; omega)]; rfl
theorem PgOk.entry {l : List En} {p : Pg} (h : PgOk l p) {e : En} (hn : ¬ (e.kind = 1 ∧ e.page = p.id)) : PgOk (l ++ [e]) p :=
  ⟨h.id0, h.id3, by rw [lastPg_snoc, if_neg hn]; exact h.lsn, h.len, fun s hs => by
    rw [cellOf_snoc, if_neg (fun k => hn ⟨k.1, k.2.1⟩)]; exact h.cell s hs⟩
theorem PgOk.change {l : List En} {p : Pg} (h : PgOk l p) {e : En} (hk : e.kind = 1) (hp : e.page = p.id) (h0 : 0 ≤ e.slot) (h1 : e.slot < 16) : PgOk (l ++ [e]) ⟨p.id, l.length + 1, p.cells.set e.slot.toNat e.a⟩ := by
  refine ⟨h.id0, h.id3, ?_, by simpa using h.len, fun s hs => ?_⟩
  · show (l.length : Int) + 1 = _
    rw [lastPg_snoc, if_pos ⟨hk, hp⟩]; simp
  · show (p.cells.set e.slot.toNat e.a)[s]? = some (cellOf (l ++ [e]) p.id s)
    rw [cellOf_snoc, List.getElem?_set]
    by_cases hq : e.slot.toNat = s
    · rw [if_pos hq, if_pos (show e.slot.toNat < p.cells.length by rw [h.len]; omega), if_pos ⟨hk, hp, by omega⟩]
    · rw [if_neg hq, if_neg (fun k => hq (by have := k.2.2; omega))]
      exact h.cell s hs
structure Rest (l : List En) (rows : List Int) (wr : List Pg) (id : Int) : Prop where
  row : rows[id.toNat]? = some (lastPg l id : Int)
  wr : ∃ p, wr[id.toNat]? = some p ∧ p.id = id ∧ PgOk l p
theorem Rest.entry {l : List En} {rows : List Int} {wr : List Pg} {id : Int} (h : Rest l rows wr id) {e : En} (hn : ¬ (e.kind = 1 ∧ e.page = id)) : Rest (l ++ [e]) rows wr id := by
  obtain ⟨p, h1, h2, h3⟩ := h.wr
  exact ⟨by rw [lastPg_snoc, if_neg hn]; exact h.row, p, h1, h2, h3.entry (by rw [h2]; exact hn)⟩
structure FrOk (l : List En) (rows : List Int) (wr : List Pg) (f : Fr) : Prop where
  pg : PgOk l f.pg
  dirty : f.dirty = true → 1 ≤ f.rec_ ∧ f.rec_ ≤ f.pg.lsn
  clean : f.dirty = false → f.rec_ = 0 ∧ Rest l rows wr f.pg.id
structure PoolOk (l : List En) (size hand : Int) (fs : List Fr) (rows : List Int) (wr : List Pg) : Prop where
  s1 : 1 ≤ size
  s3 : size ≤ 3
  len : (fs.length : Int) ≤ size
  h0 : 0 ≤ hand
  h1 : hand < max 1 (fs.length : Int)
  nd : (fs.map fun f => f.pg.id).Nodup
  each : ∀ f ∈ fs, FrOk l rows wr f
  out : ∀ id : Int, 0 ≤ id → id < 3 → (∀ f ∈ fs, f.pg.id ≠ id) → Rest l rows wr id
  rows3 : rows.length = 3
  rowsLe : ∀ (i : Nat) (r : Int), rows[i]? = some r → 0 ≤ r ∧ r ≤ lastPg l i
  wr3 : wr.length = 3
theorem findFr_at {fs : List Fr} (nd : (fs.map fun f => f.pg.id).Nodup) {i : Nat} {f : Fr} (h : fs[i]? = some f) : findFr fs f.pg.id = some i := by
  obtain ⟨hi, rfl⟩ := List.getElem?_eq_some_iff.1 h
  unfold findFr
  rw [List.findIdx?_eq_some_iff_getElem]
  refine ⟨hi, by simp, fun j hj => ?_⟩
  have := List.pairwise_iff_getElem.1 nd j i (by rw [List.length_map]; omega) (by rw [List.length_map]; exact hi) hj
  simpa using this
theorem findFr_none {fs : List Fr} {id : Int} (h : findFr fs id = none) : ∀ f ∈ fs, f.pg.id ≠ id := by
  unfold findFr at h
  rw [List.findIdx?_eq_none_iff] at h
  intro f hf
  simpa using h f hf
theorem findFr_some {fs : List Fr} {id : Int} {i : Nat} (h : findFr fs id = some i) : ∃ f, fs[i]? = some f ∧ f.pg.id = id := by
  unfold findFr at h
  rw [List.findIdx?_eq_some_iff_getElem] at h
  obtain ⟨hi, h1, _⟩ := h
  exact ⟨fs[i], List.getElem?_eq_getElem hi, by simpa using h1⟩
theorem PoolOk.valid {l : List En} {size hand : Int} {fs : List Fr} {rows : List Int} {wr : List Pg} (h : PoolOk l size hand fs rows wr) (hl : LogOk l) (hn : l.length ≤ 4096) : poolB size hand fs = true := by
  have a1 := h.s1
  have a2 := h.s3
  unfold poolB
  simp only [Bool.and_eq_true, decide_eq_true_eq, List.all_eq_true, List.mem_range]
  refine ⟨⟨⟨⟨⟨a1, by omega⟩, h.len⟩, h.h0⟩, h.h1⟩, fun i hi => ?_⟩
  have hf : fs[i]? = some fs[i] := List.getElem?_eq_getElem hi
  have ok := h.each fs[i] (List.getElem_mem hi)
  unfold frAt
  simp only [hf]
  rw [ok.pg.valid hl hn, findFr_at h.nd hf]
  unfold recB
  cases hd : fs[i].dirty with
  | true =>
    have := ok.dirty hd
    simp [this.1, this.2]
  | false =>
    have := (ok.clean hd).1
    simp [this]
theorem PoolOk.entry {l : List En} {size hand : Int} {fs : List Fr} {rows : List Int} {wr : List Pg} (h : PoolOk l size hand fs rows wr) {e : En} (hk : e.kind ≠ 1) : PoolOk (l ++ [e]) size hand fs rows wr :=
  ⟨h.s1, h.s3, h.len, h.h0, h.h1, h.nd, fun f hf => ⟨(h.each f hf).pg.entry (fun k => hk k.1), (h.each f hf).dirty, fun hd => ⟨((h.each f hf).clean hd).1, ((h.each f hf).clean hd).2.entry (fun k => hk k.1)⟩⟩,
    fun id a b c => (h.out id a b c).entry (fun k => hk k.1), h.rows3, fun i r hr => by rw [lastPg_snoc, if_neg (fun k => hk k.1)]; exact h.rowsLe i r hr, h.wr3⟩
theorem PoolOk.marks {l : List En} {size hand hand' : Int} {fs fs' : List Fr} {rows : List Int} {wr : List Pg} (h : PoolOk l size hand fs rows wr) (e : fs'.map (fun f => (f.pg, f.dirty, f.rec_)) = fs.map (fun f => (f.pg, f.dirty, f.rec_)))
    (h0 : 0 ≤ hand') (h1 : hand' < max 1 (fs'.length : Int)) : PoolOk l size hand' fs' rows wr := by
  have el : fs'.length = fs.length := by simpa using congrArg List.length e
  have eid : fs'.map (fun f => f.pg.id) = fs.map (fun f => f.pg.id) := by
    have := congrArg (List.map fun x : Pg × Bool × Int => x.1.id) e
    rw [List.map_map, List.map_map] at this
    exact this
  have back : ∀ f' ∈ fs', ∃ f ∈ fs, f.pg = f'.pg ∧ f.dirty = f'.dirty ∧ f.rec_ = f'.rec_ := fun f' hf' => by
    have : (f'.pg, f'.dirty, f'.rec_) ∈ fs'.map (fun f => (f.pg, f.dirty, f.rec_)) := List.mem_map.2 ⟨f', hf', rfl⟩
    rw [e] at this
    obtain ⟨f, hf, e2⟩ := List.mem_map.1 this
    simp only [Prod.mk.injEq] at e2
    exact ⟨f, hf, e2⟩
  refine ⟨h.s1, h.s3, by rw [el]; exact h.len, h0, h1, by rw [eid]; exact h.nd, fun f' hf' => ?_, fun id a b c => h.out id a b fun f hf => ?_, h.rows3, h.rowsLe, h.wr3⟩
  · obtain ⟨f, hf, e1, e2, e3⟩ := back f' hf'
    have o := h.each f hf
    refine ⟨e1 ▸ o.pg, fun hd => ?_, fun hd => ?_⟩
    · have := o.dirty (e2.trans hd); rw [e1, e3] at this; exact this
    · have := o.clean (e2.trans hd); rw [e1, e3] at this; exact this
  · have : f.pg.id ∈ fs.map (fun f => f.pg.id) := List.mem_map.2 ⟨f, hf, rfl⟩
    rw [← eid] at this
    obtain ⟨f', hf', e2⟩ := List.mem_map.1 this
    rw [← e2]; exact c f' hf'
end Go.Proofs.YtgjindhjgmplgaaGreat.Wp
end
section
namespace Go.Proofs.YtgjindhjgmplgaaGreat.Wp
section
variable {l : List En} {size hand : Int} {fs : List Fr} {rows : List Int} {wr : List Pg}
theorem id_inj (nd : (fs.map fun f => f.pg.id).Nodup) {i j : Nat} {f g : Fr} (hi : fs[i]? = some f) (hj : fs[j]? = some g) (e : f.pg.id = g.pg.id) : i = j := by
  have a := findFr_at nd hi
  have b := findFr_at nd hj
  rw [e, b] at a
  exact (Option.some.inj a).symm
theorem set_mem {α : Type} {l : List α} {i : Nat} {x y : α} (h : y ∈ l.set i x) : y = x ∨ ∃ j, j ≠ i ∧ l[j]? = some y := by
  obtain ⟨j, hj⟩ := List.getElem?_of_mem h
  rw [List.getElem?_set] at hj
  by_cases e : i = j
  · rw [if_pos e] at hj
    split at hj
    · exact .inl (Option.some.inj hj).symm
    · cases hj
  · rw [if_neg e] at hj
    exact .inr ⟨j, fun k => e k.symm, hj⟩
theorem map_set_same {α β : Type} {g : α → β} {l : List α} {i : Nat} {x y : α} (h : l[i]? = some x) (e : g y = g x) : (l.set i y).map g = l.map g := by
  rw [List.map_set]
  apply List.ext_getElem?
  intro j
  rw [List.getElem?_set]
  by_cases k : i = j
  · subst k
    rw [if_pos rfl, List.getElem?_map, h]
    have : i < (l.map g).length := by rw [List.length_map]; exact (List.getElem?_eq_some_iff.1 h).1
    simp [this, e]
    exact (List.getElem?_eq_some_iff.1 h).1
  · rw [if_neg k]
theorem PoolOk.change (h : PoolOk l size hand fs rows wr) {i : Nat} {f : Fr} (hf : fs[i]? = some f) {e : En} (hk : e.kind = 1) (hp : e.page = f.pg.id) (h0 : 0 ≤ e.slot) (h1 : e.slot < 16) :
    PoolOk (l ++ [e]) size hand (fs.set i ⟨⟨f.pg.id, l.length + 1, f.pg.cells.set e.slot.toNat e.a⟩, true, if f.dirty then f.rec_ else l.length + 1, true⟩) rows wr := by
  have hm := List.mem_of_getElem? hf
  have o := h.each f hm
  have ids : (fs.set i (⟨⟨f.pg.id, l.length + 1, f.pg.cells.set e.slot.toNat e.a⟩, true, if f.dirty then f.rec_ else l.length + 1, true⟩ : Fr)).map (fun f => f.pg.id) = fs.map fun f => f.pg.id := map_set_same hf rfl
  refine ⟨h.s1, h.s3, by rw [List.length_set]; exact h.len, h.h0, by rw [List.length_set]; exact h.h1, by rw [ids]; exact h.nd, fun g hg => ?_, fun id a b c => ?_, h.rows3, fun j r hr => ?_, h.wr3⟩
  · rcases set_mem hg with rfl | ⟨j, hj, hg⟩
    · refine ⟨o.pg.change hk hp h0 h1, fun _ => ?_, (fun hd => by cases hd)⟩
      show 1 ≤ (if f.dirty then f.rec_ else (l.length : Int) + 1) ∧ (if f.dirty then f.rec_ else (l.length : Int) + 1) ≤ (l.length : Int) + 1
      cases hd : f.dirty with
      | true =>
        have := o.dirty hd
        have h2 := o.pg.lsn
        have h3 := lastBy_le (ofPg f.pg.id) l
        unfold lastPg at h2
        simp only [if_true]
        omega
      | false => simp only [Bool.false_eq_true, if_false]; omega
    · have hn : ¬ (e.kind = 1 ∧ e.page = g.pg.id) := fun k => hj (id_inj h.nd hg hf (by rw [← k.2, hp]))
      have og := h.each g (List.mem_of_getElem? hg)
      exact ⟨og.pg.entry hn, og.dirty, fun hd => ⟨(og.clean hd).1, (og.clean hd).2.entry hn⟩⟩
  · have c' : ∀ g ∈ fs, g.pg.id ≠ id := fun g hg => by
      have : g.pg.id ∈ fs.map (fun f => f.pg.id) := List.mem_map.2 ⟨g, hg, rfl⟩
      rw [← ids] at this
      obtain ⟨g', hg', e2⟩ := List.mem_map.1 this
      rw [← e2]; exact c g' hg'
    exact (h.out id a b c').entry fun k => c' f hm (by rw [← hp, k.2])
  · obtain ⟨r0, r1⟩ := h.rowsLe j r hr
    refine ⟨r0, ?_⟩
    rw [lastPg_snoc]
    split
    · have := lastBy_le (ofPg j) l
      unfold lastPg at r1
      omega
    · exact r1
theorem PoolOk.put (h : PoolOk l size hand fs rows wr) {p : Pg} (hn : findFr fs p.id = none) (hs : (fs.length : Int) < size) (hw : wr[p.id.toNat]? = some p) (i0 : 0 ≤ p.id) (i3 : p.id < 3) : PoolOk l size hand (fs ++ [⟨p, false, 0, true⟩]) rows wr := by
  have none := findFr_none hn
  have R := h.out p.id i0 i3 none
  obtain ⟨q, q1, q2, q3⟩ := R.wr
  rw [hw] at q1
  obtain rfl := Option.some.inj q1
  have hh := h.h1
  refine ⟨h.s1, h.s3, by rw [List.length_append, List.length_singleton]; omega, h.h0, by rw [List.length_append, List.length_singleton]; omega, ?_, fun f hf => ?_, fun id a b c => h.out id a b fun f hf => c f (by simp [hf]), h.rows3, h.rowsLe, h.wr3⟩
  · rw [List.map_append, List.nodup_append]
    refine ⟨h.nd, by simp, fun a ha b hb => ?_⟩
    obtain ⟨f, hf, rfl⟩ := List.mem_map.1 ha
    simp only [List.map_cons, List.map_nil, List.mem_singleton] at hb
    rw [hb]; exact none f hf
  · rcases List.mem_append.1 hf with hf | hf
    · exact h.each f hf
    · obtain rfl := List.mem_singleton.1 hf
      exact ⟨q3, (fun k => by cases k), fun _ => ⟨rfl, R⟩⟩
theorem PoolOk.drop (h : PoolOk l size hand fs rows wr) {i : Nat} {f : Fr} (hf : fs[i]? = some f) (hd : f.dirty = false) {hand' : Int} (h0 : 0 ≤ hand') (h1 : hand' < max 1 ((fs.eraseIdx i).length : Int)) : PoolOk l size hand' (fs.eraseIdx i) rows wr := by
  have hsub : (fs.eraseIdx i).Sublist fs := List.eraseIdx_sublist ..
  refine ⟨h.s1, h.s3, by have := hsub.length_le; have := h.len; omega, h0, h1, h.nd.sublist (hsub.map _), fun g hg => h.each g (hsub.subset hg), fun id a b c => ?_, h.rows3, h.rowsLe, h.wr3⟩
  by_cases e : f.pg.id = id
  · subst e
    exact ((h.each f (List.mem_of_getElem? hf)).clean hd).2
  · refine h.out id a b fun g hg => ?_
    obtain ⟨j, hj⟩ := List.getElem?_of_mem hg
    by_cases k : j = i
    · subst k
      rw [hf] at hj
      obtain rfl := Option.some.inj hj
      exact e
    · refine c g ?_
      rw [List.mem_eraseIdx_iff_getElem?]
      exact ⟨j, k, hj⟩
theorem PoolOk.clean (h : PoolOk l size hand fs rows wr) {i : Nat} {f : Fr} (hf : fs[i]? = some f) {e : En} (hk : e.kind = 7) {r : Int} (hr : rows[f.pg.id.toNat]? = some r) :
    PoolOk (l ++ [e]) size hand (fs.set i { f with dirty := false, rec_ := 0 }) (rows.set f.pg.id.toNat (max r f.pg.lsn)) (wr.set f.pg.id.toNat f.pg) := by
  have hk' : e.kind ≠ 1 := by omega
  have hm := List.mem_of_getElem? hf
  have o := h.each f hm
  have i0 := o.pg.id0
  have i3 := o.pg.id3
  have rle := h.rowsLe _ _ hr
  have hto : ((f.pg.id.toNat : Nat) : Int) = f.pg.id := by omega
  rw [hto] at rle
  have hmax : max r f.pg.lsn = (lastPg l f.pg.id : Int) := by rw [o.pg.lsn]; omega
  have same : lastPg (l ++ [e]) f.pg.id = lastPg l f.pg.id := by rw [lastPg_snoc, if_neg (fun k => hk' k.1)]
  have ids : (fs.set i ({ f with dirty := false, rec_ := 0 } : Fr)).map (fun f => f.pg.id) = fs.map fun f => f.pg.id := map_set_same hf rfl
  have mine : Rest (l ++ [e]) (rows.set f.pg.id.toNat (max r f.pg.lsn)) (wr.set f.pg.id.toNat f.pg) f.pg.id := by
    refine ⟨?_, f.pg, ?_, rfl, o.pg.entry fun k => hk' k.1⟩
    · rw [List.getElem?_set_self (by rw [h.rows3]; omega), hmax, same]
    · rw [List.getElem?_set_self (by rw [h.wr3]; omega)]
  have keep : ∀ id : Int, 0 ≤ id → id ≠ f.pg.id → Rest l rows wr id → Rest (l ++ [e]) (rows.set f.pg.id.toNat (max r f.pg.lsn)) (wr.set f.pg.id.toNat f.pg) id := fun id a b R => by
    have R' := R.entry (e := e) fun k => hk' k.1
    have hne : f.pg.id.toNat ≠ id.toNat := by omega
    exact ⟨by rw [List.getElem?_set_ne hne]; exact R'.row, by rw [List.getElem?_set_ne hne]; exact R'.wr⟩
  refine ⟨h.s1, h.s3, by rw [List.length_set]; exact h.len, h.h0, by rw [List.length_set]; exact h.h1, by rw [ids]; exact h.nd, fun g hg => ?_, fun id a b c => ?_, by rw [List.length_set]; exact h.rows3, fun j x hx => ?_, by rw [List.length_set]; exact h.wr3⟩
  · rcases set_mem hg with rfl | ⟨j, hj, hg⟩
    · exact ⟨o.pg.entry fun k => hk' k.1, (fun hd => by cases hd), fun _ => ⟨rfl, mine⟩⟩
    · have og := h.each g (List.mem_of_getElem? hg)
      exact ⟨og.pg.entry fun k => hk' k.1, og.dirty, fun hd => ⟨(og.clean hd).1, keep _ og.pg.id0 (fun k => hj (id_inj h.nd hg hf k)) (og.clean hd).2⟩⟩
  · have c' : ∀ g ∈ fs, g.pg.id ≠ id := fun g hg => by
      have : g.pg.id ∈ fs.map (fun f => f.pg.id) := List.mem_map.2 ⟨g, hg, rfl⟩
      rw [← ids] at this
      obtain ⟨g', hg', e2⟩ := List.mem_map.1 this
      rw [← e2]; exact c g' hg'
    exact keep id a (fun k => c' f hm k.symm) (h.out id a b c')
  · rw [List.getElem?_set] at hx
    rw [lastPg_snoc, if_neg (fun k => hk' k.1)]
    split at hx
    · rename_i k
      subst k
      split at hx
      · obtain rfl := Option.some.inj hx
        rw [hto, hmax]
        exact ⟨by omega, Int.le_refl _⟩
      · cases hx
    · exact h.rowsLe j x hx
end
end Go.Proofs.YtgjindhjgmplgaaGreat.Wp
end
section
namespace Go.Proofs.YtgjindhjgmplgaaGreat.Wp
theorem pendF_mem {l : List En} {tx : Int} {x : Nat} : x ∈ pendF l tx ↔ ∃ i e, x = i + 1 ∧ l[i]? = some e ∧ e.kind = 1 ∧ e.tx = tx := by
  unfold pendF
  rw [List.mem_filterMap]
  constructor
  · rintro ⟨i, hi, h⟩
    cases he : l[i]? with
    | none => rw [he] at h; cases h
    | some e =>
      rw [he] at h
      simp only at h
      split at h
      · rename_i hk
        exact ⟨i, e, (Option.some.inj h).symm, he, hk.1, hk.2⟩
      · cases h
  · rintro ⟨i, e, rfl, he, hk, ht⟩
    exact ⟨i, List.mem_range.2 (List.getElem?_eq_some_iff.1 he).1, by simp only [he]; rw [if_pos ⟨hk, ht⟩]⟩
theorem lastBy_ge {p : En → Bool} : ∀ {l : List En} {i : Nat} {e : En}, l[i]? = some e → p e = true → i + 1 ≤ lastBy p l
  | [], i, e, h, _ => by simp at h
  | y :: l, 0, e, h, hp => by
    simp only [List.getElem?_cons_zero, Option.some.injEq] at h
    subst h
    simp only [lastBy]
    split <;> simp_all
  | y :: l, i + 1, e, h, hp => by
    have := lastBy_ge (l := l) (i := i) (by simpa using h) hp
    simp only [lastBy]
    rw [if_pos (by omega)]
    omega
theorem pendF_le {l : List En} {tx : Int} {x : Nat} (h : x ∈ pendF l tx) : 1 ≤ x ∧ x ≤ lastTx l tx := by
  obtain ⟨i, e, rfl, he, _, ht⟩ := pendF_mem.1 h
  exact ⟨by omega, lastBy_ge he (by simp [ofTx, ht])⟩
theorem pendF_srt (l : List En) (tx : Int) : (pendF l tx).Pairwise (· < ·) := by
  unfold pendF
  rw [List.pairwise_filterMap]
  refine (List.pairwise_lt_range (n := l.length)).imp fun {a b} hab => ?_
  intro x hx y hy
  have e1 : x = a + 1 := by
    cases h : l[a]? with
    | none => rw [h] at hx; cases hx
    | some e =>
      rw [h] at hx; simp only at hx; split at hx
      · exact (Option.some.inj hx).symm
      · cases hx
  have e2 : y = b + 1 := by
    cases h : l[b]? with
    | none => rw [h] at hy; cases hy
    | some e =>
      rw [h] at hy; simp only at hy; split at hy
      · exact (Option.some.inj hy).symm
      · cases hy
  omega
theorem pendF_len (l : List En) (tx : Int) : (pendF l tx).length ≤ l.length := by
  unfold pendF
  exact Nat.le_trans (List.length_filterMap_le _ _) (by rw [List.length_range]; exact Nat.le_refl _)
theorem TxOk.pendOk {l : List En} {n : Int} {t : TxR} (h : TxOk l n t) : t.pend.Pairwise (· < ·) ∧ (∀ x ∈ t.pend, 1 ≤ x ∧ x ≤ t.last) ∧ t.pend.length ≤ l.length := by
  rw [h.pend]
  refine ⟨?_, fun x hx => ?_, by rw [List.length_map]; exact pendF_len _ _⟩
  · rw [List.pairwise_map]
    exact (pendF_srt l t.id).imp fun {a b} k => by show (a : Int) < (b : Int); omega
  · obtain ⟨y, hy, rfl⟩ := List.mem_map.1 hx
    have := pendF_le hy
    rw [h.last]
    show 1 ≤ (y : Int) ∧ (y : Int) ≤ _
    omega
theorem TxOk.pendAt {l : List En} {n : Int} {t : TxR} (h : TxOk l n t) {x : Int} (hx : x ∈ t.pend) : ∃ (i : Nat) (e : En), x = (i : Int) + 1 ∧ l[i]? = some e ∧ e.kind = 1 ∧ e.tx = t.id := by
  rw [h.pend] at hx
  obtain ⟨y, hy, rfl⟩ := List.mem_map.1 hx
  obtain ⟨i, e, rfl, he, hk, ht⟩ := pendF_mem.1 hy
  exact ⟨i, e, by show ((i + 1 : Nat) : Int) = _; omega, he, hk, ht⟩
theorem TxOk.pendAll {l : List En} {n : Int} {t : TxR} (h : TxOk l n t) {x : En} (hx : x ∈ l) (hk : x.kind = 1) (ht : x.tx = t.id) : ∃ (i : Nat), l[i]? = some x ∧ (i : Int) + 1 ∈ t.pend := by
  obtain ⟨i, hi⟩ := List.getElem?_of_mem hx
  refine ⟨i, hi, ?_⟩
  rw [h.pend]
  exact List.mem_map.2 ⟨i + 1, pendF_mem.2 ⟨i, x, rfl, hi, hk, ht⟩, by show ((i + 1 : Nat) : Int) = _; omega⟩
theorem TblOk.len {l : List En} {ts : List TxR} {n : Int} (h : TblOk l ts n) (h0 : 0 ≤ n) : (ts.length : Int) ≤ n := by
  have nd : (ts.map TxR.id).Nodup := by
    unfold List.Nodup
    rw [List.pairwise_map]
    exact h.srt.imp fun {a b} k => by omega
  have := nodup_le (ts.map TxR.id) ((List.range n.toNat).map fun (i : Nat) => (i : Int) + 1) nd fun x hx => by
    obtain ⟨t, ht, rfl⟩ := List.mem_map.1 hx
    have a := (h.each t ht).id0
    have b := (h.each t ht).id1
    exact List.mem_map.2 ⟨(t.id - 1).toNat, List.mem_range.2 (by omega), by omega⟩
  simp only [List.length_map, List.length_range] at this
  omega
def Blk (hs ws : List G) : Prop := ∀ g ∈ ws, ∃ b, b ∈ blockF hs ws g.tx
theorem asked_blk {hs ws u v : List G} {g : G} {o : Bool} (hb : Blk hs ws) (e : reqF hs ws g = some (u, v, o)) : Blk u v := by
  unfold reqF at e
  split at e
  · rename_i hv
    rw [Bool.and_eq_true] at hv
    obtain ⟨hv1, hv2⟩ := hv
    have t := TV.of hv1
    split at e
    · split at e
      · cases e; exact hb
      · cases e
    · rename_i hf
      split at e
      · cases e; exact hb
      · rename_i hm
        split at e
        · cases e
        · cases e
          have t2 : TV hs (ws.take (placeF hs ws g) ++ g :: ws.drop (placeF hs ws g)) := TV.ins (by rw [List.take_append_drop]; exact t) hv2 (by omega) fun x hx => by
            rw [List.take_append_drop] at hx
            simpa using List.find?_eq_none.1 hf x hx
          exact fun x hx => settle_blocked t2 hx
  · cases e
theorem left_blk {hs ws : List G} (t : TV hs ws) (hv : validT hs ws = true) (p q : G → Bool) : Blk (withoutF p q hs ws).1 (withoutF p q hs ws).2 := by
  unfold withoutF
  rw [if_pos hv]
  exact fun x hx => settle_blocked (t.filter _ _) hx
structure KV where
  n : Int
  l : List En
  dur : Int
  size : Int
  hand : Int
  fs : List Fr
  hs : List G
  ws : List G
  ts : List TxR
  rows : List Int
structure KInv (k : KV) (wr : List Pg) : Prop where
  n0 : 0 ≤ k.n
  n12 : k.n ≤ 12
  log : LogOk k.l
  d0 : 0 ≤ k.dur
  d1 : k.dur ≤ k.l.length
  tbl : TblOk k.l k.ts k.n
  lk : LkOk k.l k.ts k.hs k.ws
  blk : Blk k.hs k.ws
  pool : PoolOk k.l k.size k.hand k.fs k.rows wr
theorem KInv.validT {k : KV} {wr : List Pg} (h : KInv k wr) : validT k.hs k.ws = true := h.lk.tv.ok (h.lk.len h.tbl h.n12)
theorem KInv.begin {k : KV} {wr : List Pg} (h : KInv k wr) (hn : k.n < 12) : KInv { k with n := k.n + 1, ts := k.ts ++ [newT (k.n + 1)] } wr :=
  ⟨by have := h.n0; show 0 ≤ k.n + 1; omega, by show k.n + 1 ≤ 12; omega, h.log, h.d0, h.d1, h.tbl.begin h.n0, h.lk.begin h.tbl h.log, h.blk, h.pool⟩
theorem KInv.request {k : KV} {wr : List Pg} (h : KInv k wr) {g : G} {u v : List G} {o : Bool} (e : reqF k.hs k.ws g = some (u, v, o)) (hg : ∃ t ∈ k.ts, t.id = g.tx) (hp : g.page < 3) : KInv { k with hs := u, ws := v } wr :=
  ⟨h.n0, h.n12, h.log, h.d0, h.d1, h.tbl, h.lk.request (asked e) hg hp, asked_blk h.blk e, h.pool⟩
theorem KInv.cancel {k : KV} {wr : List Pg} (h : KInv k wr) (tx : Int) : KInv { k with hs := (cancelF tx k.hs k.ws).1, ws := (cancelF tx k.hs k.ws).2 } wr :=
  ⟨h.n0, h.n12, h.log, h.d0, h.d1, h.tbl, h.lk.cancel (left_of h.lk.tv h.validT _ _), left_blk h.lk.tv h.validT _ _, h.pool⟩
theorem KInv.drop {k : KV} {wr : List Pg} (h : KInv k wr) {g : G} (hn : ∀ x ∈ k.l, x.kind = 1 → x.tx = g.tx → ¬ (x.page = g.page ∧ x.slot = g.slot)) : KInv { k with hs := (dropF g k.hs k.ws).1, ws := (dropF g k.hs k.ws).2 } wr :=
  ⟨h.n0, h.n12, h.log, h.d0, h.d1, h.tbl, h.lk.drop (left_of h.lk.tv h.validT _ _) hn, left_blk h.lk.tv h.validT _ _, h.pool⟩
theorem KInv.gone {k : KV} {wr : List Pg} (h : KInv k wr) {t : TxR} (ht : t ∈ k.ts) (h0 : t.last = 0) : KInv { k with ts := rmT k.ts t.id, hs := (releaseF t.id k.hs k.ws).1, ws := (releaseF t.id k.hs k.ws).2 } wr :=
  ⟨h.n0, h.n12, h.log, h.d0, h.d1, h.tbl.gone ht h0, h.lk.release (left_of h.lk.tv h.validT _ _), left_blk h.lk.tv h.validT _ _, h.pool⟩
theorem len_snoc (l : List En) (e : En) : ((l ++ [e]).length : Int) = l.length + 1 := by rw [List.length_append, List.length_singleton]; omega
theorem KInv.commit {k : KV} {wr : List Pg} (h : KInv k wr) {t : TxR} (ht : t ∈ k.ts) (ha : t.state = 1) {e : En} (hr : EnR k.l.length e) (hk : e.kind = 3) (he : e.tx = t.id) (hp : e.ptx = t.last) :
    KInv { k with l := k.l ++ [e], dur := k.l.length + 1, ts := rmT k.ts t.id, hs := (releaseF t.id k.hs k.ws).1, ws := (releaseF t.id k.hs k.ws).2 } wr :=
  ⟨h.n0, h.n12, h.log.snoc (end_fits h.tbl ht ha hr he hp (by omega)), (by show (0 : Int) ≤ k.l.length + 1; omega), (by show (k.l.length : Int) + 1 ≤ ((k.l ++ [e]).length : Int); rw [len_snoc]; omega), h.tbl.commit ht hk he,
    (h.lk.release (left_of h.lk.tv h.validT _ _)).entry (by omega), left_blk h.lk.tv h.validT _ _, h.pool.entry (by omega)⟩
theorem KInv.abort {k : KV} {wr : List Pg} (h : KInv k wr) {t : TxR} (ht : t ∈ k.ts) (ha : t.state = 1) {e : En} (hr : EnR k.l.length e) (hk : e.kind = 4) (he : e.tx = t.id) (hp : e.ptx = t.last) :
    KInv { k with l := k.l ++ [e], ts := setT k.ts { t with state := 3, last := k.l.length + 1, saves := [] } } wr :=
  ⟨h.n0, h.n12, h.log.snoc (end_fits h.tbl ht ha hr he hp (by omega)), h.d0, (by have := h.d1; show k.dur ≤ ((k.l ++ [e]).length : Int); rw [len_snoc]; omega), h.tbl.abort ht hk he, (h.lk.entry (by omega)).ids (setT_ids _ _), h.blk, h.pool.entry (by omega)⟩
theorem KInv.save {k : KV} {wr : List Pg} (h : KInv k wr) {t : TxR} (ht : t ∈ k.ts) (h8 : t.saves.length < 8) : KInv { k with ts := setT k.ts { t with saves := t.saves ++ [t.last] } } wr :=
  ⟨h.n0, h.n12, h.log, h.d0, h.d1, h.tbl.save ht h8, h.lk.ids (setT_ids _ _), h.blk, h.pool⟩
theorem KInv.write {k : KV} {wr : List Pg} (h : KInv k wr) {t : TxR} (ht : t ∈ k.ts) (ha : t.state = 1) {e : En} (hr : EnR k.l.length e) (hk : e.kind = 1) (he : e.tx = t.id) (hp : e.ptx = t.last) {i : Nat} {f : Fr} (hf : k.fs[i]? = some f) (hpg : e.page = f.pg.id) (hpp : e.pp = f.pg.lsn)
    {y : G} (hy : y ∈ k.hs) (h1 : y.tx = e.tx) (h2 : y.page = e.page) (h3 : y.slot = e.slot) (h4 : 2 ≤ y.mode) :
    KInv { k with l := k.l ++ [e], ts := setT k.ts { t with last := k.l.length + 1, pend := t.pend ++ [(k.l.length + 1 : Int)] }, fs := k.fs.set i ⟨⟨f.pg.id, k.l.length + 1, f.pg.cells.set e.slot.toNat e.a⟩, true, if f.dirty then f.rec_ else k.l.length + 1, true⟩ } wr := by
  have sl : 0 ≤ e.slot ∧ e.slot < 16 := by
    rcases hr.2.2.2.2.2.2.2.2 with q | q | q
    · exact ⟨q.2.2.2.2.1, q.2.2.2.2.2.1⟩
    · omega
    · omega
  have fp := (h.pool.each f (List.mem_of_getElem? hf)).pg
  exact ⟨h.n0, h.n12, h.log.snoc (change_fits h.log h.tbl h.lk ht ha hr he hp (by rw [hpp, fp.lsn, hpg]) hy h1 h2 h3), h.d0, (by have := h.d1; show k.dur ≤ ((k.l ++ [e]).length : Int); rw [len_snoc]; omega), h.tbl.change ht hk he, (h.lk.change hy h1 h2 h3 h4).ids (setT_ids _ _), h.blk, h.pool.change hf hk hpg sl.1 sl.2⟩
theorem KInv.marks {k : KV} {wr : List Pg} (h : KInv k wr) {fs' : List Fr} {hand' dur' : Int} (e : fs'.map (fun f => (f.pg, f.dirty, f.rec_)) = k.fs.map (fun f => (f.pg, f.dirty, f.rec_))) (h0 : 0 ≤ hand') (h1 : hand' < max 1 (fs'.length : Int)) (d0 : 0 ≤ dur') (d1 : dur' ≤ k.l.length) : KInv { k with fs := fs', hand := hand', dur := dur' } wr :=
  ⟨h.n0, h.n12, h.log, d0, d1, h.tbl, h.lk, h.blk, h.pool.marks e h0 h1⟩
theorem KInv.put {k : KV} {wr : List Pg} (h : KInv k wr) {p : Pg} (hn : findFr k.fs p.id = none) (hs : (k.fs.length : Int) < k.size) (hw : wr[p.id.toNat]? = some p) (i0 : 0 ≤ p.id) (i3 : p.id < 3) : KInv { k with fs := k.fs ++ [⟨p, false, 0, true⟩] } wr :=
  ⟨h.n0, h.n12, h.log, h.d0, h.d1, h.tbl, h.lk, h.blk, h.pool.put hn hs hw i0 i3⟩
theorem KInv.evict {k : KV} {wr : List Pg} (h : KInv k wr) {i : Nat} {f : Fr} (hf : k.fs[i]? = some f) (hd : f.dirty = false) {hand' : Int} (h0 : 0 ≤ hand') (h1 : hand' < max 1 ((k.fs.eraseIdx i).length : Int)) : KInv { k with fs := k.fs.eraseIdx i, hand := hand' } wr :=
  ⟨h.n0, h.n12, h.log, h.d0, h.d1, h.tbl, h.lk, h.blk, h.pool.drop hf hd h0 h1⟩
theorem KInv.written {k : KV} {wr : List Pg} (h : KInv k wr) {i : Nat} {f : Fr} (hf : k.fs[i]? = some f) {e : En} (hr : EnR k.l.length e) (hk : e.kind = 7) (h0 : e.tx = 0) {r : Int} (hr2 : k.rows[f.pg.id.toNat]? = some r) :
    KInv { k with l := k.l ++ [e], fs := k.fs.set i { f with dirty := false, rec_ := 0 }, rows := k.rows.set f.pg.id.toNat (max r f.pg.lsn) } (wr.set f.pg.id.toNat f.pg) :=
  ⟨h.n0, h.n12, h.log.snoc (index_fits hr hk h0), h.d0, (by have := h.d1; show k.dur ≤ ((k.l ++ [e]).length : Int); rw [len_snoc]; omega), h.tbl.index h0, h.lk.entry (by omega), h.blk, h.pool.clean hf hk hr2⟩
theorem KInv.new (size : Int) (h1 : 1 ≤ size) (h3 : size ≤ 3) : KInv ⟨0, [], 0, size, 0, [], [], [], [], [0, 0, 0]⟩ [⟨0, 0, List.replicate 16 noCl⟩, ⟨1, 0, List.replicate 16 noCl⟩, ⟨2, 0, List.replicate 16 noCl⟩] := by
  have pg : ∀ i : Int, 0 ≤ i → i < 3 → PgOk [] ⟨i, 0, List.replicate 16 noCl⟩ := fun i a b => ⟨a, b, rfl, rfl, fun s hs => by
    rw [List.getElem?_replicate, if_pos hs]; rfl⟩
  have z : (0 : Int) ≤ 0 := Int.le_refl _
  refine ⟨z, (by decide : (0 : Int) ≤ 12), LogOk.nil, z, z, TblOk.nil, LkOk.nil, fun g hg => (by cases hg), h1, h3, (by show (0 : Int) ≤ size; omega), z, (by decide : (0 : Int) < max 1 0), List.Pairwise.nil, fun f hf => (by cases hf), fun id a b c => ?_, rfl, fun i r hr => ?_, rfl⟩
  · have : id = 0 ∨ id = 1 ∨ id = 2 := by omega
    rcases this with rfl | rfl | rfl
    · exact ⟨rfl, _, rfl, rfl, pg _ (by decide) (by decide)⟩
    · exact ⟨rfl, _, rfl, rfl, pg _ (by decide) (by decide)⟩
    · exact ⟨rfl, _, rfl, rfl, pg _ (by decide) (by decide)⟩
  · have : r = 0 := by
      match i, hr with
      | 0, hr => exact (Option.some.inj hr).symm
      | 1, hr => exact (Option.some.inj hr).symm
      | 2, hr => exact (Option.some.inj hr).symm
      | i + 3, hr => cases hr
    subst this
    exact ⟨Int.le_refl _, by show (0 : Int) ≤ _; omega⟩
theorem KInv.read {k : KV} {wr : List Pg} (h : KInv k wr) {y : G} (hy : y ∈ k.hs) {f : Fr} (hf : f ∈ k.fs) (hp : f.pg.id = y.page) (h0 : 0 ≤ y.slot) (h1 : y.slot < 16) :
    f.pg.cells[y.slot.toNat]? = some (cellAt k.l (seenF k.l y.page y.slot y.tx)) := by
  have c := (h.pool.each f hf).pg.cell y.slot.toNat (by omega)
  rw [c, read_seen h.log h.tbl h.lk hy, hp, show ((y.slot.toNat : Nat) : Int) = y.slot by omega]
  rfl
end Go.Proofs.YtgjindhjgmplgaaGreat.Wp
end
