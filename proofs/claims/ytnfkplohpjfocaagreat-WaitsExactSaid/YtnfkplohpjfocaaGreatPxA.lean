/-
  What settles, in one pass: the program's rounds and the reference's give the same. No function of the program is named here.
-/
import Derived.Test.YtnfkplohpjfocaaGreatPlA
import Derived.Test.YtnfkplohpjfocaaGreatCyA
set_option linter.unusedVariables false
set_option linter.unusedSimpArgs false
namespace Go.Proofs.YtnfkplohpjfocaaGreat
def bl (hs p : List G) (g : G) : Bool := (hs ++ p).any fun x => conflictB x g
def scanF : List G → List G → List G → List G × List G
  | hs, p, [] => (hs, p)
  | hs, p, g :: s => if bl hs p g then scanF hs (p ++ [g]) s else scanF (putF g hs) p s
def AllB (hs p : List G) : Prop := ∀ a x b, p = a ++ x :: b → bl hs a x = true
theorem AllB.nil (hs : List G) : AllB hs [] := fun a x b e => by cases a <;> cases e
theorem AllB.snoc {hs p : List G} {g : G} (h : AllB hs p) (hb : bl hs p g = true) : AllB hs (p ++ [g]) := by
  intro a x b e
  rcases List.append_eq_append_iff.1 e with ⟨c, e1, e2⟩ | ⟨c, e1, e2⟩
  · cases c with
    | nil => simp at e1 e2; obtain ⟨rfl, rfl⟩ := e2; rw [e1]; exact hb
    | cons y c =>
      simp at e2
  · cases c with
    | nil => simp at e1 e2; obtain ⟨rfl, rfl⟩ := e2; rw [← e1]; exact hb
    | cons y c =>
      simp at e2
      obtain ⟨rfl, e3⟩ := e2
      exact h a x c e1
theorem scan_all {hs : List G} (s : List G) : ∀ (p q : List G), (∀ a x b, p = a ++ x :: b → bl hs (q ++ a) x = true) → scanF hs q (p ++ s) = scanF hs (q ++ p) s
  | [], q, _ => by simp
  | g :: p, q, h => by
    have h0 := h [] g p rfl
    simp only [List.append_nil] at h0
    rw [List.cons_append]
    conv => lhs; unfold scanF
    rw [if_pos h0, scan_all s p (q ++ [g]) fun a x b e => by
      have := h (g :: a) x b (by rw [e]; rfl)
      simpa using this]
    simp
theorem scan_from {hs p : List G} (h : AllB hs p) (s : List G) : scanF hs [] (p ++ s) = scanF hs p s := by
  have := scan_all s p [] (fun a x b e => by simpa using h a x b e)
  simpa using this
theorem putF_keep {g y : G} : ∀ {hs : List G}, y ∈ hs → y ∈ putF g hs ∨ ordI y g = 0
  | x :: l, h => by
    unfold putF
    split
    · rcases List.mem_cons.1 h with rfl | h
      · exact .inl (by simp)
      · rcases putF_keep (g := g) h with k | k
        · exact .inl (by simp [k])
        · exact .inr k
    · split
      · rename_i e
        rcases List.mem_cons.1 h with rfl | h
        · exact .inr e
        · exact .inl (by simp [h])
      · exact .inl (by simp; simpa using Or.inr h)
theorem putF_self {g : G} : ∀ hs : List G, g ∈ putF g hs
  | [] => by simp [putF]
  | x :: l => by
    unfold putF
    split
    · simp [putF_self l]
    · split <;> simp
/-- what is moved leaves blocked what stands ahead of it -/
theorem AllB.move {hs p s : List G} {g : G} (t : TV hs (p ++ g :: s)) (h : AllB hs p) (hb : bl hs p g = false) : AllB (putF g hs) p := by
  intro a x b e
  have h1 := h a x b e
  unfold bl at h1 hb ⊢
  rw [List.any_eq_true] at h1 ⊢
  rw [List.any_eq_false] at hb
  obtain ⟨y, hy, hc⟩ := h1
  rcases List.mem_append.1 hy with hy | hy
  · rcases putF_keep (g := g) hy with k | k
    · exact ⟨y, by simp [k], hc⟩
    · exfalso
      have hm := (t.vw g (by simp)).2
      rw [modeF_of t.srt hy (sk_iff.2 (ordI_z.1 k))] at hm
      have hy1 := validG_mode (t.vh y hy)
      have hg1 := validG_mode (t.vw g (by simp)).1
      have hx : x ∈ p := by rw [e]; simp
      have hn := hb x (by simp [hx])
      have kz := ordI_z.1 k
      apply hn
      unfold conflictB sameLock at hc ⊢
      simp only [Bool.and_eq_true, Bool.or_eq_true, bne_iff_ne, beq_iff_eq] at hc ⊢
      obtain ⟨⟨c1, c2, c3⟩, c4⟩ := hc
      exact ⟨⟨by omega, by omega, by omega⟩, by omega⟩
  · exact ⟨y, by simp [hy], hc⟩
theorem scan_blocked : ∀ (s hs p : List G), TV hs (p ++ s) → AllB hs p → AllB (scanF hs p s).1 (scanF hs p s).2
  | [], hs, p, _, h => h
  | g :: s, hs, p, t, h => by
    unfold scanF
    cases hb : bl hs p g with
    | true => exact scan_blocked s hs (p ++ [g]) (by simpa using t) (h.snoc hb)
    | false =>
      simp only [Bool.false_eq_true, if_false]
      refine scan_blocked s (putF g hs) p (t.step fun x hx => ?_) (h.move t hb)
      unfold bl at hb
      rw [List.any_eq_false] at hb
      simpa using hb x hx
theorem bl_at {hs p s : List G} {g : G} : blockedB hs (p ++ g :: s) p.length = bl hs p g := by
  unfold blockedB bl
  simp [List.any_append]
theorem pass_scan : ∀ (s hs p : List G) (c : Bool), (passF s.length hs (p ++ s) p.length c).1 = (scanF hs p s).1 ∧ (passF s.length hs (p ++ s) p.length c).2.1 = (scanF hs p s).2 ∧ ((passF s.length hs (p ++ s) p.length c).2.2 = false → c = false ∧ scanF hs p s = (hs, p ++ s))
  | [], hs, p, c => by simp [passF, scanF]
  | g :: s, hs, p, c => by
    have hget : (p ++ g :: s)[p.length]? = some g := by simp
    rw [List.length_cons]
    unfold passF
    rw [hget]
    simp only [bl_at]
    unfold scanF
    cases hb : bl hs p g with
    | true =>
      have ih := pass_scan s hs (p ++ [g]) c
      have e : (p ++ [g]) ++ s = p ++ g :: s := by simp
      rw [e, List.length_append, List.length_singleton] at ih
      simpa using ih
    | false =>
      have ih := pass_scan s (putF g hs) p true
      have e : (p ++ g :: s).eraseIdx p.length = p ++ s := by
        rw [List.eraseIdx_append_of_length_le (Nat.le_refl _)]
        simp
      simp only [e, Bool.false_eq_true, if_false]
      exact ⟨ih.1, ih.2.1, fun h => by have := (ih.2.2 h).1; cases this⟩
theorem pass_same : ∀ (s hs p : List G) (c : Bool), (∀ a x b, s = a ++ x :: b → bl hs (p ++ a) x = true) → passF s.length hs (p ++ s) p.length c = (hs, p ++ s, c)
  | [], hs, p, c, _ => by simp [passF]
  | g :: s, hs, p, c, h => by
    have h0 := h [] g s rfl
    simp only [List.append_nil] at h0
    have hget : (p ++ g :: s)[p.length]? = some g := by simp
    rw [List.length_cons]
    unfold passF
    rw [hget]
    simp only [bl_at, h0, if_true]
    have ih := pass_same s hs (p ++ [g]) c fun a x b e => by
      have := h (g :: a) x b (by rw [e]; rfl)
      simpa using this
    have e : (p ++ [g]) ++ s = p ++ g :: s := by simp
    rw [e, List.length_append, List.length_singleton] at ih
    exact ih
/-- settling is one pass -/
theorem settle_scan {hs ws : List G} (t : TV hs ws) : settle hs ws = scanF hs [] ws := by
  have hp := pass_scan ws hs [] false
  simp only [List.nil_append, List.length_nil] at hp
  obtain ⟨h1, h2, h3⟩ := hp
  unfold settle settleF
  cases hc : (passF ws.length hs ws 0 false).2.2 with
  | false =>
    simp only [Bool.false_eq_true, if_false]
    rw [h1, h2]
  | true =>
    simp only [if_true]
    rw [h1, h2]
    have hpos : 0 < ws.length := by
      cases ws with
      | nil => simp [passF] at hc
      | cons x l => simp
    obtain ⟨n, hn⟩ : ∃ n, ws.length = n + 1 := ⟨ws.length - 1, by omega⟩
    rw [hn]
    have hall := scan_blocked ws hs [] (by simpa using t) (AllB.nil hs)
    have hs2 := pass_same (scanF hs [] ws).2 (scanF hs [] ws).1 [] false (fun a x b e => by simpa using hall a x b e)
    simp only [List.nil_append, List.length_nil] at hs2
    unfold settleF
    rw [hs2]
    simp
/-- where the reference's loop stands -/
structure RSInv (R : List G × List G) (hs ws : List G) (i : Nat) : Prop where
  tv : TV hs ws
  le : i ≤ ws.length
  all : AllB hs (ws.take i)
  eq : R = scanF hs (ws.take i) (ws.drop i)
theorem RSInv.start {hs ws : List G} (t : TV hs ws) : RSInv (settle hs ws) hs ws 0 := ⟨t, Nat.zero_le _, by simpa using AllB.nil hs, by simpa using settle_scan t⟩
theorem drop_at {ws : List G} {i : Nat} {g : G} (h : ws[i]? = some g) : ws.drop i = g :: ws.drop (i + 1) := by
  obtain ⟨hi, rfl⟩ := List.getElem?_eq_some_iff.1 h
  exact (List.getElem_cons_drop (h := hi)).symm
theorem take_at {ws : List G} {i : Nat} {g : G} (h : ws[i]? = some g) : ws.take (i + 1) = ws.take i ++ [g] := by
  obtain ⟨hi, rfl⟩ := List.getElem?_eq_some_iff.1 h
  exact List.take_succ_eq_append_getElem hi
theorem bl_of {hs ws : List G} {i : Nat} {g : G} (h : ws[i]? = some g) : blockedB hs ws i = bl hs (ws.take i) g := by
  unfold blockedB bl
  rw [h, List.any_append]
theorem RSInv.skip {R : List G × List G} {hs ws : List G} {i : Nat} {g : G} (h : RSInv R hs ws i) (hg : ws[i]? = some g) (hb : blockedB hs ws i = true) : RSInv R hs ws (i + 1) := by
  rw [bl_of hg] at hb
  have hi := (List.getElem?_eq_some_iff.1 hg).1
  refine ⟨h.tv, by omega, by rw [take_at hg]; exact h.all.snoc hb, ?_⟩
  rw [h.eq, drop_at hg, take_at hg]
  conv => lhs; unfold scanF
  rw [if_pos hb]
theorem RSInv.move {R : List G × List G} {hs ws : List G} {i : Nat} {g : G} (h : RSInv R hs ws i) (hg : ws[i]? = some g) (hb : blockedB hs ws i = false) : RSInv R (putF g hs) (ws.take i ++ ws.drop (i + 1)) 0 := by
  rw [bl_of hg] at hb
  have hcut := cut_at hg
  have t : TV hs (ws.take i ++ g :: ws.drop (i + 1)) := by rw [← hcut]; exact h.tv
  refine ⟨t.step fun x hx => ?_, Nat.zero_le _, by simpa using AllB.nil _, ?_⟩
  · unfold bl at hb
    rw [List.any_eq_false] at hb
    simpa using hb x hx
  · simp only [List.take_zero, List.drop_zero]
    rw [scan_from (h.all.move t hb), h.eq, drop_at hg]
    conv => lhs; unfold scanF
    rw [hb]
    simp
theorem RSInv.done {R : List G × List G} {hs ws : List G} {i : Nat} (h : RSInv R hs ws i) (hi : ws.length ≤ i) : R = (hs, ws) := by
  rw [h.eq, List.take_of_length_le hi, List.drop_eq_nil_of_le hi]
  rfl
/-- the reference's hold, plainly: a loop with a flag -/
def holdF (g : G) : Bool → List G → List G
  | done, [] => if done then [] else [g]
  | done, x :: l => (if !done && !ltB x g then [g] else []) ++ ((if (x.tx != g.tx) || !sameLock x g then [x] else []) ++ holdF g (done || !ltB x g) l)
theorem hold_done {g : G} : ∀ {l : List G}, (∀ x ∈ l, ltG g x) → holdF g true l = l
  | [], _ => rfl
  | x :: l, h => by
    have hx := h x (by simp)
    have hk : ((x.tx != g.tx) || !sameLock x g) = true := by
      cases hk : ((x.tx != g.tx) || !sameLock x g) with
      | true => rfl
      | false =>
        exfalso
        simp only [Bool.or_eq_false_iff, bne_eq_false_iff_eq, Bool.not_eq_false'] at hk
        obtain ⟨k1, k2⟩ := hk
        unfold sameLock at k2
        simp only [Bool.and_eq_true, beq_iff_eq] at k2
        unfold ltG at hx
        omega
    unfold holdF
    rw [hk]
    have := hold_done (g := g) (l := l) (fun y hy => h y (by simp [hy]))
    simp [this]
theorem hold_put {g : G} : ∀ {hs : List G}, hs.Pairwise ltG → holdF g false hs = putF g hs
  | [], _ => rfl
  | x :: l, h => by
    obtain ⟨h1, h2⟩ := List.pairwise_cons.1 h
    unfold holdF putF
    by_cases hlt : ordI x g < 0
    · have hb : ltB x g = true := ltB_iff.2 (ordI_lt.1 hlt)
      have hk : ((x.tx != g.tx) || !sameLock x g) = true := by
        cases hk : ((x.tx != g.tx) || !sameLock x g) with
        | true => rfl
        | false =>
          exfalso
          simp only [Bool.or_eq_false_iff, bne_eq_false_iff_eq, Bool.not_eq_false'] at hk
          obtain ⟨k1, k2⟩ := hk
          unfold sameLock at k2
          simp only [Bool.and_eq_true, beq_iff_eq] at k2
          have := ordI_lt.1 hlt
          unfold ltG at this
          omega
      rw [if_pos hlt, hb, hk]
      have := hold_put (g := g) h2
      simp [this]
    · have hb : ltB x g = false := by
        cases hb : ltB x g with
        | false => rfl
        | true => exact absurd (ordI_lt.2 (ltB_iff.1 hb)) hlt
      rw [if_neg hlt, hb]
      by_cases hz : ordI x g = 0
      · have kz := ordI_z.1 hz
        have hk : ((x.tx != g.tx) || !sameLock x g) = false := by
          unfold sameLock
          simp [kz.1, kz.2.1, kz.2.2]
        have hd : holdF g true l = l := hold_done fun y hy => ltG_l (h1 y hy) ⟨kz.1.symm, kz.2.1.symm, kz.2.2.symm⟩
        rw [if_pos hz, hk]
        simp [hd]
      · have hgx : ltG g x := ltG_tri (fun k => hlt (ordI_lt.2 k)) (fun k => hz (ordI_z.2 k))
        have hk : ((x.tx != g.tx) || !sameLock x g) = true := by
          cases hk : ((x.tx != g.tx) || !sameLock x g) with
          | true => rfl
          | false =>
            exfalso
            simp only [Bool.or_eq_false_iff, bne_eq_false_iff_eq, Bool.not_eq_false'] at hk
            obtain ⟨k1, k2⟩ := hk
            unfold sameLock at k2
            simp only [Bool.and_eq_true, beq_iff_eq] at k2
            exact hz (ordI_z.2 ⟨k2.1, k2.2, k1⟩)
        have hd : holdF g true l = l := hold_done fun y hy => ltG_tr hgx (h1 y hy)
        rw [if_neg hz, hk]
        simp [hd]
/-- where a new request goes, as the reference says it -/
def placeR (hs ws : List G) (g : G) : Nat := if modeF hs g = 0 then ws.length else (ws.findIdx? (fun x => sameLock x g && (modeF hs x == 0))).getD ws.length
theorem place_same {hs ws : List G} {g : G} (h : ws.find? (fun x => x.tx == g.tx) = none) : placeR hs ws g = placeF hs ws g := by
  unfold placeR placeF
  split
  · rfl
  · congr 1
    have h' : ∀ x ∈ ws, (sameLock x g && (modeF hs x == 0)) = placeP hs g x := fun x hx => by
      have h2 : (x.tx == g.tx) = false := by
        have h3 := List.find?_eq_none.1 h x hx
        cases e : (x.tx == g.tx) with
        | false => rfl
        | true => exact absurd e h3
      unfold placeP
      simp [bne, h2]
    clear h
    induction ws with
    | nil => rfl
    | cons y l ih =>
      rw [List.findIdx?_cons, List.findIdx?_cons, h' y (by simp), ih fun x hx => h' x (by simp [hx])]
end Go.Proofs.YtnfkplohpjfocaaGreat

namespace Go.Proofs.YtnfkplohpjfocaaGreat
def pL (x y : Int × Int) : Prop := x.1 < y.1 ∨ (x.1 = y.1 ∧ x.2 < y.2)
theorem pL_irr (x : Int × Int) : ¬ pL x x := by unfold pL; omega
theorem psame : ∀ {l m : List (Int × Int)}, l.Pairwise pL → m.Pairwise pL → (∀ x, x ∈ l ↔ x ∈ m) → l = m
  | [], [], _, _, _ => rfl
  | [], y :: m, _, _, h => by have := (h y).2 (by simp); cases this
  | x :: l, [], _, _, h => by have := (h x).1 (by simp); cases this
  | x :: l, y :: m, hl, hm, h => by
    obtain ⟨l1, l2⟩ := List.pairwise_cons.1 hl
    obtain ⟨m1, m2⟩ := List.pairwise_cons.1 hm
    have e : x = y := by
      have hx := (h x).1 (by simp)
      have hy := (h y).2 (by simp)
      rcases List.mem_cons.1 hx with e | hx
      · exact e
      · rcases List.mem_cons.1 hy with e | hy
        · exact e.symm
        · have a := m1 x hx
          have b := l1 y hy
          unfold pL at a b
          omega
    subst e
    rw [psame l2 m2 fun z => ?_]
    constructor
    · intro hz
      rcases List.mem_cons.1 ((h z).1 (by simp [hz])) with e | k
      · subst e; exact absurd (l1 z hz) (pL_irr z)
      · exact k
    · intro hz
      rcases List.mem_cons.1 ((h z).2 (by simp [hz])) with e | k
      · subst e; exact absurd (m1 z hz) (pL_irr z)
      · exact k
/-- the pairs of one who waits and one it waits for, as the program lays them, and as the reference does -/
def rowP (nx : Int → List Int) (a : Int) : List (Int × Int) := (nx a).map fun b => (a, b)
def pairsF (nx : Int → List Int) (l : List Int) : List (Int × Int) := (l.map (rowP nx)).flatten
theorem pairs_mem {nx : Int → List Int} {l : List Int} {x : Int × Int} : x ∈ pairsF nx l ↔ x.1 ∈ l ∧ x.2 ∈ nx x.1 := by
  unfold pairsF rowP
  simp only [List.mem_flatten, List.mem_map]
  constructor
  · rintro ⟨r, ⟨a, ha, rfl⟩, hx⟩
    obtain ⟨b, hb, rfl⟩ := List.mem_map.1 hx
    exact ⟨ha, hb⟩
  · rintro ⟨h1, h2⟩
    exact ⟨_, ⟨x.1, h1, rfl⟩, List.mem_map.2 ⟨x.2, h2, rfl⟩⟩
theorem rowP_srt {nx : Int → List Int} (hS : ∀ a, (nx a).Pairwise (· < ·)) (a : Int) : (rowP nx a).Pairwise pL := by
  unfold rowP
  rw [List.pairwise_map]
  exact (hS a).imp fun h => .inr ⟨rfl, h⟩
theorem pairs_srt {nx : Int → List Int} (hS : ∀ a, (nx a).Pairwise (· < ·)) : ∀ {l : List Int}, l.Pairwise (· < ·) → (pairsF nx l).Pairwise pL
  | [], _ => by simp [pairsF]
  | a :: l, h => by
    obtain ⟨h1, h2⟩ := List.pairwise_cons.1 h
    have ih := pairs_srt hS h2
    have e : pairsF nx (a :: l) = rowP nx a ++ pairsF nx l := by simp [pairsF]
    rw [e, List.pairwise_append]
    refine ⟨rowP_srt hS a, ih, fun x hx y hy => ?_⟩
    have h3 := (pairs_mem.1 hy).1
    unfold rowP at hx
    obtain ⟨b, _, rfl⟩ := List.mem_map.1 hx
    exact .inl (h1 _ h3)
theorem pairs_nodup {nx : Int → List Int} (hS : ∀ a, (nx a).Pairwise (· < ·)) : ∀ {l : List Int}, l.Nodup → (pairsF nx l).Nodup
  | [], _ => by simp [pairsF]
  | a :: l, h => by
    obtain ⟨h1, h2⟩ := List.nodup_cons.1 h
    have ih := pairs_nodup hS h2
    have e : pairsF nx (a :: l) = rowP nx a ++ pairsF nx l := by simp [pairsF]
    rw [e, List.nodup_append]
    refine ⟨(rowP_srt hS a).imp fun h e => by subst e; exact pL_irr _ h, ih, fun x hx y hy e => ?_⟩
    subst e
    have h3 := (pairs_mem.1 hy).1
    unfold rowP at hx
    obtain ⟨b, _, rfl⟩ := List.mem_map.1 hx
    exact h1 h3
/-- what is sorted of the pairs, in whatever order they stood, is what the reference lays -/
theorem pairs_same {nx : Int → List Int} (hS : ∀ a, (nx a).Pairwise (· < ·)) {l : List Int} (hl : l.Nodup) {d : List (Int × Int)} (hp : d.Perm (pairsF nx l)) (hd : d.Pairwise fun x y => ¬ pL y x) : d = pairsF nx (foldW l []) := by
  refine psame ?_ (pairs_srt hS (foldW_srt l [] .nil)) fun x => ?_
  · have nd : d.Nodup := hp.nodup_iff.2 (pairs_nodup hS hl)
    refine (hd.and nd).imp fun {x y} h => ?_
    obtain ⟨h1, h2⟩ := h
    unfold pL at h1 ⊢
    by_cases e1 : x.1 = y.1
    · by_cases e2 : x.2 = y.2
      · exact absurd (Prod.ext e1 e2) h2
      · omega
    · omega
  · rw [hp.mem_iff, pairs_mem, pairs_mem, foldW_mem]
    simp
end Go.Proofs.YtnfkplohpjfocaaGreat

namespace Go.Proofs.YtnfkplohpjfocaaGreat
theorem forF_valid {hs ws : List G} (h : validT hs ws = true) : forF hs ws = blockF hs ws := by funext x; unfold forF; rw [if_pos h]
theorem forF_bad {hs ws : List G} (h : validT hs ws = false) (x : Int) : forF hs ws x = [] := by unfold forF; rw [h]; rfl
theorem forF_srt (hs ws : List G) (a : Int) : (forF hs ws a).Pairwise (· < ·) := by
  unfold forF
  split
  · exact blockF_srt hs ws a
  · exact .nil
/-- who waits, in the reference's order -/
def waitersF (hs ws : List G) : List Int := if validT hs ws then foldW (ws.map G.tx) [] else []
def cycR (hs ws : List G) (tx : Int) : List Int := Xc.cycL (forF hs ws) tx (List.range (waitersF hs ws).length)
theorem waiters_len {hs ws : List G} (h : validT hs ws = true) : (waitersF hs ws).length = ws.length := by
  have t := TV.of h
  unfold waitersF
  rw [if_pos h]
  have h1 : (foldW (ws.map G.tx) []).Nodup := (foldW_srt _ [] .nil).imp fun h e => by subst e; omega
  have h2 := nodup_le _ (ws.map G.tx) h1 fun x hx => by simpa [foldW_mem] using hx
  have h3 := nodup_le _ (foldW (ws.map G.tx) []) t.nd fun x hx => by rw [foldW_mem]; exact .inl hx
  simp at h2 h3
  omega
theorem cyc_ref (hs ws : List G) (tx : Int) : cycR hs ws tx = cycF hs ws tx := by
  unfold cycR
  cases h : validT hs ws with
  | false =>
    have : waitersF hs ws = [] := by unfold waitersF; rw [h]; rfl
    rw [this]
    unfold cycF
    rw [h]
    rfl
  | true =>
    have t := TV.of h
    rw [waiters_len h, forF_valid h]
    unfold cycF
    rw [if_pos h]
    refine (Xc.cyc_same (U := univ hs ws tx) (fun x b hb => ?_) (blockF_srt hs ws) (by simp [univ]) (fun p hp hx => ?_)).symm
    · obtain ⟨g, hg, rfl⟩ := ((block_iff t).1 hb).dst
      exact List.mem_cons_of_mem _ (List.mem_map.2 ⟨g, hg, rfl⟩)
    · have := nodup_le p (ws.map G.tx) hp fun x hxp => by
        obtain ⟨b, hb⟩ := hx x hxp
        obtain ⟨g, hg, e⟩ := ((block_iff t).1 hb).src
        exact List.mem_map.2 ⟨g, hg, e⟩
      simpa using this
def edgesR (hs ws : List G) : List (Int × Int) := pairsF (forF hs ws) (waitersF hs ws)
theorem edges_same {hs ws : List G} (h : validT hs ws = true) {d : List (Int × Int)} (hp : d.Perm (pairsF (blockF hs ws) (ws.map G.tx))) (hd : d.Pairwise fun x y => ¬ pL y x) : d = edgesR hs ws := by
  unfold edgesR waitersF
  rw [forF_valid h, if_pos h]
  exact pairs_same (blockF_srt hs ws) (TV.of h).nd hp hd
theorem edges_bad {hs ws : List G} (h : validT hs ws = false) : edgesR hs ws = [] := by unfold edgesR waitersF; rw [h]; rfl
/-- a table that settles, as the reference says it: its grants are valid before and behind -/
theorem tv_ins {hs ws : List G} {g : G} (h : validT hs ws = true) (h2 : validG g = true) (h3 : ws.find? (fun x => x.tx == g.tx) = none) (h4 : ¬ g.mode ≤ modeF hs g) (i : Nat) : TV hs (ws.take i ++ g :: ws.drop i) := by
  have t := TV.of h
  have hw : ∀ x ∈ ws, x.tx ≠ g.tx := fun x hx e => by simpa using List.find?_eq_none.1 h3 x hx (by simpa using e)
  have hcut : ws = ws.take i ++ ws.drop i := (List.take_append_drop _ _).symm
  have t2 : TV hs (ws.take i ++ ws.drop i) := by rw [← hcut]; exact t
  exact t2.ins h2 (by omega) fun x hx => hw x (by rw [hcut]; exact hx)
theorem tv_filter {hs ws : List G} (h : validT hs ws = true) (p q : G → Bool) : TV (hs.filter p) (ws.filter q) := (TV.of h).filter p q
end Go.Proofs.YtnfkplohpjfocaaGreat
