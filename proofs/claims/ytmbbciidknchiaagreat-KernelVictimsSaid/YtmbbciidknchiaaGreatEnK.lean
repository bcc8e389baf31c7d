/-
  A verified evaluator: append, copy, clear, len, cap, and what reads slices. No function of the program is named here.
-/
import Derived.Test.YtmbbciidknchiaaGreatEnJ
import Derived.Deep.AppendSrc
import Derived.Lib.AppendZerosOnto
import Derived.Deep.DeepAppendWide
namespace Go.Proofs.YtmbbciidknchiaaGreat
section
variable {P : Program} {E : Env} {ρ : Vn} {φ : Emb} {fr : Fr} {a : Act} {h h' : Hp} {w w' : World} {v : AV} {ty : TypeId}
theorem bytes_cells (y : ByteArray) : All2 (VC ρ φ) ((y.data.toList.map UInt8.toNat).map fun (n : Nat) => AC.i .u8 (Int.ofNat n)) (byteCells y) := by
  unfold byteCells
  generalize y.data.toList = l
  induction l with
  | nil => exact .nil
  | cons b l ih => exact .cons rfl ih
/-- what a slice, or a string, holds -/
theorem row_ok (r : Rel ρ φ h w) {size n : Nat} {c : AC} {x : Value} {l : List AC} (hc : VC ρ φ c x) (e : h.row size c = some (n, l)) {tx : TypeId} (hk : (∃ e', P.underlying tx = some (.slice e')) ∨ P.underlying tx = some .string) : ∃ news, Src P size tx x n news w ∧ All2 (VC ρ φ) l news := by
  have slices : ∀ {b base tot off len cap : Nat} {id : Bid}, φ id = some (b, base, tot) → x = .slice (some ⟨b, base + off, none⟩) len cap → ob (h.lds id off (len * size)) (fun l => some (len, l)) = some (n, l) → ∃ news, Src P size tx x n news w ∧ All2 (VC ρ φ) l news := by
    intro b base tot off len cap id hid hx e
    obtain ⟨l', h1, e1⟩ := ob_some e
    cases e1
    obtain ⟨b', base', tot', vs, h2, h3, h4, h5⟩ := r.lds h1
    rw [hid] at h2
    cases h2
    subst hx
    exact ⟨vs, ⟨hk, fun _ => rfl, run_firstCells_some w size _ _ _ _ vs h3 (fun j u hu => by rw [Addr.add_lit]; exact h5 j u hu), run_firstCells_some w.drew size _ _ _ _ vs h3 (fun j u hu => by rw [Addr.add_lit]; simpa using h5 j u hu), h3, h4.ones⟩, h4⟩
  unfold Hp.row at e
  split at e
  · cases e
    rw [show x = .slice none 0 0 from hc]
    exact ⟨[], ⟨hk, fun _ => rfl, run_firstCells_none w size 0 0 0, run_firstCells_none w.drew size 0 0 0, by simp, fun _ h => by cases h⟩, .nil⟩
  · obtain ⟨b, base, tot, h1, h2⟩ := hc
    exact slices h1 h2 e
  · obtain ⟨_, e⟩ := bo_some e
    obtain ⟨b, base, tot, cap, h1, h2, _⟩ := hc
    exact slices h1 h2 e
  · cases e
    obtain ⟨b, base, tot, o, cap, h1, h2, _⟩ := hc
    subst h2
    exact ⟨[], ⟨hk, fun _ => rfl, run_firstCells_some w size 0 _ 0 cap [] (by simp) (fun j u hu => by simp at hu), run_firstCells_some w.drew size 0 _ 0 cap [] (by simp) (fun j u hu => by simp at hu), by simp, fun _ h => by cases h⟩, .nil⟩
  · obtain ⟨hb, e⟩ := bo_some e
    have hs : size = 1 := Nat.eq_of_beq_eq_true hb
    subst hs
    cases e
    obtain ⟨y, hy, hl⟩ := hc
    subst hy
    subst hl
    refine ⟨byteCells y, ⟨hk, fun _ => ?_, ?_, ?_, ?_, ?_⟩, bytes_cells y⟩
    · simp [Builtin.lenOf]
    · have := firstCells_string (P := P) y w
      simpa using this
    · have := firstCells_string (P := P) y w.drew
      simpa using this
    · simp [byteCells]
    · intro u hu
      obtain ⟨_, _, rfl⟩ := List.mem_map.1 hu
      rfl
  · cases e
/-- what is appended, and how the two arms run -/
structure SrcG (P : Program) (t tx e : TypeId) (i : TypeInfo) (z : Value) (x : Value) (n : Nat) (news : List Value) (w : World) : Prop where
  room : ∀ (ty : TypeId) (base : Option Addr) (sLen sCap : Nat) (w' : World), sLen + n ≤ sCap → (match base with | some a => (storeCells (a.add (sLen * i.size)) news).run P w = .ok () w' | none => w' = w) → (Builtin.append_ #[t, tx] ty #[.slice base sLen sCap, x]).run P w = .ok (.slice base (sLen + n) sCap) w'
  grow : ∀ (ty : TypeId) (base : Option Addr) (sLen sCap : Nat) (olds : List Value), (Builtin.firstCells i.size sLen (.slice base sLen sCap)).run P w.drew = .ok olds.toArray w.drew → sCap < sLen + n → sLen + n ≤ 1048576 → (sLen + n) * i.bytes ≤ 1048576 →
    ∃ rest : List Value, (Builtin.append_ #[t, tx] ty #[.slice base sLen sCap, x]).run P w = .ok (.slice (some ⟨w.heap.size, 0, none⟩) (sLen + n) (grownCap w (sLen + n) sCap e)) (w.drew.alloc (.cells (olds ++ news ++ rest).toArray e)) ∧ rest.length = (grownCap w (sLen + n) sCap e - (sLen + n)) * z.cells.size
theorem grown_ge (w : World) (need old : Nat) (e : TypeId) : need ≤ grownCap w need old e := by simp [grownCap, Question.cut]
theorem fits {need old b : Nat} (ho : old < need) (h1 : need ≤ 1048576) (h2 : need * b ≤ 1048576) (hb : b ≤ 1048576) : Builtin.nextslicecap need old * b ≤ 281474976710656 := by
  refine growslice_fits_wide ho ?_
  have h3 : (need + need / 4 + 192) * b = need * b + (need / 4) * b + 192 * b := by rw [Nat.add_mul, Nat.add_mul]
  have h4 : (need / 4) * b ≤ need * b := Nat.mul_le_mul_right _ (Nat.div_le_self _ _)
  omega
theorem SrcG.of {t tx e : TypeId} {i : TypeInfo} {z x : Value} {n : Nat} {news : List Value} (ht : P.underlying t = some (.slice e)) (hi : P.info? e = some i) (hz : i.zero = some z) (hb : i.bytes ≤ 1048576) (hs : Src P i.size tx x n news w) : SrcG P t tx e i z x n news w where
  room := by
    intro ty base sLen sCap w' hroom hst
    cases base with
    | none =>
      simp only at hst
      subst hst
      rcases hs.kind with ⟨e', hk⟩ | hk <;> simp [Builtin.append_, run_underlying ht, run_underlying hk, sizeOf, typeInfo, hi, hs.len, hroom, hs.cells]
    | some a =>
      simp only at hst
      rcases hs.kind with ⟨e', hk⟩ | hk <;> simp [Builtin.append_, run_underlying ht, run_underlying hk, sizeOf, typeInfo, hi, hs.len, hroom, hs.cells, hst]
  grow := by
    intro ty base sLen sCap olds hold hg h1 h2
    refine ⟨(Builtin.zeroCells z.cells (grownCap w (sLen + n) sCap e - (sLen + n))).toList, ?_, by simp [Builtin.zeroCells]⟩
    rw [run_append_grow_src (w := w) t tx ty e i z ht hi hz base sLen sCap olds hold x n news hs hg (by omega) (fits hg h1 h2 hb)]
    congr 2
    congr 1
    apply Array.ext'
    simp
theorem SrcG.zeros {t tx e : TypeId} {i : TypeInfo} {z : Value} {n : Nat} {kq kn : IntKind} (ht : P.underlying t = some (.slice e)) (htx : P.underlying tx = some (.int kn)) (hi : P.info? e = some i) (hz : i.zero = some z) (hb : i.bytes ≤ 1048576) (hs : 0 < i.size) (hzs : z.cells.size = i.size) (hn : n ≤ 1048576) (hnb : n * i.bytes ≤ 1048576) : SrcG P t tx e i z (.int kq n) n (zrow z.cells (n * i.size)) w where
  room := by
    intro ty base sLen sCap w' hroom hst
    have hw : IntKind.i64.wrap (n : Int) = n := IntWalk.i64_in _ (by omega)
    have hneg : ¬ ((n : Int) < 0) := by omega
    have h48i : ¬ (281474976710656 < (n : Int) * (i.bytes : Int)) := by
      rw [← Int.natCast_mul]; omega
    have hzc : Builtin.zeroCells z.cells n = (zrow z.cells (n * i.size)).toArray := by
      rw [← hzs]; exact zrow_eq z.cells _
    by_cases h0 : n * i.size = 0
    · have hzr : zrow z.cells (n * i.size) = [] := by rw [h0]; rfl
      rw [hzr] at hst
      cases base with
      | none =>
        simp only at hst
        subst hst
        simp [Builtin.append_, run_underlying ht, run_underlying htx, sizeOf, typeInfo, hi, asInt, asIntOf, hw, hneg, h48i, hroom, h0]
      | some a =>
        simp only at hst
        simp [Builtin.append_, run_underlying ht, run_underlying htx, sizeOf, typeInfo, hi, asInt, asIntOf, hw, hneg, h48i, hroom, h0, hst]
    · cases base with
      | none =>
        simp only at hst
        subst hst
        simp [Builtin.append_, run_underlying ht, run_underlying htx, sizeOf, typeInfo, zeroValue, hi, hz, asInt, asIntOf, hw, hneg, h48i, hroom, h0]
      | some a =>
        simp only at hst
        simp [Builtin.append_, run_underlying ht, run_underlying htx, sizeOf, typeInfo, zeroValue, hi, hz, asInt, asIntOf, hw, hneg, h48i, hroom, h0, hzc, hst]
  grow := by
    intro ty base sLen sCap olds hold hg h1 h2
    refine ⟨(Builtin.zeroCells z.cells (grownCap w (sLen + n) sCap e - (sLen + n))).toList, ?_, by simp [Builtin.zeroCells]⟩
    by_cases hn0 : n = 0
    · subst hn0
      have hn' : ¬ (sLen + 0 ≤ sCap) := by omega
      have h63' : ¬ (9223372036854775807 < ((sLen : Int))) := by omega
      have h48' : ¬ (281474976710656 < Builtin.nextslicecap sLen sCap * i.bytes) := by
        have := fits hg h1 h2 hb
        rw [Nat.add_zero] at this
        omega
      have hw : IntKind.i64.wrap (0 : Int) = 0 := IntWalk.i64_in _ (by omega)
      simp at hn'
      have hn2 : ¬ sLen ≤ sCap := by omega
      simp [Builtin.append_, run_underlying ht, run_underlying htx, sizeOf, typeInfo, zeroValue, hi, hz, asInt, asIntOf, hw, hn2, h63', h48', Question.forced, hold, newRow, grownCap, zrow]
      congr 2
      apply Array.ext'
      simp
    · rw [Lib.run_append_grow_zeros w t tx ty e i z kq kn ht htx hi hz base sLen sCap olds hold n (by omega) hs hg (by omega) (by omega) (fits hg h1 h2 hb)]
      have hzc : Builtin.zeroCells z.cells n = (zrow z.cells (n * i.size)).toArray := by
        rw [← hzs]; exact zrow_eq z.cells _
      rw [hzc]
      congr 2
      congr 1
      apply Array.ext'
      simp
/-- a block goes on under a new name: the old one is given up -/
theorem Rel.reuse (r : Rel ρ φ h w) {n id : Bid} (hn : h.next.inc = some n) {b base base' : Nat} {arr arr' : Array Value} {T : TypeId} {c c' : List AC} (hid : h.get id = some (.cells c')) (hφ : φ id = some (b, base, arr.size)) (hb : w.heap[b]? = some (.cells arr T (0, 0))) (hsz : arr'.size = arr.size)
    (hc : CellsAt ρ φ c base' arr') : Stp ρ φ h w (φ.add h.next (b, base', arr.size)) ((h.drop id).more n (.cells c)) (w.setRow b arr') := by
  have hf : φ h.next = none := r.free _ (Nat.le_refl _)
  have hle := Emb.le_add hf (b, base', arr.size)
  have hnn := Bid.inc_num hn
  have hlive : (h.get id).isSome := by rw [hid]; rfl
  have hidn : id ≠ h.next := by
    rintro rfl
    have := r.low _ hlive
    omega
  have hdn : (h.drop id).next = h.next := Hp.next_putB _ _ _
  have hnew := setRow_heap w b arr arr' T (0, 0) hb
  have hg1 : ((h.drop id).more n (.cells c)).get h.next = some (.cells c) := by rw [← hdn]; exact Hp.get_more_same _ _ _
  have hg2 : ∀ j, j ≠ h.next → ((h.drop id).more n (.cells c)).get j = if j = id then none else h.get j := by
    intro j hj
    rw [Hp.get_more_ne (by rw [hdn]; exact hj)]
    by_cases hji : j = id
    · subst hji; rw [if_pos rfl]; exact Hp.get_putB _ _ _
    · rw [if_neg hji]; exact Hp.get_putB_ne hji _ _
  have hg3 : ∀ j, j ≠ h.next → (((h.drop id).more n (.cells c)).get j).isSome → j ≠ id ∧ (h.get j).isSome := by
    intro j hj hs
    rw [hg2 j hj] at hs
    by_cases hji : j = id
    · rw [if_pos hji] at hs; cases hs
    · rw [if_neg hji] at hs; exact ⟨hji, hs⟩
  have hne : ∀ j x, j ≠ id → (h.get j).isSome → φ j = some x → x.1 ≠ b := fun j x hj hs hx he => hj (r.inj j id x _ hs hlive hx hφ he)
  refine ⟨hle, ⟨?_, ?_, ?_, ?_, ?_⟩, by simp, ?_, ?_, ?_, ?_, rfl, rfl, rfl⟩
  · intro j d hd
    by_cases hj : j = h.next
    · subst hj
      rw [hg1] at hd
      cases hd
      exact ⟨b, base', arr', T, by rw [Emb.add_same, hsz], hnew, hc.le hle⟩
    · obtain ⟨hji, hs⟩ := hg3 j hj (by rw [hd]; rfl)
      rw [hg2 j hj, if_neg hji] at hd
      obtain ⟨b2, base2, arr2, T2, k1, k2, k3⟩ := r.cells j d hd
      refine ⟨b2, base2, arr2, T2, by rw [Emb.add_ne hj]; exact k1, ?_, k3.le hle⟩
      rw [setRow_other _ _ _ _ (hne j _ hji hs k1)]
      exact k2
  · intro j l hd
    by_cases hj : j = h.next
    · subst hj; rw [hg1] at hd; cases hd
    · obtain ⟨hji, hs⟩ := hg3 j hj (by rw [hd]; rfl)
      rw [hg2 j hj, if_neg hji] at hd
      obtain ⟨b2, es, cl, k1, k2, k3⟩ := r.maps j l hd
      refine ⟨b2, es, cl, by rw [Emb.add_ne hj]; exact k1, ?_, k3.mono fun _ _ h => ⟨h.1.le hle, h.2.le hle⟩⟩
      rw [setRow_other _ _ _ _ (hne j _ hji hs k1)]
      exact k2
  · intro i j x y hi hj hx hy he
    by_cases h1 : i = h.next
    · by_cases h2 : j = h.next
      · rw [h1, h2]
      · subst h1
        rw [Emb.add_same] at hx
        cases hx
        obtain ⟨hji, hs⟩ := hg3 j h2 hj
        rw [Emb.add_ne h2] at hy
        exact absurd he.symm (hne j y hji hs hy)
    · by_cases h2 : j = h.next
      · subst h2
        rw [Emb.add_same] at hy
        cases hy
        obtain ⟨hji, hs⟩ := hg3 i h1 hi
        rw [Emb.add_ne h1] at hx
        exact absurd he (hne i x hji hs hx)
      · rw [Emb.add_ne h1] at hx
        rw [Emb.add_ne h2] at hy
        exact r.inj i j x y (hg3 i h1 hi).2 (hg3 j h2 hj).2 hx hy he
  · intro i hi
    show i.num < n.num
    by_cases h1 : i = h.next
    · subst h1; omega
    · have := r.low i (hg3 i h1 hi).2
      omega
  · intro i hi
    have hi' : n.num ≤ i.num := hi
    have h1 : i ≠ h.next := by rintro rfl; omega
    rw [Emb.add_ne h1]
    exact r.free i (by omega)
  · intro k hk hn
    exact setRow_other _ _ _ _ fun e => hn id _ hlive hφ e.symm
  · intro i x hi hx _
    by_cases h1 : i = h.next
    · subst h1
      rw [Emb.add_same] at hx
      cases hx
      exact ⟨id, _, hlive, hφ, rfl⟩
    · rw [Emb.add_ne h1] at hx
      exact ⟨i, x, (hg3 i h1 hi).2, hx, rfl⟩
  · show h.next.num ≤ n.num
    omega
  · intro i hi
    by_cases h1 : i = h.next
    · subst h1; exact .inr (Nat.le_refl _)
    · rw [Emb.add_ne h1] at hi; exact .inl hi
/-- a row grows: a new row -/
theorem Rel.grown (r : Rel ρ φ h w) {n : Bid} (hn : h.next.inc = some n) {c : List AC} {vs : List Value} (hv : All2 (VC ρ φ) c vs) (rest : List Value) (T : TypeId) : Stp ρ φ h w (φ.add h.next (w.heap.size, 0, vs.length + rest.length)) (h.more n (.cells c)) (w.drew.alloc (.cells (vs ++ rest).toArray T)) :=
  r.alloc hn hv rest T rfl rfl rfl rfl
/-- what is given up is given up in a later state too -/
theorem Stp.drop {φ' : Emb} {id : Bid} (s : Stp ρ φ h w φ' h' w') (hid : id.num < h.next.num) : Stp ρ φ h w φ' (h'.drop id) w' := by
  have hl : ∀ j, ((h'.drop id).get j).isSome → j ≠ id ∧ (h'.get j).isSome := by
    intro j hj
    by_cases hji : j = id
    · subst hji
      have : (h'.drop j).get j = none := Hp.get_putB _ _ _
      rw [this] at hj; cases hj
    · have : (h'.drop id).get j = h'.get j := Hp.get_putB_ne hji _ _
      rw [this] at hj; exact ⟨hji, hj⟩
  have hg : ∀ j, ((h'.drop id).get j).isSome → (h'.drop id).get j = h'.get j := fun j hj => Hp.get_putB_ne (hl j hj).1 _ _
  have hnx : (h'.drop id).next = h'.next := Hp.next_putB _ _ _
  exact ⟨s.le, ⟨fun j c hc => s.rel.cells j c (by rw [← hg j (by rw [hc]; rfl)]; exact hc), fun j l hc => s.rel.maps j l (by rw [← hg j (by rw [hc]; rfl)]; exact hc), fun i j x y hi hj => s.rel.inj i j x y (hl i hi).2 (hl j hj).2, fun i hi => by rw [hnx]; exact s.rel.low i (hl i hi).2, fun i hi => s.rel.free i (by rw [← hnx]; exact hi)⟩,
    s.size, s.frame, fun i x hi => s.sub i x (hl i hi).2, by rw [hnx]; exact s.next, s.dom, s.os, s.tape, s.output⟩
theorem drop_more {id n : Bid} {B : AB} (hne : id ≠ h.next) : ∀ j, ((h.drop id).more n B).get j = ((h.more n B).drop id).get j := by
  intro j
  have hdn : (h.drop id).next = h.next := Hp.next_putB _ _ _
  by_cases hji : j = id
  · subst hji
    rw [show ((h.more n B).drop j).get j = none from Hp.get_putB _ _ _, Hp.get_more_ne (by rw [hdn]; exact hne)]
    exact Hp.get_putB _ _ _
  · rw [show ((h.more n B).drop id).get j = (h.more n B).get j from Hp.get_putB_ne hji _ _]
    by_cases hjn : j = h.next
    · subst hjn
      have h1 : ((h.drop id).more n B).get h.next = some B := by rw [← hdn]; exact Hp.get_more_same _ _ _
      rw [h1, Hp.get_more_same]
    · rw [Hp.get_more_ne (by rw [hdn]; exact hjn), Hp.get_more_ne hjn]
      exact Hp.get_putB_ne hji _ _
/-- states with the same blocks -/
theorem Stp.alike {φ' : Emb} {k : Hp} (s : Stp ρ φ h w φ' h' w') (hg : ∀ j, k.get j = h'.get j) (hn : k.next = h'.next) : Stp ρ φ h w φ' k w' :=
  ⟨s.le, ⟨fun j c hc => s.rel.cells j c (by rw [← hg]; exact hc), fun j l hc => s.rel.maps j l (by rw [← hg]; exact hc), fun i j x y hi hj => s.rel.inj i j x y (by rw [← hg]; exact hi) (by rw [← hg]; exact hj), fun i hi => by rw [hn]; exact s.rel.low i (by rw [← hg]; exact hi), fun i hi => s.rel.free i (by rw [← hn]; exact hi)⟩,
    s.size, s.frame, fun i x hi => s.sub i x (by rw [← hg]; exact hi), by rw [hn]; exact s.next, s.dom, s.os, s.tape, s.output⟩
end
end Go.Proofs.YtmbbciidknchiaaGreat
