/-
  A verified evaluator: append, copy, clear, len, cap as operations. No function of the program is named here.
-/
import Derived.Test.YtmbbciidknchiaaGreatEnK
namespace Go.Proofs.YtmbbciidknchiaaGreat
section
variable {P : Program} {E : Env} {ρ : Vn} {φ : Emb} {fr : Fr} {a : Act} {h h' : Hp} {w w' : World} {v : AV} {ty : TypeId}
theorem grow_room {len n cap size rest : Nat} (hc : len + n ≤ cap) (hr : rest = (cap - (len + n)) * size) : 0 + 0 + cap * size ≤ (len + n) * size + rest := by
  have : (len + n) * size + (cap - (len + n)) * size = cap * size := by rw [← Nat.add_mul]; congr 1; omega
  omega
theorem append_ok (r : Rel ρ φ h w) {t tx el : TypeId} {i : TypeInfo} {z x y : Value} {c : AC} {n size bytes : Nat} {new' : List AC} {news : List Value} (hx : VC ρ φ c x) (S : SrcG P t tx el i z y n news w) (hnew : All2 (VC ρ φ) new' news) (hnl : news.length = n * size)
    (hsz : i.size = size) (hby : i.bytes = bytes) (hz : z.cells.size = size) (hs : 0 < size) (e : appendTo size bytes c n new' h = .ok v h') : ∃ u w' φ', (Builtin.append_ #[t, tx] ty #[x, y]).run P w = .ok u w' ∧ VV ρ φ' v u ∧ Stp ρ φ h w φ' h' w' := by
  have nlen := hnew.length
  -- a new row, out of what was there
  have growing : ∀ {k : Hp} {m : Bid} {base : Option Addr} {sLen sCap : Nat} {old : List AC} {olds : List Value}, x = .slice base sLen sCap → h.next.inc = some m → All2 (VC ρ φ) old olds → olds.length = sLen * size → (Builtin.firstCells size sLen (.slice base sLen sCap)).run P w.drew = .ok olds.toArray w.drew → sCap < sLen + n → sLen + n ≤ 1048576 → (sLen + n) * bytes ≤ 1048576 →
      (∀ j, k.get j = (h.more m (.cells (old ++ new'))).get j) → k.next = m →
      ∃ u w' φ', (Builtin.append_ #[t, tx] ty #[x, y]).run P w = .ok u w' ∧ VV ρ φ' (.c (.su h.next 0 (sLen + n) (sLen + n) size)) u ∧ Stp ρ φ h w φ' k w' := by
    intro k m base sLen sCap old olds hxs hm hold hol hf hg h1 h2 hk hkn
    obtain ⟨rest, h3, h4⟩ := S.grow ty base sLen sCap olds (by rw [hsz]; exact hf) hg h1 (by rw [hby]; exact h2)
    refine ⟨_, _, _, by rw [hxs]; exact h3, ?_, (r.grown hm (hold.append hnew) rest el).alike hk (by rw [hkn]; rfl)⟩
    refine ⟨w.heap.size, 0, _, grownCap w (sLen + n) sCap el, Emb.add_same _ _ _, rfl, Nat.le_refl _, grown_ge _ _ _ _, ?_⟩
    rw [List.length_append, hol, hnl, ← Nat.add_mul]
    exact grow_room (grown_ge _ _ _ _) (by rw [h4, hz])
  unfold appendTo at e
  split at e
  · -- nil
    have hx0 : x = .slice none 0 0 := hx
    cases hb : Nat.beq n 0 with
    | true =>
      rw [hb] at e
      cases e
      have n0 : n = 0 := Nat.eq_of_beq_eq_true hb
      refine ⟨.slice none 0 0, w, φ, ?_, rfl, Stp.refl r⟩
      have := S.room ty none 0 0 w (by omega) rfl
      rw [hx0, this, n0]
    | false =>
      rw [hb] at e
      obtain ⟨hb2, e2⟩ := br_ok e
      obtain ⟨hb3, hb4⟩ := and2 hb2
      obtain ⟨m, hm, rfl, rfl⟩ := new_ok e2
      have l1 : n ≤ 1048576 := Nat.le_of_ble_eq_true hb3
      have l2 : n * bytes ≤ 1048576 := Nat.le_of_ble_eq_true hb4
      have hn0 : n ≠ 0 := by intro h0; rw [h0] at hb; cases hb
      have := growing (k := h.more m (.cells new')) (old := []) (olds := []) hx0 hm .nil (by simp) (run_firstCells_none w.drew size 0 0 0) (by omega) (by omega) (by simpa using l2) (fun j => rfl) rfl
      simpa using this
  · -- a slice with a known capacity
    rename_i id off len cap
    obtain ⟨b, base, tot, h1, h2⟩ := hx
    cases hb : Nat.ble (len + n) cap with
    | true =>
      rw [hb] at e
      simp only [cond_true] at e
      obtain ⟨h2', h3, e2⟩ := ro_ok e
      cases e2
      have hroom : len + n ≤ cap := Nat.le_of_ble_eq_true hb
      obtain ⟨w', h4, h5⟩ := run_stores (P := P) r hnew h3 h1
      refine ⟨.slice (some ⟨b, base + off, none⟩) (len + n) cap, w', φ, ?_, ⟨b, base, tot, h1, rfl⟩, h5⟩
      rw [h2]
      refine S.room ty _ len cap w' hroom ?_
      simp only
      rw [hsz, Addr.add_lit, Nat.add_assoc]
      exact h4
    | false =>
      rw [hb] at e
      simp only [cond_false] at e
      obtain ⟨hb2, e2⟩ := br_ok e
      obtain ⟨hb3, hb4⟩ := and2 hb2
      obtain ⟨old, h3, e3⟩ := ro_ok e2
      obtain ⟨m, hm, rfl, rfl⟩ := new_ok e3
      have hg : cap < len + n := by
        rcases Nat.lt_or_ge cap (len + n) with h | h
        · exact h
        · rw [Nat.ble_eq_true_of_le h] at hb; cases hb
      obtain ⟨b', base', tot', vs, h4, h5, h6, h7⟩ := r.lds h3
      rw [h1] at h4
      cases h4
      exact growing h2 hm h6 h5 (run_firstCells_some w.drew size len _ len cap vs h5 (fun j u hu => by rw [Addr.add_lit]; simpa using h7 j u hu)) hg (Nat.le_of_ble_eq_true hb3) (Nat.le_of_ble_eq_true hb4) (fun j => rfl) rfl
  · -- a slice with an unknown capacity
    rename_i id off len lb es
    obtain ⟨he, e1⟩ := br_ok e
    have hes : es = size := Nat.eq_of_beq_eq_true he
    subst hes
    obtain ⟨b, base, tot, cap, h1, h2, h3, h4, h5⟩ := hx
    cases hb : Nat.ble (len + n) lb with
    | true =>
      rw [hb] at e1
      simp only [cond_true] at e1
      obtain ⟨h2', h6, e2⟩ := ro_ok e1
      cases e2
      have hroom : len + n ≤ lb := Nat.le_of_ble_eq_true hb
      obtain ⟨w', h7, h8⟩ := run_stores (P := P) r hnew h6 h1
      refine ⟨.slice (some ⟨b, base + off, none⟩) (len + n) cap, w', φ, ?_, ⟨b, base, tot, cap, h1, rfl, hroom, h4, h5⟩, h8⟩
      rw [h2]
      refine S.room ty _ len cap w' (by omega) ?_
      simp only
      rw [hsz, Addr.add_lit, Nat.add_assoc]
      exact h7
    | false =>
      rw [hb] at e1
      simp only [cond_false] at e1
      obtain ⟨hb2, e2⟩ := br_ok e1
      obtain ⟨hb3, hb4⟩ := and2 hb2
      obtain ⟨old, h6, e3⟩ := ro_ok e2
      obtain ⟨m, hm0, rfl, rfl⟩ := new_ok e3
      have hdn : (h.drop id).next = h.next := Hp.next_putB _ _ _
      have hm : h.next.inc = some m := by rw [← hdn]; exact hm0
      obtain ⟨b', base', tot', vs, h7, h8, h9, h10⟩ := r.lds h6
      rw [h1] at h7
      cases h7
      -- the block is there
      obtain ⟨c0, hc0, _⟩ := ob_some h6
      obtain ⟨bk, hbk, hk0⟩ := ob_some hc0
      cases bk with
      | map l => cases hk0
      | cells c1 =>
        cases hk0
        obtain ⟨b2, base2, arr, T, k1, k2, k3⟩ := r.cells id c0 hbk
        rw [h1] at k1
        cases k1
        have hidn : id ≠ h.next := by
          rintro rfl
          have := r.low _ (by rw [hbk]; rfl)
          omega
        rw [hdn]
        by_cases hroom : len + n ≤ cap
        · -- in its place
          have hfit : base + off + len * es + news.length ≤ arr.size := by
            rw [hnl, Nat.add_assoc (base + off), ← Nat.add_mul]
            have : (len + n) * es ≤ cap * es := Nat.mul_le_mul_right _ hroom
            omega
          have hst := run_storeCells_at P b (base + off + len * es) T news 0 arr w k2 (by simpa using hfit) hnew.ones
          have hsz' : (arr.toList.take (base + off + len * es + 0) ++ news ++ arr.toList.drop (base + off + len * es + 0 + news.length)).toArray.size = arr.size := by simp; omega
          refine ⟨.slice (some ⟨b, base + off, none⟩) (len + n) cap, _, φ.add h.next (b, base + off, arr.size), ?_, ?_, r.reuse (c := old ++ new') hm hbk h1 k2 hsz' ?_⟩
          · rw [h2]
            refine S.room ty _ len cap _ hroom ?_
            simp only
            rw [hsz, Addr.add_lit]
            exact hst
          · exact ⟨b, base + off, arr.size, cap, Emb.add_same _ _ _, rfl, Nat.le_refl _, hroom, h5⟩
          · have hol := h9.length
            have hlen2 : (arr.toList.take (base + off + len * es + 0)).length = base + off + len * es := by simp; omega
            refine ⟨by simp; omega, fun o q hq => ?_⟩
            rw [List.getElem?_toArray, List.append_assoc]
            by_cases ho : o < old.length
            · rw [List.getElem?_append_left ho] at hq
              obtain ⟨u, hu1, hu2⟩ := h9.get hq
              refine ⟨u, ?_, hu2⟩
              rw [List.getElem?_append_left (by rw [hlen2]; omega), List.getElem?_take_of_lt (by omega), Array.getElem?_toList]
              have := h10 o u hu1
              rwa [cell_of_row w b _ arr T _ k2] at this
            · rw [List.getElem?_append_right (by omega)] at hq
              obtain ⟨u, hu1, hu2⟩ := hnew.get hq
              refine ⟨u, ?_, hu2⟩
              have hlt : o - old.length < news.length := (List.getElem?_eq_some_iff.1 hu1).1
              rw [List.getElem?_append_right (by rw [hlen2]; omega), hlen2, List.getElem?_append_left (by omega), ← hu1]
              congr 1
              omega
        · -- a new row
          refine growing h2 hm h9 h8 (run_firstCells_some w.drew es len _ len cap vs h8 (fun j u hu => by rw [Addr.add_lit]; exact h10 j u hu)) (by omega) (Nat.le_of_ble_eq_true hb3) (Nat.le_of_ble_eq_true hb4) ?_ ?_ |> fun ⟨u, w', φ', q1, q2, q3⟩ => ⟨u, w', φ', q1, q2, (q3.drop (id := id) (r.low id (by rw [hbk]; rfl))).alike (drop_more hidn) ?_⟩
          · exact fun j => rfl
          · rfl
          · rw [show ((h.more m (AB.cells (old ++ new'))).drop id).next = m from Hp.next_putB _ _ _]; rfl
  · -- an empty slice in a block
    rename_i id es
    obtain ⟨he, e1⟩ := br_ok e
    have hes : es = size := Nat.eq_of_beq_eq_true he
    subst hes
    obtain ⟨b, base, tot, o, cap, h1, h2, h3⟩ := hx
    cases hb : Nat.beq n 0 with
    | true =>
      rw [hb] at e1
      simp only [cond_true] at e1
      cases e1
      have n0 : n = 0 := Nat.eq_of_beq_eq_true hb
      have hn0 : news = [] := List.eq_nil_of_length_eq_zero (by rw [hnl, n0]; simp)
      refine ⟨.slice (some ⟨b, o, none⟩) 0 cap, w, φ, ?_, ⟨b, base, tot, o, cap, h1, rfl, h3⟩, Stp.refl r⟩
      have := S.room ty (some ⟨b, o, none⟩) 0 cap w (by omega) (by simp only; rw [hn0]; rfl)
      rw [h2, this, n0]
    | false =>
      rw [hb] at e1
      simp only [cond_false] at e1
      obtain ⟨hb2, e2⟩ := br_ok e1
      obtain ⟨hb3, hb4⟩ := and2 hb2
      obtain ⟨c0, hc0, e3⟩ := ro_ok e2
      obtain ⟨m, hm0, rfl, rfl⟩ := new_ok e3
      have hdn : (h.drop id).next = h.next := Hp.next_putB _ _ _
      have hm : h.next.inc = some m := by rw [← hdn]; exact hm0
      obtain ⟨bk, hbk, hk0⟩ := ob_some hc0
      cases bk with
      | map l => cases hk0
      | cells c1 =>
        cases hk0
        obtain ⟨b2, base2, arr, T, k1, k2, k3⟩ := r.cells id c0 hbk
        rw [h1] at k1
        cases k1
        have hidn : id ≠ h.next := by
          rintro rfl
          have := r.low _ (by rw [hbk]; rfl)
          omega
        rw [hdn]
        by_cases hroom : 0 + n ≤ cap
        · have hfit : o + news.length ≤ arr.size := by
            rw [hnl]
            have : n * es ≤ cap * es := Nat.mul_le_mul_right _ (by omega)
            omega
          have hst := run_storeCells_at P b o T news 0 arr w k2 (by simpa using hfit) hnew.ones
          have hsz' : (arr.toList.take (o + 0) ++ news ++ arr.toList.drop (o + 0 + news.length)).toArray.size = arr.size := by simp; omega
          refine ⟨.slice (some ⟨b, o, none⟩) (0 + n) cap, _, φ.add h.next (b, o, arr.size), ?_, ?_, r.reuse (c := new') hm hbk h1 k2 hsz' ?_⟩
          · rw [h2]
            refine S.room ty _ 0 cap _ hroom ?_
            simp only
            rw [Nat.zero_mul, Addr.add_lit]
            exact hst
          · exact ⟨b, o, arr.size, cap, Emb.add_same _ _ _, by simp, Nat.le_refl _, by omega, by omega⟩
          · have hlen2 : (arr.toList.take (o + 0)).length = o := by simp; omega
            refine ⟨by simp; omega, fun p q hq => ?_⟩
            rw [List.getElem?_toArray, List.append_assoc]
            obtain ⟨u, hu1, hu2⟩ := hnew.get hq
            refine ⟨u, ?_, hu2⟩
            have hlt : p < news.length := (List.getElem?_eq_some_iff.1 hu1).1
            rw [List.getElem?_append_right (by rw [hlen2]; omega), hlen2, List.getElem?_append_left (by omega), ← hu1]
            congr 1
            omega
        · have l1 : n ≤ 1048576 := Nat.le_of_ble_eq_true hb3
          have l2 : n * bytes ≤ 1048576 := Nat.le_of_ble_eq_true hb4
          obtain ⟨u, w', φ', q1, q2, q3⟩ := growing (k := h.more m (.cells ([] ++ new'))) (old := []) (olds := []) h2 hm .nil (by simp) (run_firstCells_some w.drew es 0 _ 0 cap [] (by simp) (fun j u hu => by simp at hu)) (by omega) (by omega) (by simpa using l2) (fun j => rfl) rfl
          refine ⟨u, w', φ', q1, by simpa using q2, (q3.drop (id := id) (r.low id (by rw [hbk]; rfl))).alike (drop_more hidn) ?_⟩
          rw [show ((h.more m (AB.cells ([] ++ new'))).drop id).next = m from Hp.next_putB _ _ _]; rfl
  · cases e
end
end Go.Proofs.YtmbbciidknchiaaGreat
