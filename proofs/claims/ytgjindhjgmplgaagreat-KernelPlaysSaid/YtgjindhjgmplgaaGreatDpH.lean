/-
  Deep values: append, slices that are written out, the other builtins. No function of the program is named here.
-/
import Derived.Test.YtgjindhjgmplgaaGreatDpG
import Derived.Deep.AppendSrc
import Derived.Deep.DeepAppendWide
import Derived.Lib.MinMax
import Derived.Laws.MakeOwn
import Derived.Lib.AppendZerosOnto
set_option linter.unusedVariables false
set_option linter.unusedSimpArgs false
set_option linter.constructorNameAsVariable false
namespace Go.Proofs.YtgjindhjgmplgaaGreat
open Go.RowKit
section
variable {P : Program} {G : Gd} {φ : Emb} {z : Fz} {fr : Frs} {m : Mem} {nx : Nat} {a : Act} {w : World} {k : KVk} {ty : TypeId} {call : CallF}
theorem grown_ge (w : World) (need old : Nat) (e : TypeId) : need ≤ grownCap w need old e := by simp [grownCap, Question.cut]
theorem grown_fits {need old b : Nat} (ho : old < need) (h1 : need ≤ 1048576) (h2 : need * b ≤ 1048576) (hb : b ≤ 1048576) : Builtin.nextslicecap need old * b ≤ 281474976710656 := by
  refine growslice_fits_wide ho ?_
  have h3 : (need + need / 4 + 192) * b = need * b + (need / 4) * b + 192 * b := by rw [Nat.add_mul, Nat.add_mul]
  have h4 : (need / 4) * b ≤ need * b := Nat.mul_le_mul_right _ (Nat.div_le_self _ _)
  omega
def RowsC (z : Fz) (e : Sh) (rows : List Row) (vs : List Value) : Prop := ∀ (i : Nat) row, rows[i]? = some row → RowD z e row ((vs.drop (i * e.length)).take e.length)
theorem RowsC.app {e : Sh} {r1 r2 : List Row} {olds news : List Value} (h1 : RowsC z e r1 olds) (h2 : RowsC z e r2 news) (hl : olds.length = r1.length * e.length) (hn : news.length = r2.length * e.length) (rest : List Value) : RowsC z e (r1 ++ r2) (olds ++ (news ++ rest)) := by
  intro j row hj
  by_cases hlt : j < r1.length
  · rw [List.getElem?_append_left hlt] at hj
    have := h1 j row hj
    have h3 : (j + 1) * e.length ≤ r1.length * e.length := Nat.mul_le_mul_right _ hlt
    rw [Nat.add_mul, Nat.one_mul] at h3
    rw [List.drop_append_of_le_length (by omega), List.take_append_of_le_length (by simp; omega)]
    exact this
  · rw [List.getElem?_append_right (by omega)] at hj
    have := h2 _ row hj
    have hj2 : j - r1.length < r2.length := (List.getElem?_eq_some_iff.1 hj).1
    have h3 : (j - r1.length + 1) * e.length ≤ r2.length * e.length := Nat.mul_le_mul_right _ hj2
    rw [Nat.add_mul, Nat.one_mul] at h3
    have h4 : j * e.length = olds.length + (j - r1.length) * e.length := by rw [hl, ← Nat.add_mul]; congr 1; omega
    rw [h4, ← List.drop_drop, List.drop_left, List.drop_append_of_le_length (by omega), List.take_append_of_le_length (by simp; omega)]
    exact this
theorem rows_cells {e : Sh} (hpos : 0 < e.length) {rows : List Row} {b off : Nat} {arr : Array Value} {T : TypeId} {fz : Nat × Nat} (hblk : w.heap[b]? = some (.cells arr T fz)) (hr : ∀ (i : Nat) row, rows[i]? = some row → RowD z e row ((arr.toList.drop (off + i * e.length)).take e.length)) :
    ∃ olds : List Value, olds = (arr.toList.drop off).take (rows.length * e.length) ∧ olds.length = rows.length * e.length ∧ (∀ j u, olds[j]? = some u → w.cell? ((⟨b, off, none⟩ : Addr).add j) = some u) ∧ RowsC z e rows olds := by
  refine ⟨_, rfl, ?_, ?_, ?_⟩
  · by_cases h0 : rows.length = 0
    · simp [h0]
    · have hlt : rows.length - 1 < rows.length := by omega
      have hl1 := (hr (rows.length - 1) rows[rows.length - 1] (List.getElem?_eq_getElem hlt)).all.2.1
      rw [List.length_take, List.length_drop] at hl1
      have h7 : (rows.length - 1) * e.length + e.length = rows.length * e.length := by rw [← Nat.succ_mul]; congr 1; omega
      rw [List.length_take, List.length_drop]
      omega
  · intro j u hu
    have hj : j < rows.length * e.length := by
      have := (List.getElem?_eq_some_iff.1 hu).1
      simp at this; omega
    rw [List.getElem?_take_of_lt hj, List.getElem?_drop, Array.getElem?_toList] at hu
    rw [Addr.add_lit, cell_of_row w b _ arr T _ hblk]
    exact hu
  · intro i row hri
    have hi := (List.getElem?_eq_some_iff.1 hri).1
    have h8 := hr i row hri
    have h9 : i * e.length + e.length ≤ rows.length * e.length := by
      rw [← Nat.succ_mul]; exact Nat.mul_le_mul_right _ hi
    rw [List.drop_take, List.take_take, List.drop_drop, Nat.min_eq_left (by omega)]
    exact h8
theorem RowsC.ones {e : Sh} (hpos : 0 < e.length) {rows : List Row} {vs : List Value} (h : RowsC z e rows vs) (hl : vs.length = rows.length * e.length) : ∀ u ∈ vs, u.oneCell' = true := by
  intro u hu
  obtain ⟨j, hj⟩ := List.getElem?_of_mem hu
  have hjl := (List.getElem?_eq_some_iff.1 hj).1
  have hi : j / e.length < rows.length := by
    rw [hl] at hjl
    exact Nat.div_lt_of_lt_mul (by rw [Nat.mul_comm]; exact hjl)
  refine (h (j / e.length) rows[j / e.length] (List.getElem?_eq_getElem hi)).ones u (List.mem_of_getElem? (i := j % e.length) ?_)
  rw [List.getElem?_take_of_lt (Nat.mod_lt _ hpos), List.getElem?_drop, Nat.mul_comm, Nat.div_add_mod, hj]
theorem src_rows (r : MR G φ z m w) {c : DC} {s : Sh} {l : List Row} {u : Value} (hpos : 0 < s.length) (e : rowsOf m c = some (s, l)) (h : CV φ z c u) {tx e' : TypeId} (hk : P.underlying tx = some (.slice e')) : ∃ news, Src P s.length tx u l.length news w ∧ RowsC z s l news ∧ ∃ p cap, u = .slice p l.length cap := by
  have nil : ∀ {cap : Nat}, l = [] → u = .slice none 0 cap → ∃ news, Src P s.length tx u l.length news w ∧ RowsC z s l news ∧ ∃ p cap, u = .slice p l.length cap := by
    intro cap hl hu
    subst hl; subst hu
    exact ⟨[], Src.ofNil w hk cap, fun i row hr => by simp at hr, none, cap, rfl⟩
  have blk : ∀ {b off cap : Nat} {arr : Array Value} {T : TypeId} {fz : Nat × Nat}, u = .slice (some ⟨b, off, none⟩) l.length cap → w.heap[b]? = some (.cells arr T fz) → (∀ (i : Nat) row, l[i]? = some row → RowD z s row ((arr.toList.drop (off + i * s.length)).take s.length)) → ∃ news, Src P s.length tx u l.length news w ∧ RowsC z s l news ∧ ∃ p cap, u = .slice p l.length cap := by
    intro b off cap arr T fz hu hb hr
    subst hu
    obtain ⟨olds, h1, h2, h3, h4⟩ := rows_cells hpos hb hr
    exact ⟨olds, Src.ofSlice w hk _ _ _ _ h2 h3 (h4.ones hpos h2), h4, _, cap, rfl⟩
  have frz : SlD z s l u → ∃ news, Src P s.length tx u l.length news w ∧ RowsC z s l news ∧ ∃ p cap, u = .slice p l.length cap := by
    rintro ⟨p, cap, hp, hcap, hrows⟩
    rcases hrows with hrows | ⟨b, off, arr, T, fz, rfl, h5, h6⟩
    · subst hrows
      subst hp
      refine ⟨[], ⟨.inl ⟨e', hk⟩, fun _ => rfl, ?_, ?_, by simp, fun _ h => by cases h⟩, fun i row hr => by simp at hr, p, cap, rfl⟩
      · cases p with
        | none => exact run_firstCells_none w _ _ _ _
        | some q => exact run_firstCells_some w _ _ _ _ _ [] (by simp) (fun j u hu => by simp at hu)
      · cases p with
        | none => exact run_firstCells_none w.drew _ _ _ _
        | some q => exact run_firstCells_some w.drew _ _ _ _ _ [] (by simp) (fun j u hu => by simp at hu)
    · exact blk hp (r.frz b _ h5) h6
  unfold rowsOf at e
  split at e
  · cases e; exact frz h
  · cases e; exact frz h.1
  · split at e
    · rename_i hx
      cases e
      obtain ⟨hu, _⟩ := h
      rcases r.blk _ _ hx with ⟨h1, h2⟩ | ⟨b, off, arr, T, cap, h1, h2, h3, h4, h5⟩
      · exact nil h2 (Option.some.inj (hu.symm.trans h1))
      · exact blk (off := off) (Option.some.inj (hu.symm.trans h1)) h4 h5
    · cases e
  · cases e
theorem opR_builtin {f : Operand → Value} {c : Call} {b : Builtin} (hc : c.callee = .builtin b) : (opR f (.call c) ty).run P w = (builtin b c.argTypes ty (c.args.map fun | .const _ => true | _ => false) (c.args.map f)).run P w := by
  simp [opR, execOp, resolve, hc, invoke]
  rfl
theorem arr1 {α : Type} {x : Array α} {u : α} (e : x.toList = [u]) : x = #[u] := by cases x; simpa using e
theorem arr2 {α : Type} {x : Array α} {u v : α} (e : x.toList = [u, v]) : x = #[u, v] := by cases x; simpa using e
theorem run_ap {w' : World} {c : Call} {x y : Operand} {t tx : TypeId} (hc : c.callee = .builtin .append) (ha : c.args = #[x, y]) (ht : c.argTypes = #[t, tx]) {u : Value} (hr : (Builtin.append_ #[t, tx] ty #[a.eval x, a.eval y]).run P w = .ok u w') : (opR a.eval (.call c) ty).run P w = .ok (.value u) w' := by
  rw [opR_builtin hc, ha, ht]
  simp only [builtin, Sem.run_bind]
  have : (#[x, y] : Array Operand).map a.eval = #[a.eval x, a.eval y] := by simp
  rw [this, hr]
  rfl
theorem ap_grow (g : Gv G φ z fr m nx a w k) {c : Call} {x y : Operand} {t tx e : TypeId} {i : TypeInfo} {zv : Value} {s : Sh} {l l2 : List Row} {p : Option Addr} {cap : Nat} {news olds : List Value} (hc : c.callee = .builtin .append) (ha : c.args = #[x, y]) (ht : c.argTypes = #[t, tx]) (hu : P.underlying t = some (.slice e)) (hi : P.info? e = some i) (hz : i.zero = some zv) (hzs : zv.cells.size = i.size) (hs : s.length = i.size) (hpos : 0 < s.length) (hb : i.bytes ≤ 1048576)
    (hx : a.eval x = .slice p l.length cap) (S : Src P s.length tx (a.eval y) l2.length news w) (h2 : RowsC z s l2 news) (hol : olds.length = l.length * s.length) (hold : (Builtin.firstCells s.length l.length (.slice p l.length cap)).run P w.drew = .ok olds.toArray w.drew) (h1 : RowsC z s l olds) (hgr : cap < l.length + l2.length) (hok : apOk i.bytes l l2 = true) {m' : Mem} (hm : ∀ q B, look q m' = some B → look q m = some B)
    (hk : k (.c (.ow nx)) ((nx, .W s (lap l l2)) :: m') (nx + 1)) : Done P G φ z nx (.call c) ty a.eval w k := by
  obtain ⟨k1, k2⟩ := and2 hok
  have k1 : l.length + l2.length ≤ 1048576 := of_decide_eq_true k1
  have k2 : (l.length + l2.length) * i.bytes ≤ 1048576 := of_decide_eq_true k2
  have hrun := run_append_grow_src (w := w) t tx ty e i zv hu hi hz p l.length cap olds (by rw [← hs]; exact hold) (a.eval y) l2.length news (by rw [← hs]; exact S) hgr (by omega) (grown_fits hgr k1 k2 hb)
  generalize hcp : grownCap w (l.length + l2.length) cap e = cp at hrun
  have hge : l.length + l2.length ≤ cp := by rw [← hcp]; exact grown_ge _ _ _ _
  have hlen : (lap l l2).length = l.length + l2.length := by simp [lap]
  have hB : ∀ φ', Emb.le φ φ' → φ' nx = some (.slice (some ⟨w.heap.size, 0, none⟩) (l.length + l2.length) cp) → BR φ' z (w.drew.alloc (.cells ((olds ++ news).toArray ++ Builtin.zeroCells zv.cells (cp - (l.length + l2.length))) e)) nx (.W s (lap l l2)) := by
    intro φ' _ hφ
    refine .inr ⟨w.heap.size, 0, (olds ++ news).toArray ++ Builtin.zeroCells zv.cells (cp - (l.length + l2.length)), e, cp, by rw [hlen]; exact hφ, by rw [hlen]; exact hge, ?_, by show (w.heap.push _)[w.heap.size]? = _; simp, ?_⟩
    · have hnl := S.newsLen
      have : (Builtin.zeroCells zv.cells (cp - (l.length + l2.length))).size = (cp - (l.length + l2.length)) * s.length := by simp [Builtin.zeroCells, hzs, hs]
      simp only [Array.size_append, List.size_toArray, List.length_append, hol, hnl, this]
      rw [← Nat.add_mul, ← Nat.add_mul, Nat.zero_add]
      exact Nat.mul_le_mul_right _ (by omega)
    · have := h1.app h2 hol S.newsLen (Builtin.zeroCells zv.cells (cp - (l.length + l2.length))).toList
      intro j row hj
      have := this j row hj
      simpa [List.append_assoc] using this
  have hnew := g.new _ _ _ hk nx (Nat.le_refl _) (Nat.lt_succ_self _)
  have hle := Emb.le_add hnew (.slice (some ⟨w.heap.size, 0, none⟩) (l.length + l2.length) cp)
  refine ⟨_, _, _, φ.add nx _, z, _, _, .value _, hk, hle, .refl z, ?_, Dom.add _ _ _, Nat.le_succ _, ⟨Emb.add_same _ _ _, _, _, _, rfl⟩, run_ap hc ha ht (by rw [hx]; exact hrun), rfl⟩
  exact (g.m.forget hm).new hnew (o := some _) rfl rfl rfl rfl rfl (hB _ hle (Emb.add_same _ _ _))
def zrowV (us : Array Value) (k : Nat) : List Value := (List.range k).map (us[· % us.size]!)
theorem zrowV_eq (us : Array Value) (k : Nat) : (Array.range k).map (us[· % us.size]!) = (zrowV us k).toArray := by
  apply Array.ext'; simp [zrowV]
theorem zrowV_rows {s : Sh} {us : Array Value} (h : RowD z s (zRow s) us.toList) (hpos : 0 < s.length) (n : Nat) : RowsC z s (List.replicate n (zRow s)) (zrowV us (n * s.length)) := by
  intro i row hr
  have hi : i < n := by have := (List.getElem?_eq_some_iff.1 hr).1; simpa using this
  rw [List.getElem?_replicate, if_pos hi] at hr
  cases hr
  obtain ⟨h1, h2, h3⟩ := h.all
  have hus : us.size = s.length := by simpa using h2
  have hfit : (i + 1) * s.length ≤ n * s.length := Nat.mul_le_mul_right _ hi
  rw [Nat.add_mul, Nat.one_mul] at hfit
  have hseg : ((zrowV us (n * s.length)).drop (i * s.length)).take s.length = us.toList := by
    apply List.ext_getElem?
    intro j
    by_cases hj : j < s.length
    · rw [List.getElem?_take_of_lt hj, List.getElem?_drop]
      have hlt : i * s.length + j < n * s.length := by omega
      unfold zrowV
      rw [List.getElem?_map, List.getElem?_range hlt]
      have hm : (i * s.length + j) % us.size = j := by rw [hus, Nat.mul_comm, Nat.mul_add_mod, Nat.mod_eq_of_lt hj]
      simp only [Option.map_some, hm]
      rw [List.getElem?_eq_getElem (by omega)]
      simp [getElem!_pos us j (by omega)]
    · rw [List.getElem?_take_eq_none (by omega), List.getElem?_eq_none (by omega)]
  rw [hseg]; exact h
theorem zeroR_row {t : TypeId} {s : Sh} {r : Row} (e : zeroR P t = some (s, r)) : r = zRow s := by
  unfold zeroR at e
  split at e
  · split at e
    · revert e
      generalize zOk _ _ = b
      cases b with
      | false => intro e; cases e
      | true => intro e; cases e; rfl
    · cases e
  · cases e
theorem all_some : ∀ {X : List (Option Row)}, X.all Option.isSome = true → X = (X.filterMap id).map some
  | [], _ => rfl
  | none :: X, h => by simp at h
  | some r :: X, h => by
    have h2 : X.all Option.isSome = true := by simpa using h
    have := all_some h2
    simp only [List.filterMap_cons, id, List.map_cons]
    rw [← this]
theorem jok_ok {l : List (Option Row)} {a b : Int} (h : jok l a b = true) : ∃ A B : Nat, a = A ∧ b = B ∧ A ≤ B ∧ B ≤ l.length ∧ (jsub l a b).length = B - A ∧ ∀ (i : Nat) row, (jsub l a b)[i]? = some row → l[A + i]? = some (some row) := by
  obtain ⟨h1, h⟩ := and2 h
  obtain ⟨h2, h⟩ := and2 h
  obtain ⟨h3, h4⟩ := and2 h
  have h1 : 0 ≤ a := of_decide_eq_true h1
  have h2 : a ≤ b := of_decide_eq_true h2
  have h3 : b ≤ l.length := of_decide_eq_true h3
  have hX := all_some h4
  have hl : ((l.take b.toNat).drop a.toNat).length = b.toNat - a.toNat := by simp; omega
  refine ⟨a.toNat, b.toNat, by omega, by omega, by omega, by omega, ?_, fun i row hi => ?_⟩
  · have := congrArg List.length hX
    rw [List.length_map] at this
    unfold jsub; omega
  · have h5 : ((l.take b.toNat).drop a.toNat)[i]? = some (some row) := by
      rw [hX, List.getElem?_map]
      show Option.map some ((jsub l a b)[i]?) = _
      rw [hi]; rfl
    have hlt := (List.getElem?_eq_some_iff.1 h5).1
    rw [List.getElem?_drop, List.getElem?_take_of_lt (by omega)] at h5
    exact h5
theorem jput_get {l : List (Option Row)} {A : Nat} {rows : List Row} (h : A + rows.length ≤ l.length) (i : Nat) : (jput l A rows)[i]? = if i < A then l[i]? else if i < A + rows.length then (rows[i - A]?).map some else l[i]? := by
  have h2 : jput l A rows = l.take A ++ (rows.map some ++ l.drop (A + rows.length)) := rfl
  rw [h2]
  have := over_get l (rows.map some) A rows.length i h (by simp)
  rw [this]
  simp [List.getElem?_map]
theorem jput_len {l : List (Option Row)} {A : Nat} {rows : List Row} (h : A + rows.length ≤ l.length) : (jput l A rows).length = l.length := by
  have h2 : jput l A rows = l.take A ++ (rows.map some ++ l.drop (A + rows.length)) := rfl
  rw [h2]; simp; omega
def RowsAt (z : Fz) (w : World) (s : Sh) (l : List Row) (u : Value) : Prop := ∃ p cap news, u = .slice p l.length cap ∧ (l = [] ∨ ∃ ad, p = some ad ∧ ∀ (j : Nat) v, news[j]? = some v → w.cell? (ad.add j) = some v) ∧ news.length = l.length * s.length ∧ RowsC z s l news
theorem RowsAt.nil {s : Sh} {p : Option Addr} {cap : Nat} : RowsAt z w s [] (.slice p 0 cap) := ⟨p, cap, [], rfl, .inl rfl, by simp, fun i row h => by simp at h⟩
theorem RowsAt.blk {s : Sh} (hpos : 0 < s.length) {l : List Row} {b off cap : Nat} {arr : Array Value} {T : TypeId} {fz : Nat × Nat} (hb : w.heap[b]? = some (.cells arr T fz)) (hr : ∀ (i : Nat) row, l[i]? = some row → RowD z s row ((arr.toList.drop (off + i * s.length)).take s.length)) : RowsAt z w s l (.slice (some ⟨b, off, none⟩) l.length cap) := by
  obtain ⟨olds, h1, h2, h3, h4⟩ := rows_cells hpos hb hr
  exact ⟨_, cap, olds, rfl, .inr ⟨_, rfl, h3⟩, h2, h4⟩
theorem rows_at (r : MR G φ z m w) {c : DC} {s : Sh} {l : List Row} {u : Value} (hpos : 0 < s.length) (e : rowsOf m c = some (s, l)) (h : CV φ z c u) : RowsAt z w s l u := by
  have frz : SlD z s l u → RowsAt z w s l u := by
    rintro ⟨p, cap, rfl, hcap, hrows⟩
    rcases hrows with rfl | ⟨b, off, arr, T, fz, rfl, h5, h6⟩
    · exact .nil
    · exact .blk hpos (r.frz b _ h5) h6
  unfold rowsOf at e
  split at e
  · cases e; exact frz h
  · cases e; exact frz h.1
  · split at e
    · rename_i hx
      cases e
      obtain ⟨hu, _⟩ := h
      rcases r.blk _ _ hx with ⟨h1, rfl⟩ | ⟨b, off, arr, T, cap, h1, h2, h3, h4, h5⟩
      · rw [hu] at h1; cases h1; exact .nil
      · rw [hu] at h1; cases h1; exact .blk hpos h4 h5
    · cases e
  · cases e
theorem d_convB {s d e : TypeId} {x : Operand} (g : Gv G φ z fr m nx a w k) (hs : P.underlying s = some (.slice e)) (hd : P.underlying d = some .string) (h : convB P e fr m x fun c => k (.c c) m nx) : Done P G φ z nx (.convert s d x) ty a.eval w k := by
  unfold convB at h
  split at h
  · rename_i he
    obtain ⟨c, h1, h⟩ := onC_ok h
    have hv : CV φ z c (a.eval x) := ev_ok g.fr h1
    split at h
    · rename_i sh l hl
      rcases fk_ok h with ⟨h2, h⟩ | ⟨_, h⟩
      · have := shEq_eq _ _ h2
        subst this
        obtain ⟨p, cap, news, hu, hp, hn, hr⟩ := rows_at g.m (by decide) hl hv
        have hn : news.length = l.length := by rw [hn]; simp
        have hnews : news = (l.map fun r => ri r 0).map (Value.int .u8) := by
          apply List.ext_getElem?
          intro j
          by_cases hj : j < l.length
          · have h3 := hr j l[j] (List.getElem?_eq_getElem hj)
            obtain ⟨d0, r', v, vs', e1, e2, e3, e4⟩ := h3
            obtain ⟨e5, e6⟩ := e4
            have e7 : news[j]? = some v := by
              have : ((news.drop (j * 1)).take 1)[0]? = some v := by
                have : ([Kd.i IntKind.u8] : Sh).length = 1 := rfl
                rw [show (news.drop (j * 1)).take 1 = (news.drop (j * ([Kd.i IntKind.u8] : Sh).length)).take ([Kd.i IntKind.u8] : Sh).length from rfl, e2]; rfl
              rw [List.getElem?_take_of_lt (by omega), List.getElem?_drop] at this
              simpa using this
            rw [e7, List.getElem?_map, List.getElem?_map, List.getElem?_eq_getElem hj]
            obtain ⟨n, rfl, rfl⟩ := e3
            rw [e1]; rfl
          · rw [List.getElem?_eq_none (by omega), List.getElem?_eq_none (by simp; omega)]
        have run : (Conv.bytesToString (.slice p l.length cap)).run P w = .ok (.string (bstr l)) w := by
          cases p with
          | none =>
            rcases hp with rfl | ⟨ad, h4, _⟩
            · simp [Conv.bytesToString, bstr]
            · cases h4
          | some ad =>
            refine run_bytesToString w ad l.length cap _ ?_
            rw [← hnews]
            have hc : ∀ (j : Nat) v, news[j]? = some v → w.cell? (ad.add j) = some v := by
              rcases hp with rfl | ⟨ad', h4, h5⟩
              · intro j v hj
                have : news = [] := List.eq_nil_of_length_eq_zero (by simpa using hn)
                rw [this] at hj; simp at hj
              · cases h4; exact h5
            rw [← hn]
            exact run_loadCells_list w ad news hc
        refine Done.val g (v := .c (.s (bstr l))) (u := .string (bstr l)) h rfl ?_
        simp only [opR, execOp]
        rw [hu]
        simp only [Sem.run_bind, run_convert_bytes_string w s d e p l.length cap hs he hd, run]
        rfl
      · exact h.elim
    · exact h.elim
  · exact h.elim
theorem part_at (r : MR G φ z m w) {c : DC} {x : Nat} {s : Sh} {lo hi n : Int} {l : List (Option Row)} {u : Value} (hpos : 0 < s.length) (e : partOf m c = some (x, s, lo, hi, n, l)) (hok : jok l lo hi = true) (h : CV φ z c u) : RowsAt z w s (jsub l lo hi) u := by
  obtain ⟨hx, p, k, a, b, q1, q2, q3, rfl, rfl, q6, q7, q, rfl, q8, q9, q10⟩ := partOf_ok r e h
  obtain ⟨A, B, e1, e2, h3, h4, h5, h6⟩ := jok_ok hok
  have e1 : a = A := by omega
  have e2 : b = B := by omega
  subst e1; subst e2
  by_cases h0 : a = b
  · have : jsub l a b = [] := List.eq_nil_of_length_eq_zero (by rw [h5]; omega)
    rw [this, show b - a = 0 by omega]; exact .nil
  · have q9 := q9 (by omega)
    subst q9
    rcases r.blk x _ hx with ⟨h1, rfl, rfl⟩ | ⟨bl, off, arr, T, k', h1, h2, h3', h4', h5', h6'⟩
    · simp at h4; omega
    · rw [q1] at h1
      cases h1
      have := RowsAt.blk (z := z) (w := w) hpos (l := jsub l a b) (off := off + a * s.length) (cap := l.length - a) h5' fun i row hi => by
        have := h6' _ row (h6 i row hi)
        rwa [Nat.add_mul, ← Nat.add_assoc] at this
      rw [h5] at this
      simpa [Addr.add_lit] using this
theorem src_at (r : MR G φ z m w) {c : DC} {K : Sh → List Row → Prop} {u : Value} (e : srcOf m c K) (h : CV φ z c u) : ∃ s l, K s l ∧ (0 < s.length → RowsAt z w s l u) := by
  unfold srcOf at e
  split at e
  · rename_i s l hr; exact ⟨s, l, e, fun hpos => rows_at r hpos hr h⟩
  · split at e
    · rename_i y s a b n l hp
      obtain ⟨h1, h2⟩ := fk_yes e
      exact ⟨s, _, h2, fun hpos => part_at r hpos hp h1 h⟩
    · exact e.elim
theorem RowsAt.len {s : Sh} {l : List Row} {u : Value} (h : RowsAt z w s l u) (w' : World) : (Builtin.lenOf u).run P w' = .ok l.length w' := by
  obtain ⟨p, cap, news, rfl, _⟩ := h; rfl
theorem RowsAt.first {s : Sh} (hpos : 0 < s.length) {l : List Row} {u : Value} (h : RowsAt z w s l u) {n : Nat} (hn : n ≤ l.length) : ∃ news, news.length = n * s.length ∧ RowsC z s (l.take n) news ∧ (Builtin.firstCells s.length n u).run P w = .ok news.toArray w := by
  obtain ⟨p, cap, news, rfl, h1, h2, h3⟩ := h
  have hle : n * s.length ≤ l.length * s.length := Nat.mul_le_mul_right _ hn
  refine ⟨news.take (n * s.length), by simp; omega, fun i row hi => ?_, ?_⟩
  · have hlt : i < n := by have := (List.getElem?_eq_some_iff.1 hi).1; simp at this; omega
    rw [List.getElem?_take_of_lt hlt] at hi
    have := h3 i row hi
    have h4 : (i + 1) * s.length ≤ n * s.length := Nat.mul_le_mul_right _ hlt
    rw [Nat.add_mul, Nat.one_mul] at h4
    rw [List.drop_take, List.take_take, Nat.min_eq_left (by omega)]
    exact this
  · rcases h1 with rfl | ⟨ad, rfl, h1⟩
    · have : n = 0 := by simpa using hn
      subst this
      cases p with
      | none => simpa using run_firstCells_none w s.length 0 0 cap
      | some q => simpa using run_firstCells_some w s.length 0 q 0 cap [] (by simp) (fun j v h => by simp at h)
    · exact run_firstCells_some w _ _ _ _ _ _ (by simp; omega) fun j v hj => h1 j v (by
        have hlt : j < n * s.length := by have := (List.getElem?_eq_some_iff.1 hj).1; simp at this; omega
        rw [List.getElem?_take_of_lt hlt] at hj; exact hj)
theorem RowsAt.drew {s : Sh} {l : List Row} {u : Value} (h : RowsAt z w s l u) : RowsAt z w.drew s l u := by
  obtain ⟨p, cap, news, rfl, h1, h2⟩ := h
  exact ⟨p, cap, news, rfl, h1, h2⟩
theorem RowsAt.src {s : Sh} (hpos : 0 < s.length) {l : List Row} {u : Value} (h : RowsAt z w s l u) {tx e' : TypeId} (hk : P.underlying tx = some (.slice e')) : ∃ news, Src P s.length tx u l.length news w ∧ RowsC z s l news := by
  obtain ⟨p, cap, news, rfl, h1, h2, h3⟩ := h
  rcases h1 with rfl | ⟨ad, rfl, h1⟩
  · refine ⟨[], ⟨.inl ⟨e', hk⟩, fun _ => rfl, ?_, ?_, by simp, fun _ h => by cases h⟩, fun i row hr => by simp at hr⟩
    · cases p with
      | none => exact run_firstCells_none w _ _ _ _
      | some q => exact run_firstCells_some w _ _ _ _ _ [] (by simp) (fun j u hu => by simp at hu)
    · cases p with
      | none => exact run_firstCells_none w.drew _ _ _ _
      | some q => exact run_firstCells_some w.drew _ _ _ _ _ [] (by simp) (fun j u hu => by simp at hu)
  · exact ⟨news, Src.ofSlice w hk _ _ _ _ h2 h1 (h3.ones hpos h2), h3⟩
theorem seg_rows (X news : List Value) (L o A n i : Nat) (hX : o + A * L + n * L ≤ X.length) (hn : news.length = n * L) :
    ((X.take (o + A * L) ++ (news ++ X.drop (o + A * L + n * L))).drop (o + i * L)).take L = if i < A then (X.drop (o + i * L)).take L else if i < A + n then (news.drop ((i - A) * L)).take L else (X.drop (o + i * L)).take L := by
  apply List.ext_getElem?
  intro q
  by_cases hq : q < L
  · rw [List.getElem?_take_of_lt hq, List.getElem?_drop, over_get X news _ (n * L) _ hX hn]
    by_cases h1 : i < A
    · have : (i + 1) * L ≤ A * L := Nat.mul_le_mul_right _ h1
      rw [Nat.add_mul, Nat.one_mul] at this
      rw [if_pos h1, if_pos (by omega), List.getElem?_take_of_lt hq, List.getElem?_drop]
    · have hA : A * L ≤ i * L := Nat.mul_le_mul_right _ (by omega)
      rw [if_neg h1, if_neg (by omega)]
      by_cases h2 : i < A + n
      · have : (i + 1) * L ≤ (A + n) * L := Nat.mul_le_mul_right _ h2
        rw [Nat.add_mul, Nat.one_mul, Nat.add_mul] at this
        rw [if_pos h2, if_pos (by omega), List.getElem?_take_of_lt hq, List.getElem?_drop]
        congr 1
        rw [Nat.mul_sub_right_distrib]; omega
      · have : (A + n) * L ≤ i * L := Nat.mul_le_mul_right _ (by omega)
        rw [Nat.add_mul] at this
        rw [if_neg h2, if_neg (by omega), List.getElem?_take_of_lt hq, List.getElem?_drop]
  · rw [List.getElem?_take_eq_none (by omega)]
    split
    · rw [List.getElem?_take_eq_none (by omega)]
    · split <;> rw [List.getElem?_take_eq_none (by omega)]
theorem MR.put_same (r : MR G φ z m w) {x : Nat} {B : Blk} (hx : look x m = some B) : MR G φ z (putM x B m) w := r.forget fun y B' h => by
  unfold putM at h
  by_cases hy : x = y
  · subst hy; rw [look_same] at h; cases h; exact hx
  · rw [look_ne hy, look_drp_ne (fun e => hy e.symm)] at h; exact h
theorem part_store (r : MR G φ z m w) {x : Nat} {e : Sh} {n : Int} {l : List (Option Row)} (hx : look x m = some (.J e n l)) {p : Option Addr} {k : Nat} (hp : φ x = some (.slice p k l.length)) {A : Nat} {rows : List Row} {news : List Value} (hpos : 0 < e.length) (hfit : A + rows.length ≤ l.length) (hr : RowsC z e rows news) (hl : news.length = rows.length * e.length) :
    ∃ w', (∀ ad, (A < l.length → some ad = p.map (·.add (A * e.length))) → (storeCells ad news).run P w = .ok () w') ∧ (p = none → w' = w) ∧ MR G φ z (putM x (.J e n (jput l A rows)) m) w' := by
  by_cases h0 : rows = []
  · subst h0
    have : news = [] := List.eq_nil_of_length_eq_zero (by simpa using hl)
    subst this
    have hj : jput l A [] = l := by
      have h2 : jput l A ([] : List Row) = l.take A ++ (([] : List Row).map some ++ l.drop (A + 0)) := rfl
      rw [h2]; simp
    refine ⟨w, fun ad _ => by simp [storeCells], fun _ => rfl, ?_⟩
    rw [hj]; exact r.put_same hx
  · have hlen : 0 < rows.length := List.length_pos_iff.2 h0
    rcases r.blk x _ hx with ⟨h1, rfl, rfl⟩ | ⟨b, off, arr, T, k', h1, h2, h3, h4, h5, h6⟩
    · simp at hfit; exact absurd hfit.2 h0
    · rw [hp] at h1; cases h1
      have hmul : (A + rows.length) * e.length ≤ l.length * e.length := Nat.mul_le_mul_right _ hfit
      rw [Nat.add_mul] at hmul
      have hst := run_storeCells_at P b (off + A * e.length) T news 0 arr w h5 (by rw [hl]; omega) (hr.ones hpos hl)
      refine ⟨w.setRow b (arr.toList.take (off + A * e.length) ++ (news ++ arr.toList.drop (off + A * e.length + rows.length * e.length))).toArray, fun ad had => ?_, (fun h => nomatch h), ?_⟩
      · have had : ad = (⟨b, off, none⟩ : Addr).add (A * e.length) := Option.some.inj (had (by omega))
        rw [had, Addr.add_lit]
        simpa [hl, List.append_assoc] using hst
      · refine r.upd hx rfl hp rfl (fun g hg => setRow_other _ _ _ _ hg) (by simp [World.setRow]) rfl rfl rfl (.inr ⟨b, off, _, T, k, by rw [jput_len hfit]; exact hp, h2, by rw [jput_len hfit]; exact h3, ?_, setRow_heap w b arr _ T (0, 0) h5, ?_⟩)
        · rw [jput_len hfit]; simp; omega
        · intro i row hi
          rw [jput_get hfit] at hi
          have hs := seg_rows arr.toList news e.length off A rows.length i (by simp; omega) hl
          simp only at hs ⊢
          rw [hs]
          by_cases i1 : i < A
          · rw [if_pos i1] at hi ⊢; exact h6 i row hi
          · rw [if_neg i1] at hi ⊢
            by_cases i2 : i < A + rows.length
            · rw [if_pos i2] at hi ⊢
              obtain ⟨rw0, e1, e2⟩ := map_some hi
              cases e2
              exact hr _ _ e1
            · rw [if_neg i2] at hi ⊢; exact h6 i row hi
theorem d_cap {c : Call} {x : Operand} {t : TypeId} (hc : c.callee = .builtin .cap) (ha0 : c.args.toList = [x]) (ht0 : c.argTypes.toList = [t]) (g : Gv G φ z fr m nx a w k) (h : dop P call fr m nx (.call c) k) : Done P G φ z nx (.call c) ty a.eval w k := by
  have ha := arr1 ha0
  have ht := arr1 ht0
  simp only [dop, hc, ha0, ht0] at h
  split at h
  · rename_i e hu
    obtain ⟨cx, h1, h⟩ := onC_ok h
    have hx : CV φ z cx (a.eval x) := ev_ok g.fr h1
    split at h
    · rename_i y s lo hi n l hp
      obtain ⟨hy, p, k1, A, B, q1, q2, q3, rfl, rfl, q6, q7, q, hv, _⟩ := partOf_ok g.m hp hx
      have : xsub (jcap l) (A : Int) = ((l.length - A : Nat) : Int) := by unfold xsub jcap; omega
      rw [this] at h
      exact Done.val g (u := .int .i64 ((l.length - A : Nat) : Int)) h rfl (by rw [opR_builtin hc, ha, ht]; simp [builtin, Builtin.cap_, goInt, hv, run_underlying hu])
    · exact h.elim
  · exact h.elim
theorem part_done (g : Gv G φ z fr m nx a w k) {op : Op} {v : V} {u : Value} {m' : Mem} {w' : World} {nt : Next} (hk : k v m' nx) (hm : MR G φ z m' w') (hv : VR φ z v u) (hr : (opR a.eval op ty).run P w = .ok nt w') (hn : nxv nt = some u) : Done P G φ z nx op ty a.eval w k :=
  ⟨v, m', nx, φ, z, u, w', nt, hk, .refl _, .refl _, hm, Dom.refl _ _, Nat.le_refl _, hv, hr, hn⟩
theorem szT_run {t : TypeId} {s : Nat} (e : szT P t = some s) (w : World) : (sizeOf t).run P w = .ok s w := by
  unfold szT at e
  split at e
  · rename_i i hi; cases e; simp [sizeOf, typeInfo, hi]
  · cases e
theorem d_copy {c : Call} {x y : Operand} {t tx : TypeId} (hc : c.callee = .builtin .copy) (ha0 : c.args.toList = [x, y]) (ht0 : c.argTypes.toList = [t, tx]) (g : Gv G φ z fr m nx a w k) (h : dop P call fr m nx (.call c) k) : Done P G φ z nx (.call c) ty a.eval w k := by
  have ha := arr2 ha0
  have ht := arr2 ht0
  simp only [dop, hc, ha0, ht0] at h
  split at h
  · rename_i e e2 hu hu2
    split at h
    · rename_i sz hsz
      obtain ⟨cx, h1, h⟩ := onC_ok h
      obtain ⟨cy, h2, h⟩ := onC_ok h
      have hx : CV φ z cx (a.eval x) := ev_ok g.fr h1
      have hy : CV φ z cy (a.eval y) := ev_ok g.fr h2
      split at h
      · rename_i q s lo hi n l hp
        obtain ⟨hcd, h⟩ := fk_yes h
        obtain ⟨c1, c2⟩ := and2 hcd
        have c1 := Nat.eq_of_beq_eq_true c1
        have c2 : 1 ≤ sz := Nat.le_of_ble_eq_true c2
        have hpos : 0 < s.length := by omega
        obtain ⟨hq, p, k1, A, B, q1, q2, q3, rfl, rfl, q6, q7, qa, hv, _, q9, _⟩ := partOf_ok g.m hp hx
        have fin : ∀ {rows : List Row} {N : Nat} {news : List Value}, rows.length = N → N ≤ B - A → news.length = N * s.length → RowsC z s rows news → (Builtin.firstCells s.length N (a.eval y)).run P w = .ok news.toArray w → (∃ L, (∀ w', (Builtin.lenOf (a.eval y)).run P w' = .ok L w') ∧ Nat.min L (B - A) = N) → k (.c (.i .i64 (N : Int))) (putM q (.J s n (jput l (A : Int) rows)) m) nx → Done P G φ z nx (.call c) ty a.eval w k := by
          rintro rows N news hN hle n1 n2 n3 ⟨L, hlen, hmin⟩ hk
          obtain ⟨w', w1, w2, w3⟩ := part_store (P := P) g.m hq q1 (A := A) (rows := rows) (news := news) hpos (by omega) n2 (by rw [n1, hN])
          refine part_done g (u := .int .i64 (N : Int)) hk w3 rfl (nt := .value (.int .i64 (N : Int))) ?_ rfl
          rw [opR_builtin hc, ha, ht]
          have hrun : (Builtin.copy_ #[t, tx] ty #[a.eval x, a.eval y]).run P w = .ok (.int .i64 (N : Int)) w' := by
            rw [hv]
            cases qa with
            | none =>
              have hw : w' = w := by
                by_cases hA : A < l.length
                · have := q9 hA
                  cases p with
                  | none => exact w2 rfl
                  | some p => simp at this
                · have : news = [] := List.eq_nil_of_length_eq_zero (by rw [n1, show N = 0 by omega]; simp)
                  have := w1 ⟨0, 0, none⟩ (fun h => absurd h hA)
                  rw [‹news = []›] at this
                  simp [storeCells] at this
                  exact this.symm
              subst hw
              simp [Builtin.copy_, run_underlying hu, hlen, szT_run hsz, c1, n3, hmin, goInt]
            | some ad =>
              have := w1 ad q9
              simp [Builtin.copy_, run_underlying hu, hlen, szT_run hsz, c1, n3, hmin, this, goInt]
          have hmap : (#[x, y] : Array Operand).map a.eval = #[a.eval x, a.eval y] := by simp
          simp only [builtin, hmap, Sem.run_bind, hrun]
          rfl
        split at h
        · rename_i s2 l2 hr
          obtain ⟨hss', hk⟩ := fk_yes h
          have hss := shEq_eq _ _ hss'
          clear hss' h
          subst hss
          have hat := rows_at g.m hpos hr hy
          have hmin : xmin (xsub (B : Int) (A : Int)) (ln l2) = ((min l2.length (B - A) : Nat) : Int) := by unfold xmin xsub ln; omega
          rw [hmin] at hk
          obtain ⟨news, n1, n2, n3⟩ := hat.first (P := P) hpos (n := min l2.length (B - A)) (Nat.min_le_left _ _)
          exact fin (by simp [ltk]) (Nat.min_le_right _ _) n1 n2 n3 ⟨_, hat.len, rfl⟩ hk
        · split at h
          · rename_i y2 s2 lo2 hi2 n2 l2 hp2
            obtain ⟨hcc, hk⟩ := fk_yes h
            clear h
            obtain ⟨hss', hok⟩ := and2 hcc
            have hss := shEq_eq _ _ hss'
            clear hss' hcc
            subst hss
            obtain ⟨hq2, p2, k2, A2, B2, r1, r2, r3, rfl, rfl, r6, r7, qa2, hv2, r8, r9, r10⟩ := partOf_ok g.m hp2 hy
            have hmin : xmin (xsub (B : Int) (A : Int)) (xsub (B2 : Int) (A2 : Int)) = ((min (B2 - A2) (B - A) : Nat) : Int) := by unfold xmin xsub; omega
            rw [hmin] at hk hok
            generalize hN : min (B2 - A2) (B - A) = N at hk hok hmin
            have hx3 : xadd (A2 : Int) (N : Int) = ((A2 + N : Nat) : Int) := by unfold xadd; omega
            rw [hx3] at hk hok
            have hpv : CV φ z (.bp y2 s (A2 : Int) ((A2 + N : Nat) : Int)) (.slice qa2 N (l2.length - A2)) := ⟨p2, k2, l2.length, A2, A2 + N, r1, rfl, rfl, by omega, by omega, qa2, by rw [show A2 + N - A2 = N by omega], r8, r9, r10⟩
            have hpp : partOf m (.bp y2 s (A2 : Int) ((A2 + N : Nat) : Int)) = some (y2, s, (A2 : Int), ((A2 + N : Nat) : Int), n2, l2) := by simp [partOf, hq2, shEq_refl]
            have hat := part_at g.m hpos hpp hok hpv
            obtain ⟨A', B', e1, e2', h3, h4, h5, h6⟩ := jok_ok hok
            have hjl : (jsub l2 (A2 : Int) ((A2 + N : Nat) : Int)).length = N := by omega
            obtain ⟨news, n1, n2', n3⟩ := hat.first (P := P) hpos (Nat.le_refl _)
            rw [List.take_of_length_le (Nat.le_refl _)] at n2'
            rw [hjl] at n1 n3
            have n3' : (Builtin.firstCells s.length N (a.eval y)).run P w = .ok news.toArray w := by
              rw [hv2]
              rw [← n3]
              cases qa2 <;> rfl
            exact fin hjl (by omega) n1 n2' n3' ⟨B2 - A2, fun w' => by rw [hv2]; rfl, hN⟩ hk
          · exact h.elim
      · exact h.elim
    · exact h.elim
  · exact h.elim
theorem d_clear {c : Call} {x : Operand} {t : TypeId} (hc : c.callee = .builtin .clear) (ha0 : c.args.toList = [x]) (ht0 : c.argTypes.toList = [t]) (g : Gv G φ z fr m nx a w k) (h : dop P call fr m nx (.call c) k) : Done P G φ z nx (.call c) ty a.eval w k := by
  have ha := arr1 ha0
  have ht := arr1 ht0
  simp only [dop, hc, ha0, ht0] at h
  split at h
  · rename_i e hu
    split at h
    · rename_i s r hz
      obtain ⟨cx, h1, h⟩ := onC_ok h
      have hx : CV φ z cx (a.eval x) := ev_ok g.fr h1
      split at h
      · rename_i q s' lo hi n l hp
        obtain ⟨hcd, hk⟩ := fk_yes h
        obtain ⟨c1, c2⟩ := and2 hcd
        have c1 := shEq_eq _ _ c1
        subst c1
        have hpos : 0 < s.length := Nat.le_of_ble_eq_true c2
        obtain ⟨hq, p, k1, A, B, q1, q2, q3, rfl, rfl, q6, q7, qa, hv, _, q9, _⟩ := partOf_ok g.m hp hx
        obtain ⟨i, u, i1, i2, i3, i4⟩ := zeroR_ok (z := z) hz
        have hr : r = zRow s := zeroR_row hz
        subst hr
        have hlr : lrep (xsub (B : Int) (A : Int)) (zRow s) = List.replicate (B - A) (zRow s) := by unfold lrep xsub; congr 1; omega
        rw [hlr] at hk
        have hz0 := zrowV_rows i4 hpos (B - A)
        obtain ⟨w', w1, w2, w3⟩ := part_store (P := P) g.m hq q1 (A := A) (rows := List.replicate (B - A) (zRow s)) (news := zrowV u.cells ((B - A) * s.length)) hpos (by simp; omega) hz0 (by simp [zrowV])
        have hzc : Builtin.zeroCells u.cells (B - A) = (zrowV u.cells ((B - A) * s.length)).toArray := by
          have hus : u.cells.size = s.length := by simpa using i4.all.2.1
          rw [← zrowV_eq]
          unfold Builtin.zeroCells
          rw [hus]
        have hrun : (Builtin.clear_ #[t] ty #[a.eval x]).run P w = .ok (.tuple #[]) w' := by
          rw [hv]
          by_cases h0 : B - A = 0
          · have hw : w' = w := by
              cases p with
              | none => exact w2 rfl
              | some p =>
                have := w1 (p.add (A * s.length)) fun _ => rfl
                rw [h0] at this
                simpa [zrowV, storeCells] using this.symm
            subst hw
            rw [h0]
            cases qa <;> simp [Builtin.clear_, run_underlying hu]
          · obtain ⟨d, hd⟩ : ∃ d, B - A = d + 1 := ⟨B - A - 1, by omega⟩
            cases qa with
            | none =>
              have hA : A < l.length := by omega
              have := q9 hA
              cases p with
              | none => rw [w2 rfl]; simp [Builtin.clear_, run_underlying hu]
              | some p => simp at this
            | some ad =>
              have := w1 ad q9
              rw [hd] at hzc this ⊢
              simp [Builtin.clear_, run_underlying hu, i3, hzc, this]
        refine part_done g (v := .t []) (u := undef) hk w3 undef_ok ?_ (nt := .value (.tuple #[])) rfl
        rw [opR_builtin hc, ha, ht]
        have hmap : (#[x] : Array Operand).map a.eval = #[a.eval x] := by simp
        simp only [builtin, hmap, Sem.run_bind, hrun]
        rfl
      · exact h.elim
    · exact h.elim
  · exact h.elim
theorem ap_part (g : Gv G φ z fr m nx a w k) {c : Call} {x y : Operand} {t tx e e2 : TypeId} {i : TypeInfo} {zv : Value} {s : Sh} {l : List (Option Row)} {l2 : List Row} {q : Nat} {lo hi n : Int} {cx : DC} (hc : c.callee = .builtin .append) (ha : c.args = #[x, y]) (ht : c.argTypes = #[t, tx]) (hu : P.underlying t = some (.slice e)) (hu2 : P.underlying tx = some (.slice e2)) (hi0 : P.info? e = some i) (hz : i.zero = some zv) (hzs : zv.cells.size = i.size) (hs : s.length = i.size) (hpos : 0 < s.length) (hb : i.bytes ≤ 1048576)
    (hx : CV φ z cx (a.eval x)) (hp : partOf m cx = some (q, s, lo, hi, n, l)) (hat : RowsAt z w s l2 (a.eval y)) (h : apJ s n l q lo hi i.bytes l2 m nx k) : Done P G φ z nx (.call c) ty a.eval w k := by
  obtain ⟨hl0, h⟩ := fk_yes h
  obtain ⟨hq, p, k1, A, B, q1, q2, q3, rfl, rfl, q6, q7, qa, hv, q8, q9, q10⟩ := partOf_ok g.m hp hx
  have hl0 : (A : Int) = 0 := of_decide_eq_true hl0
  have hA : A = 0 := by omega
  subst hA
  obtain ⟨news, S, R2⟩ := hat.src hpos hu2
  have hS := S
  rw [hs] at hS
  rcases fk_ok h with ⟨hfit, hk⟩ | ⟨hfit, hk⟩
  · have hfit : (B : Int) + l2.length ≤ l.length := of_decide_eq_true hfit
    have hx2 : xadd (B : Int) (ln l2) = ((B + l2.length : Nat) : Int) := by unfold xadd ln; omega
    rw [hx2] at hk
    obtain ⟨w', w1, w2, w3⟩ := part_store (P := P) g.m hq q1 (A := B) (rows := l2) (news := news) hpos (by omega) R2 S.newsLen
    refine part_done g (v := .c (.bp q s ((0 : Nat) : Int) ((B + l2.length : Nat) : Int))) (u := .slice qa (B + l2.length) l.length) hk w3 ⟨p, k1, l.length, 0, B + l2.length, q1, rfl, rfl, Nat.zero_le _, by omega, qa, by simp, q8, q9, q10⟩ (run_ap hc ha ht ?_) rfl
    rw [hv]
    cases qa with
    | none =>
      have hw : w' = w := by
        cases p with
        | none => exact w2 rfl
        | some p => simp at q8
      subst hw
      simp [Builtin.append_, run_underlying hu, run_underlying hu2, sizeOf, typeInfo, hi0, hS.len, hS.cells, show B + l2.length ≤ l.length by omega]
    | some ad =>
      have h3 := w1 (ad.add (B * s.length)) fun hlt => by
        have := q9 (by omega)
        cases p with
        | none => simp at this
        | some p =>
          simp only [Option.map_some, Option.some.injEq] at this ⊢
          rw [this]; simp [Addr.add]
      rw [hs] at h3
      simp [Builtin.append_, run_underlying hu, run_underlying hu2, sizeOf, typeInfo, hi0, hS.len, hS.cells, show B + l2.length ≤ l.length by omega, h3]
  · have hfit : ¬ ((B : Int) + l2.length ≤ l.length) := of_decide_eq_false hfit
    obtain ⟨hk1, hk⟩ := fk_yes hk
    obtain ⟨hok, hap⟩ := and2 hk1
    obtain ⟨olds, o1, o2, o3⟩ := (part_at g.m hpos hp hok hx).drew.first (P := P) hpos (Nat.le_refl _)
    obtain ⟨A', B', e1, e2', h3, h4, h5, h6⟩ := jok_ok hok
    have hjl : (jsub l ((0 : Nat) : Int) (B : Int)).length = B := by
      have e0 : ((0 : Nat) : Int) = 0 := rfl
      rw [e0, h5]; omega
    rw [List.take_of_length_le (Nat.le_refl _)] at o2
    have hxv : a.eval x = .slice qa (jsub l ((0 : Nat) : Int) (B : Int)).length l.length := by rw [hjl]; simpa using hv
    refine ap_grow g hc ha ht hu hi0 hz hzs hs hpos hb hxv S R2 o1 (by rw [← hxv]; exact o3) o2 (by rw [hjl]; omega) hap (fun _ _ h => h) hk
theorem d_appendN {c : Call} {x y : Operand} {t tx : TypeId} (hc : c.callee = .builtin .append) (ha0 : c.args.toList = [x, y]) (ht0 : c.argTypes.toList = [t, tx]) {e : TypeId} (hu : P.underlying t = some (.slice e)) {kn : IntKind} (hun : P.underlying tx = some (.int kn)) (g : Gv G φ z fr m nx a w k) (h : dop P call fr m nx (.call c) k) : Done P G φ z nx (.call c) ty a.eval w k := by
  have ha := arr2 ha0
  have ht := arr2 ht0
  simp only [dop, hc, ha0, ht0, hu, hun] at h
  split at h
  · rename_i i s r hi0 hz
    obtain ⟨cx, h1, h⟩ := onC_ok h
    obtain ⟨q, cnt, h2, h⟩ := onI_ok h
    have hx : CV φ z cx (a.eval x) := ev_ok g.fr h1
    have hy : a.eval y = .int q cnt := ev_ok g.fr h2
    split at h
    · rename_i q' s' lo hi n l hp
      obtain ⟨hcd, hB⟩ := fk_yes h
      clear h
      obtain ⟨b1, b2⟩ := and2 hcd
      obtain ⟨b3, c3'⟩ := and2 b2
      obtain ⟨c3, c4'⟩ := and2 c3'
      obtain ⟨c4, c5⟩ := and2 c4'
      have c1 := of_decide_eq_true b1
      have c2 := shEq_eq _ _ b3
      clear b1 b2 b3 hcd
      subst c1; subst c2
      have hs := Nat.eq_of_beq_eq_true c3
      have hpos : 0 < s.length := by rw [hs]; exact Nat.le_of_ble_eq_true c4
      have hb : i.bytes ≤ 1048576 := Nat.le_of_ble_eq_true c5
      obtain ⟨hcd2, hC⟩ := fk_yes hB
      clear hB
      obtain ⟨d1', d2'⟩ := and2 hcd2
      have d1 : lo = 0 := of_decide_eq_true d1'
      have d2 : 0 ≤ cnt := of_decide_eq_true d2'
      clear d1' d2' hcd2
      obtain ⟨hq, p, k1, A, B, q1, q2, q3, e1, rfl, q6, q7, qa, hv, q8, q9, q10⟩ := partOf_ok g.m hp hx
      have hA : A = 0 := by omega
      subst hA; subst d1
      rcases fk_ok hC with ⟨_, h⟩ | ⟨hfit0, hD⟩
      · exact h.elim
      clear hC
      have hfit : ¬ ((B : Int) + cnt ≤ l.length) := of_decide_eq_false hfit0
      obtain ⟨hk1, hk⟩ := fk_yes hD
      clear hD
      obtain ⟨hok, hap⟩ := and2 hk1
      obtain ⟨K, rfl⟩ : ∃ K : Nat, cnt = K := ⟨cnt.toNat, by omega⟩
      obtain ⟨ii, u, i1, i2, i3, i4⟩ := zeroR_ok (z := z) hz
      rw [hi0] at i1; cases i1
      have hr : r = zRow s := zeroR_row hz
      subst hr
      have hlr : lrep (K : Int) (zRow s) = List.replicate K (zRow s) := rfl
      rw [hlr] at hk hap
      obtain ⟨olds, o1, o2, o3⟩ := (part_at g.m hpos hp hok hx).drew.first (P := P) hpos (Nat.le_refl _)
      obtain ⟨A', B', e1', e2', h3, h4, h5, h6⟩ := jok_ok hok
      have hjl : (jsub l 0 (B : Int)).length = B := by rw [h5]; omega
      rw [List.take_of_length_le (Nat.le_refl _)] at o2
      have hxv : a.eval x = .slice qa B l.length := by simpa using hv
      obtain ⟨ap1, ap2⟩ := and2 hap
      have ap1 : (jsub l 0 (B : Int)).length + (List.replicate K (zRow s)).length ≤ 1048576 := of_decide_eq_true ap1
      have ap2 : ((jsub l 0 (B : Int)).length + (List.replicate K (zRow s)).length) * i.bytes ≤ 1048576 := of_decide_eq_true ap2
      rw [hjl, List.length_replicate] at ap1 ap2
      have hgr : l.length < B + K := by omega
      have hKb : K * i.bytes ≤ 281474976710656 := by
        have : K * i.bytes ≤ (B + K) * i.bytes := Nat.mul_le_mul_right _ (by omega)
        omega
      have hus : u.cells.size = i.size := by rw [← hs]; simpa using i4.all.2.1
      rw [hjl, hs] at o3
      have hrun := Lib.run_append_grow_zeros (P := P) w t tx ty e i u .i64 kn hu hun hi0 i2 qa B l.length olds (by rw [hxv] at o3; exact o3) K (by omega) (by omega) hgr (by omega) hKb (grown_fits hgr ap1 ap2 hb)
      generalize hcp : grownCap w (B + K) l.length e = cp at hrun
      have hge : B + K ≤ cp := by rw [← hcp]; exact grown_ge _ _ _ _
      have hlen : (lap (jsub l 0 (B : Int)) (List.replicate K (zRow s))).length = B + K := by simp [lap, hjl]
      have hnew := g.new _ _ _ hk nx (Nat.le_refl _) (Nat.lt_succ_self _)
      have hle := Emb.le_add hnew (.slice (some ⟨w.heap.size, 0, none⟩) (B + K) cp)
      refine ⟨_, _, _, φ.add nx _, z, _, _, .value _, hk, hle, .refl z, ?_, Dom.add _ _ _, Nat.le_succ _, ⟨Emb.add_same _ _ _, _, _, _, rfl⟩, run_ap hc ha ht (by rw [hxv, hy]; exact hrun), rfl⟩
      refine g.m.new hnew (o := some _) rfl rfl rfl rfl rfl (.inr ⟨w.heap.size, 0, olds.toArray ++ Builtin.zeroCells u.cells K ++ Builtin.zeroCells u.cells (cp - (B + K)), e, cp, by rw [hlen]; exact Emb.add_same _ _ _, by rw [hlen]; exact hge, ?_, by show (w.heap.push _)[w.heap.size]? = _; simp, ?_⟩)
      · have z1 : (Builtin.zeroCells u.cells K).size = K * s.length := by simp [Builtin.zeroCells, hus, hs]
        have z2 : (Builtin.zeroCells u.cells (cp - (B + K))).size = (cp - (B + K)) * s.length := by simp [Builtin.zeroCells, hus, hs]
        simp only [Array.size_append, List.size_toArray, o1, hjl, z1, z2]
        rw [← Nat.add_mul, ← Nat.add_mul, Nat.zero_add]
        exact Nat.mul_le_mul_right _ (by omega)
      · have hz0 := zrowV_rows i4 hpos K
        have hzc : Builtin.zeroCells u.cells K = (zrowV u.cells (K * s.length)).toArray := by
          rw [← zrowV_eq]
          unfold Builtin.zeroCells
          rw [hus, hs]
        have := o2.app hz0 o1 (by simp [zrowV]) (Builtin.zeroCells u.cells (cp - (B + K))).toList
        intro j row hj
        have := this j row hj
        rw [hzc]
        simpa [List.append_assoc] using this
    · exact h.elim
  · exact h.elim
theorem d_append {c : Call} {x y : Operand} {t tx : TypeId} (hc : c.callee = .builtin .append) (ha0 : c.args.toList = [x, y]) (ht0 : c.argTypes.toList = [t, tx]) (g : Gv G φ z fr m nx a w k) (h : dop P call fr m nx (.call c) k) : Done P G φ z nx (.call c) ty a.eval w k := by
  have ha := arr2 ha0
  have ht := arr2 ht0
  have hdop := h
  simp only [dop, hc, ha0, ht0] at h
  split at h
  · rename_i e kn hu hun
    exact d_appendN hc ha0 ht0 hu hun g hdop
  · rename_i e e2 hu hu2
    split at h
    · rename_i i hi
      obtain ⟨cx, h1, h⟩ := onC_ok h
      obtain ⟨cy, h2, h⟩ := onC_ok h
      have hx : CV φ z cx (a.eval x) := ev_ok g.fr h1
      have hy : CV φ z cy (a.eval y) := ev_ok g.fr h2
      split at h
      · rename_i q s' lo hi' n l hp
        obtain ⟨hcd, h⟩ := fk_yes h
        obtain ⟨c1, c2⟩ := and2 hcd
        obtain ⟨c3, c4⟩ := and2 c2
        obtain ⟨c5, c6⟩ := and2 c4
        have hs := Nat.eq_of_beq_eq_true c1
        have hsz : 1 ≤ i.size := Nat.le_of_ble_eq_true c3
        have hb : i.bytes ≤ 1048576 := Nat.le_of_ble_eq_true c5
        split at c6
        case h_2 => cases c6
        rename_i zv hz
        obtain ⟨s2, l2, hE, hat⟩ := src_at g.m h hy
        obtain ⟨hss', hF⟩ := fk_yes hE
        have hss := shEq_eq _ _ hss'
        clear hE hss'
        subst hss
        exact ap_part g hc ha ht hu hu2 hi hz (Nat.eq_of_beq_eq_true c6) hs (by omega) hb hx hp (hat (by omega)) hF
      rename_i hnp
      clear hnp
      split at h
      · rename_i s l2 hr
        obtain ⟨hcd, hm⟩ := fk_yes h
        clear h
        obtain ⟨c1, c2⟩ := and2 hcd
        obtain ⟨c3, c4⟩ := and2 c2
        obtain ⟨c5, c6⟩ := and2 c4
        have hs := Nat.eq_of_beq_eq_true c1
        have hsz : 1 ≤ i.size := Nat.le_of_ble_eq_true c3
        have hb : i.bytes ≤ 1048576 := Nat.le_of_ble_eq_true c5
        have hpos : 0 < s.length := by omega
        split at c6
        case h_2 => cases c6
        rename_i zv hz
        have hzs := Nat.eq_of_beq_eq_true c6
        obtain ⟨news, S, R2, py, cy', hyv⟩ := src_rows (P := P) g.m hpos hr hy hu2
        split at hm
        · -- nil
          obtain ⟨hok, hk⟩ := fk_yes hm
          have hxv : a.eval x = .slice none 0 0 := hx
          by_cases h0 : l2.length = 0
          · have hl2 : l2 = [] := List.eq_nil_of_length_eq_zero h0
            subst hl2
            have hnew := g.new _ _ _ hk nx (Nat.le_refl _) (Nat.lt_succ_self _)
            have hle := Emb.le_add hnew (.slice none 0 0)
            refine ⟨_, _, _, φ.add nx (.slice none 0 0), z, .slice none 0 0, w, .value _, hk, hle, .refl z, ?_, Dom.add _ _ _, Nat.le_succ _, ⟨Emb.add_same _ _ _, _, _, _, rfl⟩, run_ap hc ha ht ?_, rfl⟩
            · exact g.m.new hnew (o := none) rfl rfl rfl rfl rfl (.inl ⟨Emb.add_same _ _ _, rfl⟩)
            · rw [hxv]
              have hS := S
              rw [hs] at hS
              simp [Builtin.append_, run_underlying hu, run_underlying hu2, sizeOf, typeInfo, hi, show ∀ w', (Builtin.lenOf (a.eval y)).run P w' = .ok 0 w' from hS.len, show (Builtin.firstCells i.size 0 (a.eval y)).run P w = .ok news.toArray w from hS.cells]
          · exact ap_grow g (l := []) (olds := []) (cap := 0) (p := none) hc ha ht hu hi hz hzs hs hpos hb hxv S R2 (by simp) (run_firstCells_none w.drew _ _ _ _) (fun i row hr => by simp at hr) (by simp; omega) hok (fun q B hq => hq) hk
        · -- a clipped row
          rename_i s' l
          obtain ⟨hok, hk⟩ := fk_yes hm
          obtain ⟨hss, hok2⟩ := and2 hok
          obtain ⟨hn, hok3⟩ := and2 hok2
          have hss := shEq_eq _ _ hss
          subst hss
          have hn : 0 < l2.length := of_decide_eq_true hn
          obtain ⟨⟨p, cap, hp, hcap, hrows⟩, q, hq⟩ := hx
          have hcl : cap = l.length := by rw [hp] at hq; cases hq; rfl
          rcases hrows with hrows | ⟨b, off, arr, T, fz, rfl, h5, h6⟩
          · subst hrows
            refine ap_grow g (l := []) (olds := []) hc ha ht hu hi hz hzs hs hpos hb hp S R2 (by simp) ?_ (fun i row hr => by simp at hr) (by simp at hcl ⊢; omega) hok3 (fun q B hq => hq) hk
            cases p with
            | none => exact run_firstCells_none w.drew _ _ _ _
            | some q => exact run_firstCells_some w.drew _ _ _ _ _ [] (by simp) (fun j u hu => by simp at hu)
          · obtain ⟨olds, q1, q2, q3, q4⟩ := rows_cells hpos (g.m.frz b _ h5) h6
            exact ap_grow g hc ha ht hu hi hz hzs hs hpos hb hp S R2 q2 (run_firstCells_some w.drew _ _ _ _ _ _ q2 (by simpa using q3)) q4 (by omega) hok3 (fun q B hq => hq) hk
        · -- a row of our own
          rename_i zid
          split at hm
          case h_2 => exact hm.elim
          rename_i s' l hl
          obtain ⟨hok, hk⟩ := fk_yes hm
          obtain ⟨hss, hok2⟩ := and2 hok
          have hss := shEq_eq _ _ hss
          subst hss
          obtain ⟨hxφ, _⟩ := hx
          have hS := S
          rw [hs] at hS
          rcases g.m.blk _ _ hl with ⟨q1, q2⟩ | ⟨b, off, arr, T, cap, q1, q2, q3, q4, q5⟩
          · subst q2
            have hxv : a.eval x = .slice none 0 0 := Option.some.inj (hxφ.symm.trans q1)
            by_cases h0 : l2.length = 0
            · have hl2 : l2 = [] := List.eq_nil_of_length_eq_zero h0
              subst hl2
              have hnew := g.new _ _ _ hk nx (Nat.le_refl _) (Nat.lt_succ_self _)
              have hle := Emb.le_add hnew (.slice none 0 0)
              refine ⟨_, _, _, φ.add nx (.slice none 0 0), z, .slice none 0 0, w, .value _, hk, hle, .refl z, ?_, Dom.add _ _ _, Nat.le_succ _, ⟨Emb.add_same _ _ _, _, _, _, rfl⟩, run_ap hc ha ht ?_, rfl⟩
              · exact (g.m.dropped zid).new hnew (o := none) rfl rfl rfl rfl rfl (.inl ⟨Emb.add_same _ _ _, rfl⟩)
              · rw [hxv]
                simp [Builtin.append_, run_underlying hu, run_underlying hu2, sizeOf, typeInfo, hi, show ∀ w', (Builtin.lenOf (a.eval y)).run P w' = .ok 0 w' from hS.len, show (Builtin.firstCells i.size 0 (a.eval y)).run P w = .ok news.toArray w from hS.cells]
            · exact ap_grow g (l := []) (olds := []) (cap := 0) (p := none) hc ha ht hu hi hz hzs hs hpos hb hxv S R2 (by simp) (run_firstCells_none w.drew _ _ _ _) (fun i row hr => by simp at hr) (by simp; omega) hok2 (fun q B hq => (look_drp_some hq).2) hk
          · have hxv : a.eval x = .slice (some ⟨b, off, none⟩) l.length cap := Option.some.inj (hxφ.symm.trans q1)
            obtain ⟨olds, r1, r2, r3, r4⟩ := rows_cells (off := off) hpos q4 q5
            by_cases hroom : l.length + l2.length ≤ cap
            · -- there is room
              have hnl := S.newsLen
              have hmul : (l.length + l2.length) * s.length ≤ cap * s.length := Nat.mul_le_mul_right _ hroom
              rw [Nat.add_mul] at hmul
              have hfit : off + l.length * s.length + news.length ≤ arr.size := by omega
              have hst := run_storeCells_at P b (off + l.length * s.length) T news 0 arr w q4 (by omega) (R2.ones hpos hnl)
              have hlen : (lap l l2).length = l.length + l2.length := by simp [lap]
              have hnew := g.new _ _ _ hk nx (Nat.le_refl _) (Nat.lt_succ_self _)
              have hle := Emb.le_add hnew (.slice (some ⟨b, off, none⟩) (l.length + l2.length) cap)
              refine ⟨_, _, _, φ.add nx (.slice (some ⟨b, off, none⟩) (l.length + l2.length) cap), z, .slice (some ⟨b, off, none⟩) (l.length + l2.length) cap, w.setRow b (arr.toList.take (off + l.length * s.length) ++ news ++ arr.toList.drop (off + l.length * s.length + news.length)).toArray, .value _, hk, hle, .refl z, ?_, Dom.add _ _ _, Nat.le_succ _, ⟨Emb.add_same _ _ _, _, _, _, rfl⟩, run_ap hc ha ht ?_, rfl⟩
              · refine g.m.rename hnew hl rfl q1 rfl rfl (fun q hq => setRow_other _ _ _ _ hq) (by simp [World.setRow]) rfl rfl rfl (.inr ⟨b, off, _, T, cap, by rw [hlen]; exact Emb.add_same _ _ _, by rw [hlen]; exact hroom, ?_, setRow_heap w b arr _ T (0, 0) q4, ?_⟩)
                · simp; omega
                · intro i row hi
                  have hs2 := seg_rows arr.toList news s.length off l.length l2.length i (by simp; omega) hnl
                  simp only [List.append_assoc] at hs2 ⊢
                  rw [hnl, hs2]
                  have hi : (l ++ l2)[i]? = some row := hi
                  by_cases i1 : i < l.length
                  · rw [if_pos i1]
                    rw [List.getElem?_append_left i1] at hi
                    exact q5 i row hi
                  · rw [if_neg i1]
                    rw [List.getElem?_append_right (by omega)] at hi
                    have := (List.getElem?_eq_some_iff.1 hi).1
                    rw [if_pos (by omega)]
                    exact R2 _ row hi
              · rw [hxv]
                have : (storeCells ((⟨b, off, none⟩ : Addr).add (l.length * i.size)) news).run P w = .ok () (w.setRow b (arr.toList.take (off + l.length * s.length) ++ news ++ arr.toList.drop (off + l.length * s.length + news.length)).toArray) := by
                  rw [Addr.add_lit, ← hs]
                  simpa using hst
                simp [Builtin.append_, run_underlying hu, run_underlying hu2, sizeOf, typeInfo, hi, hS.len, hroom, hS.cells, this]
            · exact ap_grow g hc ha ht hu hi hz hzs hs hpos hb hxv S R2 r2 (run_firstCells_some w.drew _ _ _ _ _ _ r2 (by simpa using r3)) r4 (by omega) hok2 (fun q B hq => (look_drp_some hq).2) hk
        · exact hm.elim
      · exact h.elim
    · exact h.elim
  · exact h.elim
theorem d_len {c : Call} {x : Operand} {t : TypeId} (hc : c.callee = .builtin .len) (ha0 : c.args.toList = [x]) (ht0 : c.argTypes.toList = [t]) (g : Gv G φ z fr m nx a w k) (h : dop P call fr m nx (.call c) k) : Done P G φ z nx (.call c) ty a.eval w k := by
  have ha := arr1 ha0
  have ht := arr1 ht0
  simp only [dop, hc, ha0, ht0] at h
  split at h
  · rename_i e hu
    obtain ⟨cx, h1, h⟩ := onC_ok h
    have hx : CV φ z cx (a.eval x) := ev_ok g.fr h1
    have fin : ∀ {n : Nat} {p : Option Addr} {cap : Nat}, a.eval x = .slice p n cap → k (.c (.i .i64 (n : Int))) m nx → Done P G φ z nx (.call c) ty a.eval w k := by
      intro n p cap hv hk
      exact Done.val g (u := .int .i64 (n : Int)) hk rfl (by rw [opR_builtin hc, ha, ht]; simp [builtin, Builtin.len_, Builtin.lenOf, goInt, hv, run_underlying hu])
    split at h
    · exact fin (show a.eval x = .slice none 0 0 from hx) h
    · obtain ⟨b, _, hv⟩ := hx
      exact fin hv h
    · split at h
      · rename_i s l hr
        obtain ⟨p, cap, hv, _⟩ := rowsOf_ok g.m hr hx
        exact fin hv h
      · split at h
        · rename_i y s lo hi n l hp
          obtain ⟨hy, p, k1, A, B, q1, q2, q3, rfl, rfl, q6, q7, q, hv, _⟩ := partOf_ok g.m hp hx
          refine fin hv ?_
          have : xsub (B : Int) (A : Int) = ((B - A : Nat) : Int) := by unfold xsub; omega
          rw [← this]; exact h
        · exact h.elim
  · rename_i hu
    obtain ⟨cx, h1, h⟩ := onC_ok h
    split at h
    · rename_i y
      have hv : a.eval x = .string y := ev_ok g.fr h1
      exact Done.val g (u := .int .i64 (y.size : Int)) h rfl (by rw [opR_builtin hc, ha, ht]; simp [builtin, Builtin.len_, Builtin.lenOf, goInt, hv, run_underlying hu])
    · exact h.elim
  · rename_i n e hu
    exact Done.val g (u := .int .i64 (n : Int)) h rfl (by rw [opR_builtin hc, ha, ht]; simp [builtin, Builtin.len_, Builtin.lenOf, goInt, run_underlying hu])
  · exact h.elim
theorem d_min {c : Call} {x y : Operand} (hc : c.callee = .builtin .min) (ha0 : c.args.toList = [x, y]) (g : Gv G φ z fr m nx a w k) (h : onI fr x fun q a => onI fr y fun q' b => fk (decide (q = q')) (k (.c (.i q (xmin a b))) m nx) False) : Done P G φ z nx (.call c) ty a.eval w k := by
  have ha := arr2 ha0
  obtain ⟨q, n1, h1, h⟩ := onI_ok h
  obtain ⟨q', n2, h2, h⟩ := onI_ok h
  obtain ⟨hq, hk⟩ := fk_yes h
  have hq := of_decide_eq_true hq
  have hx : a.eval x = .int q n1 := ev_ok g.fr h1
  have hy : a.eval y = .int q' n2 := ev_ok g.fr h2
  have hargs : c.args.map a.eval = #[.int q n1, .int q' n2] := by rw [ha]; simp [hx, hy]
  refine Done.val g (u := .int q (xmin n1 n2)) hk rfl ?_
  rw [opR_builtin hc, hargs]
  simp only [builtin, Sem.run_bind]
  rw [Lib.run_min_ints]; rfl
theorem d_max {c : Call} {x y : Operand} (hc : c.callee = .builtin .max) (ha0 : c.args.toList = [x, y]) (g : Gv G φ z fr m nx a w k) (h : onI fr x fun q a => onI fr y fun q' b => fk (decide (q = q')) (k (.c (.i q (xmax a b))) m nx) False) : Done P G φ z nx (.call c) ty a.eval w k := by
  have ha := arr2 ha0
  obtain ⟨q, n1, h1, h⟩ := onI_ok h
  obtain ⟨q', n2, h2, h⟩ := onI_ok h
  obtain ⟨hq, hk⟩ := fk_yes h
  have hq := of_decide_eq_true hq
  have hx : a.eval x = .int q n1 := ev_ok g.fr h1
  have hy : a.eval y = .int q' n2 := ev_ok g.fr h2
  have hargs : c.args.map a.eval = #[.int q n1, .int q' n2] := by rw [ha]; simp [hx, hy]
  refine Done.val g (u := .int q (xmax n1 n2)) hk rfl ?_
  rw [opR_builtin hc, hargs]
  simp only [builtin, Sem.run_bind]
  rw [Lib.run_max_ints]; rfl
theorem over_fold (off : Nat) : ∀ (new : List Value) (k : Nat) (cs : Array Value), off + k + new.length ≤ cs.size → (new.zipIdx k).foldl (fun (cs : Array Value) (p : Value × Nat) => cs.setIfInBounds (off + p.2) p.1) cs = (cs.toList.take (off + k) ++ new ++ cs.toList.drop (off + k + new.length)).toArray
  | [], k, cs, _ => by simp
  | x :: new, k, cs, hl => by
    simp only [List.zipIdx_cons, List.foldl_cons]
    rw [over_fold off new (k + 1) _ (by simp at hl ⊢; omega)]
    have e := list_seg_step cs.toList (off + k) x new (by simp at hl ⊢; omega)
    congr 1
    simpa [Array.toList_setIfInBounds, Nat.add_assoc] using e
theorem fill_over (new : Array Value) (off : Nat) (cs : Array Value) (hl : off + new.size ≤ cs.size) : new.zipIdx.foldl (fun (cs : Array Value) (p : Value × Nat) => cs.setIfInBounds (off + p.2) p.1) cs = (cs.toList.take off ++ new.toList ++ cs.toList.drop (off + new.size)).toArray := by
  have := over_fold off new.toList 0 cs (by simpa using hl)
  rw [← Array.foldl_toList, Array.toList_zipIdx]
  simpa using this
theorem fill_step {place : Nat → Option (Nat × Nat)} {i off size : Nat} {v : Value} {zs : List Value} {l : List (Nat × Value)} (hp : place i = some (off, size)) (hv : v.cells.size = size) (hl : off + size ≤ zs.length) : Instr.fill place zs.toArray ((i, v) :: l) = Instr.fill place (zs.take off ++ (v.cells.toList ++ zs.drop (off + size))).toArray l := by
  simp only [Instr.fill, hp]
  rw [if_neg (by simp [hv]; omega), fill_over _ _ _ (by simp [hv]; omega)]
  simp [hv]
theorem partsV_ok (hf : FR φ z fr a.tmps) {place : Nat → Option (Nat × Nat)} {s : Sh} : ∀ {ps : List (Nat × Operand)} {r r' : Row} {zs : List Value}, partsV fr place r s ps = some r' → RowD z s r zs → ∃ cs : List Value, Instr.fill place zs.toArray (ps.map fun p => (p.1, a.eval p.2)) = some cs.toArray ∧ RowD z s r' cs
  | [], r, r', zs, e, h => by cases e; exact ⟨zs, rfl, h⟩
  | (i, x) :: ps, r, r', zs, e, h => by
    simp only [partsV] at e
    split at e
    · rename_i o n v hp hv
      split at e
      · rename_i q hq
        cases hb : Nat.ble (o + n) s.length with
        | false => rw [hb] at e; cases e
        | true =>
          rw [hb] at e
          have hb : o + n ≤ s.length := Nat.le_of_ble_eq_true hb
          have hrow := rowFor_ok hq (ev_ok hf hv)
          have hl := h.all.2.1
          have hcl := hrow.all.2.1
          have hlen : ((s.drop o).take n).length = n := by simp; omega
          have hfit : fits s o ((s.drop o).take n) = true := by unfold fits; rw [hlen]; exact shEq_refl _
          have hp2 := putRow_ok h hfit hrow
          rw [hlen] at hp2
          have hsz : (a.eval x).cells.size = n := by rw [hlen] at hcl; simpa using hcl
          obtain ⟨cs, h1, h2⟩ := partsV_ok hf e hp2
          exact ⟨cs, by rw [List.map_cons, fill_step hp hsz (by omega)]; exact h1, h2⟩
      · cases e
    · cases e
theorem partsE_ok (hf : FR φ z fr a.tmps) {place : Nat → Option (Nat × Nat)} : ∀ {ps : List (Nat × Operand)} {c c' : List DC} {zs : List Value}, partsE fr place c ps = some c' → All2 (CV φ z) c zs → ∃ cs : List Value, Instr.fill place zs.toArray (ps.map fun p => (p.1, a.eval p.2)) = some cs.toArray ∧ All2 (CV φ z) c' cs
  | [], c, c', zs, e, h => by cases e; exact ⟨zs, rfl, h⟩
  | (i, x) :: ps, c, c', zs, e, h => by
    simp only [partsE] at e
    split at e
    · rename_i o n v hp hv
      split at e
      · rename_i q hq
        cases hb : (Nat.ble (o + n) c.length && Nat.beq q.length n) with
        | false => rw [hb] at e; cases e
        | true =>
          rw [hb] at e
          obtain ⟨hb1, hb2⟩ := and2 hb
          have hb1 : o + n ≤ c.length := Nat.le_of_ble_eq_true hb1
          have hb2 := Nat.eq_of_beq_eq_true hb2
          have hrow := cellsV_ok hq (ev_ok hf hv)
          have hl := h.length
          have hcl := hrow.length
          have hsz : (a.eval x).cells.size = n := by rw [hb2] at hcl; simpa using hcl.symm
          have hp2 : All2 (CV φ z) (setsE c o q) (zs.take o ++ ((a.eval x).cells.toList ++ zs.drop (o + n))) := by
            rw [setsE_eq _ _ _ (by omega), hb2]
            exact (h.take o).append (hrow.append (h.drop _))
          obtain ⟨cs, h1, h2⟩ := partsE_ok hf e hp2
          exact ⟨cs, by rw [List.map_cons, fill_step hp hsz (by omega)]; exact h1, h2⟩
      · cases e
    · cases e
theorem buildV_ok (hf : FR φ z fr a.tmps) {t : TypeId} {place : Nat → Option (Nat × Nat)} {ps : List (Nat × Operand)} {v : V} (e : buildV P fr t place ps = some v) : ∃ u cs, (∀ w, (zeroValue t).run P w = .ok u w) ∧ Instr.fill place u.cells (ps.map fun p => (p.1, a.eval p.2)) = some cs ∧ VR φ z v (.agg cs) := by
  have hE : ∀ {c : List DC}, zeroC P t = some c → (partsE fr place c ps).map V.a = some v → ∃ u cs, (∀ w, (zeroValue t).run P w = .ok u w) ∧ Instr.fill place u.cells (ps.map fun p => (p.1, a.eval p.2)) = some cs ∧ VR φ z v (.agg cs) := by
    intro c hc e
    obtain ⟨i, u, h1, h2, h3, h4⟩ := zeroC_ok (φ := φ) (z := z) hc
    obtain ⟨c', h5, rfl⟩ := map_some e
    obtain ⟨cs, h6, h7⟩ := partsE_ok hf h5 h4
    exact ⟨u, cs.toArray, h3, by simpa using h6, cs, rfl, h7⟩
  unfold buildV at e
  split at e
  · rename_i s r hz
    split at e
    · rename_i r' hr
      cases e
      obtain ⟨i, u, h1, h2, h3, h4⟩ := zeroR_ok (z := z) hz
      obtain ⟨cs, h6, h7⟩ := partsV_ok hf hr h4
      exact ⟨u, cs.toArray, h3, by simpa using h6, cs, rfl, h7⟩
    · split at e
      · rename_i c hc; exact hE hc e
      · cases e
  · split at e
    · rename_i c hc; exact hE hc e
    · cases e
theorem run_szT {t : TypeId} {s : Nat} (e : szT P t = some s) (w : World) : (sizeOf t).run P w = .ok s w := by
  unfold szT at e
  cases hi : P.info? t with
  | none => rw [hi] at e; cases e
  | some i => rw [hi] at e; cases e; simp [sizeOf, typeInfo, hi]
theorem run_places : ∀ {fs : List Field} {pl : List (Nat × Nat)}, placesOf P fs = some pl → ∀ w, (fs.mapM (fun (f : Field) => do pure (f.offset, ← sizeOf f.type)) : Sem (List (Nat × Nat))).run P w = .ok pl w
  | [], pl, e, w => by cases e; rfl
  | f :: fs, pl, e, w => by
    simp only [placesOf] at e
    split at e
    · rename_i s l hs hl
      cases e
      rw [List.mapM_cons]
      simp only [Sem.run_bind, run_szT hs, Result.andThen_ok, Sem.run_pure, run_places hl w]
    · cases e
theorem d_build {t : TypeId} {parts : Array (Nat × Operand)} (g : Gv G φ z fr m nx a w k) (h : dop P call fr m nx (.build t parts) k) : Done P G φ z nx (.build t parts) ty a.eval w k := by
  have hparts : (parts.map fun x => (x.1, a.eval x.2)).toList = parts.toList.map fun p => (p.1, a.eval p.2) := by simp
  simp only [dop] at h
  split at h
  · rename_i fs hu
    obtain ⟨pl, hpl, h⟩ := oP_ok h
    obtain ⟨v, hv, h⟩ := oP_ok h
    obtain ⟨u, cs, h1, h2, h3⟩ := buildV_ok g.fr hv
    refine Done.val g h h3 ?_
    have hpl' := run_places hpl w
    have hfill : Instr.fill (fun i => (pl.toArray)[i]?) u.cells (parts.map fun x => (x.1, a.eval x.2)).toList = some cs := by
      rw [hparts]
      simpa using h2
    simp only [opR, execOp, Instr.build, Sem.run_bind, h1, Result.andThen_ok, run_underlying hu]
    rw [Array.mapM_eq_mapM_toList]
    simp only [Sem.run_map, Sem.run_bind, hpl', Result.andThen_ok]
    simp only [hfill]
    rfl
  · rename_i n el hu
    split at h
    · rename_i agg s ha
      obtain ⟨v, hv, h⟩ := oP_ok h
      obtain ⟨u, cs, h1, h2, h3⟩ := buildV_ok g.fr hv
      refine Done.val g h h3 ?_
      have hfill : Instr.fill (fun i => some (i * s, s)) u.cells (parts.map fun x => (x.1, a.eval x.2)).toList = some cs := by
        rw [hparts]
        simpa using h2
      simp only [opR, execOp, Instr.build, Sem.run_bind, h1, Result.andThen_ok, run_underlying hu, (aggT_run ha w).2, hfill]
      rfl
    · exact h.elim
  · exact h.elim
theorem partsW_ok (hf : FR φ z fr a.tmps) {s : Sh} {n : Nat} (hn : n = s.length) : ∀ {ps : List (Nat × Operand)} {rows rows' : List Row} {zs : List Value}, partsW fr s rows ps = some rows' → RowsC z s rows zs → zs.length = rows.length * s.length → ∃ cs : List Value, Instr.fill (fun i => some (i * n, n)) zs.toArray (ps.map fun p => (p.1, a.eval p.2)) = some cs.toArray ∧ RowsC z s rows' cs ∧ cs.length = zs.length ∧ rows'.length = rows.length
  | [], rows, rows', zs, e, h, hl => by cases e; exact ⟨zs, rfl, h, rfl, rfl⟩
  | (i, x) :: ps, rows, rows', zs, e, h, hl => by
    simp only [partsW] at e
    split at e
    · rename_i v hv
      split at e
      · rename_i r hr
        cases hb : Nat.blt i rows.length with
        | false => rw [hb] at e; cases e
        | true =>
          rw [hb] at e
          have hlt : i < rows.length := by simpa using hb
          have hrow := rowFor_ok hr (ev_ok hf hv)
          have hcl := hrow.all.2.1
          have hsz : (a.eval x).cells.size = n := by rw [hn]; simpa using hcl
          have hfit : (i + 1) * s.length ≤ rows.length * s.length := Nat.mul_le_mul_right _ hlt
          rw [Nat.add_mul, Nat.one_mul] at hfit
          have hstep : RowsC z s (rows.set i (expl s r)) (zs.take (i * s.length) ++ ((a.eval x).cells.toList ++ zs.drop (i * s.length + s.length))) := by
            intro j row hj
            have := seg_over zs (a.eval x).cells.toList s.length i j 0 0 s.length (by omega) hcl (by omega)
            simp only [Nat.add_zero, Nat.zero_add] at this
            rw [this]
            by_cases hji : j = i
            · subst hji
              rw [if_pos rfl]
              rw [List.getElem?_set_self hlt] at hj
              cases hj
              rw [expl_eq hrow]
              have h0 := (h j (rw' rows j) (rw'_get hlt)).all.2.1
              rw [List.take_zero, List.nil_append, List.drop_of_length_le (by omega), List.append_nil]
              exact hrow
            · rw [if_neg hji]
              rw [List.getElem?_set_ne (fun e => hji e.symm)] at hj
              exact h j row hj
          obtain ⟨cs, h1, h2, h3, h4⟩ := partsW_ok hf hn e hstep (by rw [List.length_set]; simp at hcl ⊢; omega)
          refine ⟨cs, ?_, h2, ?_, by rw [h4, List.length_set]⟩
          · rw [List.map_cons, fill_step (off := i * n) (size := n) rfl hsz (by rw [hn]; omega)]
            rw [hn]; rw [hn] at h1; exact h1
          · rw [h3]; simp at hcl ⊢; omega
      · cases e
    · cases e
theorem d_buildSlice {t : TypeId} {len : Nat} {parts : Array (Nat × Operand)} (g : Gv G φ z fr m nx a w k) (h : dop P call fr m nx (.buildSlice t len parts) k) : Done P G φ z nx (.buildSlice t len parts) ty a.eval w k := by
  have hparts : (parts.map fun x => (x.1, a.eval x.2)).toList = parts.toList.map fun p => (p.1, a.eval p.2) := by simp
  simp only [dop] at h
  split at h
  · rename_i e hu
    split at h
    · rename_i s r n hz hn
      obtain ⟨hc, h⟩ := fk_yes h
      obtain ⟨c1, c2⟩ := and2 hc
      obtain ⟨c3, c4⟩ := and2 c2
      have hns := Nat.eq_of_beq_eq_true c1
      have hn1 : 1 ≤ n := Nat.le_of_ble_eq_true c3
      have hbig : len * n ≤ 65536 := Nat.le_of_ble_eq_true c4
      obtain ⟨rows, hp, hk⟩ := oP_ok h
      obtain ⟨i, u, h1, h2, h3, h4⟩ := zeroR_ok (z := z) hz
      have hr : r = zRow s := zeroR_row hz
      subst hr
      have hz0 := zrowV_rows h4 (by omega) len
      obtain ⟨cs, q1, q2, q3, q4⟩ := partsW_ok g.fr hns hp hz0 (by simp [zrowV])
      have hcl : cs.length = len * n := by rw [q3]; simp [zrowV, hns]
      have hrl : rows.length = len := by rw [q4]; simp
      have hfill : Instr.fill (fun i => some (i * n, n)) (zrowV u.cells (len * n)).toArray (parts.map fun x => (x.1, a.eval x.2)).toList = some cs.toArray := by
        rw [hparts, hns]; rw [hns] at q1; exact q1
      have hnew := g.new _ _ _ hk nx (Nat.le_refl _) (Nat.lt_succ_self _)
      have hle := Emb.le_add hnew (.slice (some ⟨w.heap.size, 0, none⟩) len len)
      refine ⟨_, _, _, φ.add nx _, z, .slice (some ⟨w.heap.size, 0, none⟩) len len, { w with heap := w.heap.push (.cells cs.toArray e) }, .value _, hk, hle, .refl z, ?_, Dom.add _ _ _, Nat.le_succ _, ⟨Emb.add_same _ _ _, _, _, _, rfl⟩, ?_, rfl⟩
      · refine g.m.new hnew (o := some (.cells cs.toArray e)) rfl rfl rfl rfl rfl (.inr ⟨w.heap.size, 0, cs.toArray, e, len, by rw [hrl]; exact Emb.add_same _ _ _, by omega, ?_, by simp, by simpa [RowsC] using q2⟩)
        simp [hcl, hns]
      · have hbig2 : ¬ (len * n > 16777216) := by omega
        by_cases h0 : len * n = 0
        · have hfill' : Instr.fill (fun i => some (i * n, n)) ((Array.range (len * n)).map fun i => (#[] : Array Value)[i % (#[] : Array Value).size]!) (parts.map fun x => (x.1, a.eval x.2)).toList = some cs.toArray := by
            have e0 : ((Array.range (len * n)).map fun i => (#[] : Array Value)[i % (#[] : Array Value).size]!) = (zrowV u.cells (len * n)).toArray := by
              rw [h0]; apply Array.ext'; simp [zrowV]
            rw [e0]
            exact hfill
          simp only [opR, execOp, Instr.buildSlice, Sem.run_bind, run_underlying hu, run_szT hn, Result.andThen_ok, hbig2, if_false, if_pos h0, Sem.run_pure, hfill', newRow, run_newObj, Sem.run_ite, Nat.reducePow]
        · simp only [opR, execOp, Instr.buildSlice, Sem.run_bind, run_underlying hu, run_szT hn, Result.andThen_ok, hbig2, if_false, h0, h3, Sem.run_pure, zrowV_eq, hfill, newRow, run_newObj, Sem.run_ite, Nat.reducePow]
    · rename_i hz hn
      split at h
      · rename_i c0 hzc
        obtain ⟨hc, h⟩ := fk_yes h
        have hbig : len ≤ 65536 := Nat.le_of_ble_eq_true hc
        obtain ⟨cs0, hp, hk⟩ := oP_ok h
        obtain ⟨i, u, h1, h2, h3, h4⟩ := zeroC_ok (φ := φ) (z := z) hzc
        obtain ⟨u0, hu0, hc0⟩ : ∃ u0, u.cells = #[u0] ∧ CV φ z c0 u0 := by
          have hl := h4.length
          cases hq : u.cells.toList with
          | nil => rw [hq] at hl; cases hl
          | cons x l =>
            rw [hq] at h4
            cases h4 with
            | cons q1 q2 => cases q2; exact ⟨x, arr1 hq, q1⟩
        have hz0 : All2 (CV φ z) (List.replicate len c0) (List.replicate len u0) := by
          refine All2.of_get (by simp) fun i x y hx hy => ?_
          rw [List.getElem?_replicate] at hx hy
          split at hx
          · rename_i hi; rw [if_pos hi] at hy; cases hx; cases hy; exact hc0
          · cases hx
        obtain ⟨cs, q1, q2⟩ := partsE_ok g.fr hp hz0
        have hnew := g.new _ _ _ hk nx (Nat.le_refl _) (Nat.lt_succ_self _)
        have hle := Emb.le_add hnew (.pointer (some ⟨w.heap.size, 0, none⟩))
        have hzr : ∀ (m : Nat), m = len → ((Array.range m).map fun i => u.cells[i % u.cells.size]!) = (List.replicate len u0).toArray := by
          intro m hm
          subst hm
          apply Array.ext'
          apply List.ext_getElem?
          intro j
          by_cases hj : j < m
          · simp [hu0, hj, Nat.mod_one]
          · rw [List.getElem?_eq_none (by simp; omega), List.getElem?_eq_none (by simp; omega)]
        have hfill : Instr.fill (fun i => some (i * 1, 1)) (List.replicate len u0).toArray (parts.map fun x => (x.1, a.eval x.2)).toList = some cs.toArray := by
          rw [hparts]; exact q1
        refine ⟨_, _, _, φ.add nx _, z, .slice (some ⟨w.heap.size, 0, none⟩) len len, { w with heap := w.heap.push (.cells cs.toArray e) }, .value _, hk, hle, .refl z, ?_, Dom.add _ _ _, Nat.le_succ _, ⟨w.heap.size, Emb.add_same _ _ _, rfl⟩, ?_, rfl⟩
        · exact g.m.new hnew (o := some (.cells cs.toArray e)) rfl rfl rfl rfl rfl ⟨w.heap.size, cs.toArray, e, Emb.add_same _ _ _, by simp, q2.mono fun _ _ => CV.le hle (.refl z)⟩
        · have hbig2 : ¬ (len * 1 > 16777216) := by omega
          by_cases h0 : len * 1 = 0
          · have hfill' : Instr.fill (fun i => some (i * 1, 1)) ((Array.range (len * 1)).map fun i => (#[] : Array Value)[i % (#[] : Array Value).size]!) (parts.map fun x => (x.1, a.eval x.2)).toList = some cs.toArray := by
              have e0 : ((Array.range (len * 1)).map fun i => (#[] : Array Value)[i % (#[] : Array Value).size]!) = (List.replicate len u0).toArray := by
                rw [h0]; apply Array.ext'; simp; omega
              rw [e0]
              exact hfill
            simp only [opR, execOp, Instr.buildSlice, Sem.run_bind, run_underlying hu, run_szT hn, Result.andThen_ok, hbig2, if_false, if_pos h0, Sem.run_pure, hfill', newRow, run_newObj, Sem.run_ite, Nat.reducePow]
          · simp only [opR, execOp, Instr.buildSlice, Sem.run_bind, run_underlying hu, run_szT hn, Result.andThen_ok, hbig2, if_false, h0, h3, Sem.run_pure, hzr _ (Nat.mul_one len), hfill, newRow, run_newObj, Sem.run_ite, Nat.reducePow]
      · exact h.elim
    · exact h.elim
  · exact h.elim
theorem d_makeSlice {t : TypeId} {len cap : Operand} (g : Gv G φ z fr m nx a w k) (h : dop P call fr m nx (.makeSlice t len cap) k) : Done P G φ z nx (.makeSlice t len cap) ty a.eval w k := by
  simp only [dop] at h
  split at h
  · rename_i e hu
    split at h
    · rename_i s r i hz hi
      obtain ⟨q1, l, hl, h⟩ := onI_ok h
      obtain ⟨q2, c, hc, h⟩ := onI_ok h
      obtain ⟨hc1, h⟩ := fk_yes h
      obtain ⟨hc2, hk⟩ := fk_yes h
      obtain ⟨c1, c2⟩ := and2 hc1
      obtain ⟨c3, c4⟩ := and2 c2
      obtain ⟨m1, m2⟩ := and2 hc2
      obtain ⟨m2, m3⟩ := and2 m2
      have hns := Nat.eq_of_beq_eq_true c1
      have hn1 : 1 ≤ i.size := Nat.le_of_ble_eq_true c3
      have hby : i.bytes ≤ 1048576 := Nat.le_of_ble_eq_true c4
      have m1 : 0 ≤ l := of_decide_eq_true m1
      have m2 : l ≤ c := of_decide_eq_true m2
      have m3 : c ≤ 65536 := of_decide_eq_true m3
      have el : a.eval len = .int q1 l := ev_ok g.fr hl
      have ec : a.eval cap = .int q2 c := ev_ok g.fr hc
      obtain ⟨i', u, h1, h2, h3, h4⟩ := zeroR_ok (z := z) hz
      rw [hi] at h1
      cases h1
      have hr : r = zRow s := zeroR_row hz
      subst hr
      have hb : (i.bytes : Int) * c ≤ 281474976710656 := by
        have : (i.bytes : Int) * c ≤ 1048576 * 65536 := by
          refine Int.le_trans (Int.mul_le_mul_of_nonneg_right (show (i.bytes : Int) ≤ 1048576 by omega) (by omega)) (Int.mul_le_mul_of_nonneg_left m3 (by omega))
        omega
      have hrun := run_make (P := P) w t e i u hu hi h2 q1 q2 l c m1 m2 hb (by omega)
      have hmade : (madeCells u.cells (c.toNat * i.size)).toList = zrowV u.cells (c.toNat * s.length) := by
        rw [← hns]; simp [madeCells, zrowV]
      have hrows := zrowV_rows h4 (by omega) c.toNat
      have hnew := g.new _ _ _ hk nx (Nat.le_refl _) (Nat.lt_succ_self _)
      have hle := Emb.le_add hnew (.slice (some ⟨w.heap.size, 0, none⟩) l.toNat c.toNat)
      have hll : (lrep l (zRow s)).length = l.toNat := by simp [lrep]
      refine ⟨_, _, _, φ.add nx _, z, .slice (some ⟨w.heap.size, 0, none⟩) l.toNat c.toNat, w.alloc (.cells (madeCells u.cells (c.toNat * i.size)) e), .value _, hk, hle, .refl z, ?_, Dom.add _ _ _, Nat.le_succ _, ⟨Emb.add_same _ _ _, _, _, _, rfl⟩, ?_, rfl⟩
      · refine g.m.new hnew (o := some (.cells (madeCells u.cells (c.toNat * i.size)) e)) rfl rfl rfl rfl rfl (.inr ⟨w.heap.size, 0, madeCells u.cells (c.toNat * i.size), e, c.toNat, by rw [hll]; exact Emb.add_same _ _ _, by rw [hll]; omega, ?_, by show (w.heap.push _)[w.heap.size]? = _; simp, fun j row hj => ?_⟩)
        · rw [← Array.length_toList, hmade]; simp [zrowV]
        · rw [Nat.zero_add, hmade]
          have hj2 : j < l.toNat := by rw [← hll]; exact (List.getElem?_eq_some_iff.1 hj).1
          have : row = zRow s := by
            unfold lrep at hj
            rw [List.getElem?_replicate, if_pos (by omega)] at hj
            exact (Option.some.inj hj).symm
          subst this
          exact hrows j _ (by rw [List.getElem?_replicate, if_pos (by omega)])
      · simp only [opR, execOp, el, ec]
        rw [Sem.run_bind, hrun]; rfl
    · exact h.elim
  · exact h.elim
end
end Go.Proofs.YtgjindhjgmplgaaGreat
