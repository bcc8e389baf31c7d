/-
  A verified evaluator: the builtins as operations, and conversions. No function of the program is named here.
-/
import Derived.Test.YtmbbciidknchiaaGreatEnL
namespace Go.Proofs.YtmbbciidknchiaaGreat
section
variable {P : Program} {E : Env} {ρ : Vn} {φ : Emb} {fr : Fr} {a : Act} {h h' : Hp} {w w' : World} {v : AV} {ty : TypeId}
theorem opR_builtin {f : Operand → Value} {c : Call} {b : Builtin} (hc : c.callee = .builtin b) : (opR f (.call c) ty).run P w = (builtin b c.argTypes ty (c.args.map fun | .const _ => true | _ => false) (c.args.map f)).run P w := by
  simp [opR, execOp, resolve, hc, invoke]
  rfl
theorem arr1 {α : Type} {x : Array α} {u : α} (e : x.toList = [u]) : x = #[u] := by cases x; simpa using e
theorem arr2 {α : Type} {x : Array α} {u v : α} (e : x.toList = [u, v]) : x = #[u, v] := by cases x; simpa using e
theorem run_ap {c : Call} {x y : Operand} {t tx : TypeId} (hc : c.callee = .builtin .append) (ha : c.args = #[x, y]) (ht : c.argTypes = #[t, tx]) {u : Value} (hr : (Builtin.append_ #[t, tx] ty #[a.eval x, a.eval y]).run P w = .ok u w') : (opR a.eval (.call c) ty).run P w = .ok (.value u) w' := by
  rw [opR_builtin hc, ha, ht]
  simp only [builtin, Sem.run_bind]
  have : (#[x, y] : Array Operand).map a.eval = #[a.eval x, a.eval y] := by simp
  rw [this, hr]
  rfl
theorem snd_ap {c : Call} {x y : Operand} {t tx el : TypeId} (hc : c.callee = .builtin .append) (ha : c.args = #[x, y]) (ht : c.argTypes = #[t, tx]) (hu : P.underlying t = some (.slice el)) (hk : (∃ e', P.underlying tx = some (.slice e')) ∨ P.underlying tx = some .string) {ax ay : AX} (hx : cX x = some ax) (hy : cX y = some ay) {ao : AO} (hao : cAp P el ax ay = some ao)
    (g : Gv E ρ φ fr a h w) (e : aop P E noCall ao fr h = .ok v h') : Res ρ φ h w v h' ((opR a.eval (.call c) ty).run P w) := by
  unfold cAp at hao
  split at hao
  · rename_i s z b hs hz hb
    split at hao
    · rename_i hcond
      cases hao
      obtain ⟨p, h1, e1⟩ := evC_ok (show opAp s b ax ay fr h = .ok v h' from e)
      obtain ⟨q, h2, e2⟩ := evC_ok e1
      obtain ⟨r, h3, e3⟩ := ro_ok e2
      have hp : VC ρ φ p (a.eval x) := cX_ok hx g.fr h1
      have hq : VC ρ φ q (a.eval y) := cX_ok hy g.fr h2
      obtain ⟨zv, _, hz1, i, hi, hiz⟩ := run_zeroT (ρ := ρ) (φ := φ) hz
      obtain ⟨i', hi', hib⟩ := run_bytesT hb
      rw [hi] at hi'
      cases hi'
      have his : i.size = s := by unfold sizeT at hs; rw [hi] at hs; exact Option.some.inj hs
      obtain ⟨news, hS, hn⟩ := row_ok g.rel hq h3 hk
      rw [← his] at hS
      have hzc : zv.cells.size = s := by have := hz1.length; simp at this; omega
      obtain ⟨u, w', φ', q1, q2, q3⟩ := append_ok (P := P) (ty := ty) g.rel hp (SrcG.of hu hi hiz (by omega) hS) hn (by rw [hS.newsLen, his]) his hib hzc hcond.1 e3
      exact ⟨.value u, u, w', φ', run_ap hc ha ht q1, rfl, q2, q3⟩
    · cases hao
  · cases hao
theorem snd_apz {c : Call} {x y : Operand} {t tx el : TypeId} {kn : IntKind} (hc : c.callee = .builtin .append) (ha : c.args = #[x, y]) (ht : c.argTypes = #[t, tx]) (hu : P.underlying t = some (.slice el)) (hk : P.underlying tx = some (.int kn)) {ax ay : AX} (hx : cX x = some ax) (hy : cX y = some ay) {s b : Nat} {z : List AC} (hs : sizeT P el = some s) (hz : zeroOf P el = some z) (hb : bytesT P el = some b) (hcond : 0 < s ∧ z.length = s ∧ b ≤ 1048576)
    (g : Gv E ρ φ fr a h w) (e : opApz s b z ax ay fr h = .ok v h') : Res ρ φ h w v h' ((opR a.eval (.call c) ty).run P w) := by
  obtain ⟨p, h1, e1⟩ := evC_ok e
  obtain ⟨n, h2, e2⟩ := ro_ok e1
  obtain ⟨hb1, e3⟩ := br_ok e2
  obtain ⟨hb2, hb3⟩ := and2 hb1
  have hp : VC ρ φ p (a.eval x) := cX_ok hx g.fr h1
  obtain ⟨kq, h3⟩ := evN_some h2
  have hq := eq_ofNat (cX_ok hy g.fr h3)
  obtain ⟨zv, _, hz1, i, hi, hiz⟩ := run_zeroT (ρ := ρ) (φ := φ) hz
  obtain ⟨i', hi', hib⟩ := run_bytesT hb
  rw [hi] at hi'
  cases hi'
  have his : i.size = s := by unfold sizeT at hs; rw [hi] at hs; exact Option.some.inj hs
  have hzc : zv.cells.size = s := by have := hz1.length; simp at this; omega
  have hzs := zeros_ok (by omega) hz1 n
  rw [hcond.2.1] at hzs
  obtain ⟨u, w', φ', q1, q2, q3⟩ := append_ok (P := P) (ty := ty) (w := w) g.rel hp (SrcG.zeros (kq := kq) (n := n) hu hk hi hiz (by omega) (by omega) (by omega) (Nat.le_of_ble_eq_true hb2) (by rw [hib]; exact Nat.le_of_ble_eq_true hb3)) (by rw [his]; exact hzs) (by simp [zrow, his]) his hib hzc hcond.1 e3
  rw [← hq] at q1
  exact ⟨.value u, u, w', φ', run_ap hc ha ht q1, rfl, q2, q3⟩
/-- the first elements of a row -/
theorem row_prefix (r : Rel ρ φ h w) {size n k : Nat} {c : AC} {x : Value} {l m : List AC} (hc : VC ρ φ c x) (e : h.row size c = some (n, l)) (hk : k ≤ n) (hm : ltake (k * size) l = some m) : (∀ w', (Builtin.lenOf x).run P w' = .ok n w') ∧ ∃ news, (Builtin.firstCells size k x).run P w = .ok news.toArray w ∧ All2 (VC ρ φ) m news := by
  obtain ⟨hm1, hm2⟩ := ltake_some hm
  have slices : ∀ {b base tot off len cap : Nat} {id : Bid}, φ id = some (b, base, tot) → x = .slice (some ⟨b, base + off, none⟩) len cap → ob (h.lds id off (len * size)) (fun l => some (len, l)) = some (n, l) → (∀ w', (Builtin.lenOf x).run P w' = .ok n w') ∧ ∃ news, (Builtin.firstCells size k x).run P w = .ok news.toArray w ∧ All2 (VC ρ φ) m news := by
    intro b base tot off len cap id hid hx e
    obtain ⟨l', h1, e1⟩ := ob_some e
    cases e1
    obtain ⟨b', base', tot', vs, h2, h3, h4, h5⟩ := r.lds h1
    rw [hid] at h2
    cases h2
    subst hx
    refine ⟨fun _ => rfl, vs.take (k * size), run_firstCells_some w size k _ _ _ (vs.take (k * size)) ?_ (fun j u hu => ?_), by rw [hm1]; exact h4.take _⟩
    · have : k * size ≤ n * size := Nat.mul_le_mul_right _ hk
      rw [List.length_take, h3]; exact Nat.min_eq_left this
    · rw [Addr.add_lit]
      refine h5 j u ?_
      have hj : j < k * size := by
        have := (List.getElem?_eq_some_iff.1 hu).1
        simp at this; omega
      rwa [List.getElem?_take_of_lt hj] at hu
  unfold Hp.row at e
  split at e
  · cases e
    have k0 : k = 0 := by omega
    subst k0
    rw [show x = .slice none 0 0 from hc]
    refine ⟨fun _ => rfl, [], run_firstCells_none w size 0 0 0, ?_⟩
    rw [hm1]; simp; exact .nil
  · obtain ⟨b, base, tot, h1, h2⟩ := hc
    exact slices h1 h2 e
  · obtain ⟨_, e⟩ := bo_some e
    obtain ⟨b, base, tot, cap, h1, h2, _⟩ := hc
    exact slices h1 h2 e
  · cases e
    have k0 : k = 0 := by omega
    subst k0
    obtain ⟨b, base, tot, o, cap, h1, h2, _⟩ := hc
    subst h2
    refine ⟨fun _ => rfl, [], run_firstCells_some w size 0 _ 0 cap [] (by simp) (fun j u hu => by simp at hu), ?_⟩
    rw [hm1]; simp; exact .nil
  · obtain ⟨hb, e⟩ := bo_some e
    have hs : size = 1 := Nat.eq_of_beq_eq_true hb
    subst hs
    cases e
    obtain ⟨y, hy, hl⟩ := hc
    subst hy
    subst hl
    refine ⟨fun _ => by simp [Builtin.lenOf], (byteCells y).take k, ?_, by rw [hm1, Nat.mul_one]; exact (bytes_cells y).take k⟩
    simp only [Builtin.firstCells, Sem.run_pure]
    congr 1
    apply Array.ext'
    simp [byteCells]
  · cases e
theorem snd_cp {c : Call} {x y : Operand} {t el : TypeId} {ts : List TypeId} (hc : c.callee = .builtin .copy) (ha : c.args = #[x, y]) (ht : c.argTypes.toList = t :: ts) (hu : P.underlying t = some (.slice el)) {ax ay : AX} (hx : cX x = some ax) (hy : cX y = some ay) {s : Nat} (hs : sizeT P el = some s)
    (g : Gv E ρ φ fr a h w) (e : opCp s ax ay fr h = .ok v h') : Res ρ φ h w v h' ((opR a.eval (.call c) ty).run P w) := by
  obtain ⟨p, h1, e1⟩ := evC_ok e
  obtain ⟨q, h2, e2⟩ := evC_ok e1
  obtain ⟨⟨n, l⟩, h3, e3⟩ := ro_ok e2
  have hp : VC ρ φ p (a.eval x) := cX_ok hx g.fr h1
  have hq : VC ρ φ q (a.eval y) := cX_ok hy g.fr h2
  have ht0 : c.argTypes[0]? = some t := by rw [← Array.getElem?_toList, ht]; rfl
  have fin : ∀ {base : Option Addr} {dLen dCap : Nat} {news : List Value} {w' : World}, a.eval x = .slice base dLen dCap → (∀ w', (Builtin.lenOf (a.eval y)).run P w' = .ok n w') → (Builtin.firstCells s (Nat.min n dLen) (a.eval y)).run P w = .ok news.toArray w → (match base with | some b => (storeCells b news).run P w = .ok () w' | none => w' = w) → (opR a.eval (.call c) ty).run P w = .ok (.value (goInt (Nat.min n dLen))) w' := by
    intro base dLen dCap news w' hx' hlen hnew hst
    rw [opR_builtin hc, ha]
    have hmap : (#[x, y] : Array Operand).map a.eval = #[a.eval x, a.eval y] := by simp
    rw [hmap, hx']
    cases base with
    | none =>
      simp only at hst
      subst hst
      simp [builtin, Builtin.copy_, ht0, run_underlying hu, hlen, run_sizeT hs, hnew]
    | some b =>
      simp only at hst
      simp [builtin, Builtin.copy_, ht0, run_underlying hu, hlen, run_sizeT hs, hnew, hst]
  have into : ∀ {id : Bid} {b base tot off len cap : Nat}, φ id = some (b, base, tot) → a.eval x = .slice (some ⟨b, base + off, none⟩) len cap → copyTo id off len n s l h = .ok v h' → Res ρ φ h w v h' ((opR a.eval (.call c) ty).run P w) := by
    intro id b base tot off len cap hid hx' e4
    obtain ⟨m, h5, e5⟩ := ro_ok e4
    obtain ⟨h2', h6, e6⟩ := ro_ok e5
    cases e6
    obtain ⟨hlen, news, h7, h8⟩ := row_prefix (P := P) g.rel hq h3 (Nat.min_le_left n len) h5
    obtain ⟨w', h9, h10⟩ := run_stores (P := P) g.rel h8 h6 hid
    exact ⟨_, _, w', φ, fin hx' hlen h7 h9, rfl, rfl, h10⟩
  have nothing : ∀ {base : Option Addr} {cap : Nat}, a.eval x = .slice base 0 cap → v = .c (.i .i64 (Int.ofNat 0)) → h' = h → Res ρ φ h w v h' ((opR a.eval (.call c) ty).run P w) := by
    intro base cap hx' hv hh
    obtain ⟨hlen, news, h7, h8⟩ := row_prefix (P := P) (k := 0) (m := []) g.rel hq h3 (Nat.zero_le _) (by rw [Nat.zero_mul]; rfl)
    have hn : news = [] := by cases h8; rfl
    subst hn
    have h0 : Nat.min n 0 = 0 := by simp
    refine ⟨.value (goInt (Nat.min n 0)), goInt (Nat.min n 0), w, φ, fin hx' hlen (by rw [h0]; exact h7) (by cases base <;> rfl), rfl, ?_, by rw [hh]; exact Stp.refl g.rel⟩
    rw [hv, h0]; rfl
  simp only at e3
  split at e3
  · cases e3; exact nothing (show a.eval x = .slice none 0 0 from hp) rfl rfl
  · obtain ⟨b, base, tot, h5, h6⟩ := hp; exact into h5 h6 e3
  · obtain ⟨b, base, tot, cap, h5, h6, _⟩ := hp; exact into h5 h6 e3
  · cases e3; obtain ⟨b, base, tot, o, cap, h5, h6, _⟩ := hp; exact nothing h6 rfl rfl
  · cases e3
theorem snd_clr {c : Call} {x : Operand} {t el : TypeId} (hc : c.callee = .builtin .clear) (ha : c.args = #[x]) (ht : c.argTypes = #[t]) (hu : P.underlying t = some (.slice el)) {ax : AX} (hx : cX x = some ax) {z : List AC} (hz : zeroOf P el = some z) (hzp : 0 < z.length)
    (g : Gv E ρ φ fr a h w) (e : opClr z ax fr h = .ok v h') : Res ρ φ h w v h' ((opR a.eval (.call c) ty).run P w) := by
  obtain ⟨p, h1, e1⟩ := evC_ok e
  have hp : VC ρ φ p (a.eval x) := cX_ok hx g.fr h1
  obtain ⟨zv, hz0, hz1, _⟩ := run_zeroT (ρ := ρ) (φ := φ) hz
  have hmap : (#[x] : Array Operand).map a.eval = #[a.eval x] := by simp
  have nothing : ∀ {base : Option Addr} {cap : Nat}, a.eval x = .slice base 0 cap → (opR a.eval (.call c) ty).run P w = .ok (.value (.tuple #[])) w := by
    intro base cap hx'
    rw [opR_builtin hc, ha, hmap, hx', ht]
    cases base <;> simp [builtin, Builtin.clear_, run_underlying hu]
  have into : ∀ {id : Bid} {b base tot off len cap : Nat} {h2 : Hp}, φ id = some (b, base, tot) → a.eval x = .slice (some ⟨b, base + off, none⟩) len cap → h.sts id off (zrep z len) = some h2 → Res ρ φ h w (.t []) h2 ((opR a.eval (.call c) ty).run P w) := by
    intro id b base tot off len cap h2 hid hx' hst
    have hzs := zeros_ok hzp hz1 len
    obtain ⟨w', h9, h10⟩ := run_stores (P := P) g.rel hzs hst hid
    have hzc : zv.cells.size = z.length := by have := hz1.length; simp at this; omega
    have hzr : Builtin.zeroCells zv.cells len = (zrow zv.cells (len * z.length)).toArray := by
      rw [← hzc]; exact zrow_eq zv.cells _
    refine ⟨.value (.tuple #[]), _, w', φ, ?_, rfl, ⟨[], rfl, .nil⟩, h10⟩
    cases len with
    | zero =>
      have hn : zrow zv.cells (0 * z.length) = [] := by simp [zrow]
      rw [hn] at h9
      cases h9
      exact nothing hx'
    | succ len =>
      rw [opR_builtin hc, ha, hmap, hx', ht]
      simp [builtin, Builtin.clear_, run_underlying hu, hz0, hzr, h9]
  split at e1
  · cases e1
    exact Res.val g.rel (v := .t []) ⟨[], rfl, .nil⟩ (nothing (show a.eval x = .slice none 0 0 from hp))
  · obtain ⟨h2, h3, e2⟩ := ro_ok e1; cases e2; obtain ⟨b, base, tot, h5, h6⟩ := hp; exact into h5 h6 h3
  · obtain ⟨h2, h3, e2⟩ := ro_ok e1; cases e2; obtain ⟨b, base, tot, cap, h5, h6, _⟩ := hp; exact into h5 h6 h3
  · cases e1
    obtain ⟨b, base, tot, o, cap, h5, h6, _⟩ := hp
    exact Res.val g.rel (v := .t []) ⟨[], rfl, .nil⟩ (nothing h6)
  · cases e1
end
end Go.Proofs.YtmbbciidknchiaaGreat
