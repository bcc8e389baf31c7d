/-
  A verified evaluator: equality of structs; addresses, slices, parts. No function of the program is named here.
-/
import Derived.Test.YtmbbciidknchiaaGreatEnF
namespace Go.Proofs.YtmbbciidknchiaaGreat
section eqa
variable {P : Program} {E : Env} {ρ : Vn} {φ : Emb} {w : World}
/-- part t of cells is compared as the kinds say -/
def PartEq (P : Program) (E : Env) (ρ : Vn) (φ : Emb) (w : World) (d : Nat) (t : TypeId) (ks : List CK) : Prop :=
  ∀ D, d ≤ D → ∀ (lx ly : List AC) (vx vy : List Value) (off : Nat) (b : Bool), All2 (VC ρ φ) lx vx → All2 (VC ρ φ) ly vy → eqKs E ks ((lx.drop off).take ks.length) ((ly.drop off).take ks.length) = some b →
    ∃ p q, (part t vx.toArray off).run P w = .ok p w ∧ (part t vy.toArray off).run P w = .ok q w ∧ (Op.equalIn D t p q).run P w = .ok b w
theorem fields_run {d D : Nat} (hD : d ≤ D) (ih : ∀ t ks, plainS P d t = some ks → sizeT P t = some ks.length → PartEq P E ρ φ w d t ks) {lx ly : List AC} {vx vy : List Value} (hx : All2 (VC ρ φ) lx vx) (hy : All2 (VC ρ φ) ly vy) :
    ∀ {fs : List Field} {n : Nat} {ks : List CK} {b : Bool}, plainFs P (plainS P d) fs n = some ks → eqKs E ks (lx.drop n) (ly.drop n) = some b → (Op.eqFields D vx.toArray vy.toArray fs).run P w = .ok b w
  | [], n, ks, b, e, hb => by
    cases e
    have : b = true := by
      revert hb
      cases lx.drop n <;> cases ly.drop n <;> intro hb <;> first | (cases hb; rfl) | cases hb
    rw [this]
    rfl
  | f :: fs, n, ks, b, e, hb => by
    simp only [plainFs] at e
    split at e
    · cases e
    · rename_i hn
      have hname : f.name ≠ "_" := fun h => hn (.inl h)
      have hoff : f.offset = n := Classical.byContradiction fun h => hn (.inr h)
      split at e
      · rename_i k s hk hs
        split at e
        · rename_i hks
          split at e
          · rename_i l hl
            cases e
            obtain ⟨b1, b2, h1, h2, rfl⟩ := eqKs_append hb
            obtain ⟨p, q, hp, hq, hr⟩ := ih f.type k hk (by rw [hs, hks]) D hD lx ly vx vy n b1 hx hy h1
            have h3 := fields_run hD ih hx hy (n := n + s) hl (by rw [← hks]; simpa [List.drop_drop, Nat.add_comm] using h2)
            simp only [Op.eqFields, if_pos hname, hoff, Sem.run_bind, hp, hq, hr, Result.andThen_ok, Sem.run_ite]
            cases b1 with
            | false => simp
            | true => simpa using h3
          · cases e
        · cases e
      · cases e
theorem take_one {α : Type} {l : List α} {off : Nat} {x : α} (e : (l.drop off).take 1 = [x]) : l[off]? = some x := by
  have h0 : ((l.drop off).take 1)[0]? = some x := by rw [e]; rfl
  simpa using h0
theorem part_one (he : EnvOk E ρ) {t : TypeId} {k : CK} {dd : TypeDesc} (hu : P.underlying t = some dd) (hd : aggD dd = false)
    (hk : CkT P t k) (d : Nat) : PartEq P E ρ φ w (d + 1) t [k] := by
  intro D hD lx ly vx vy off b hx hy hb
  obtain ⟨D', rfl⟩ : ∃ D', D = D' + 1 := ⟨D - 1, by omega⟩
  cases h1 : (lx.drop off).take 1 with
  | nil => rw [show ([k] : List CK).length = 1 from rfl, h1] at hb; cases hb
  | cons c l1 =>
    cases h2 : (ly.drop off).take 1 with
    | nil => rw [show ([k] : List CK).length = 1 from rfl, h1, h2] at hb; cases hb
    | cons c' l2 =>
      rw [show ([k] : List CK).length = 1 from rfl, h1, h2] at hb
      simp only [eqKs] at hb
      cases h3 : eqCell E k c c' with
      | none => rw [h3] at hb; cases hb
      | some b1 =>
        rw [h3] at hb
        have e1 : l1 = [] := by have := congrArg List.length h1; simp at this; exact List.eq_nil_of_length_eq_zero (by omega)
        have e2 : l2 = [] := by have := congrArg List.length h2; simp at this; exact List.eq_nil_of_length_eq_zero (by omega)
        subst e1; subst e2
        simp only [eqKs, Option.some.injEq] at hb
        have hb' : b = b1 := by rw [← hb]; simp
        obtain ⟨x, hx1, hx2⟩ := hx.get (take_one h1)
        obtain ⟨y, hy1, hy2⟩ := hy.get (take_one h2)
        exact ⟨x, y, run_part_one hu hd hx1 w, run_part_one hu hd hy1 w, by rw [hb']; exact eqCell_run he h3 hx2 hy2 hk D'⟩
theorem plain_run (he : EnvOk E ρ) : ∀ (d : Nat) (t : TypeId) (ks : List CK), plainS P d t = some ks → sizeT P t = some ks.length → PartEq P E ρ φ w d t ks
  | 0, t, ks, e, _ => by cases e
  | d + 1, t, ks, e, hs => by
    simp only [plainS] at e
    split at e
    · rename_i hu; cases e; exact part_one (k := .b) he hu rfl hu d
    · rename_i q hu; cases e; exact part_one (k := .i) he hu rfl ⟨q, hu⟩ d
    · rename_i hu; cases e; exact part_one (k := .s) he hu rfl hu d
    · rename_i fs hu
      split at e
      · cases e
      · rename_i hst
        intro D hD lx ly vx vy off b hx hy hb
        obtain ⟨D', rfl⟩ : ∃ D', D = D' + 1 := ⟨D - 1, by omega⟩
        refine ⟨_, _, run_part_agg hu rfl hs vx off w, run_part_agg hu rfl hs vy off w, ?_⟩
        have hf : P.fieldsOf t = fs := by simp [Program.fieldsOf, hu]
        rw [run_equalIn_agg w D' t _ _ (by rw [hf]; exact hu) (by simpa using hst), hf]
        exact fields_run (by omega) (fun t ks => plain_run he d t ks) ((hx.drop off).take _) ((hy.drop off).take _) e (by simpa using hb)
    · cases e
variable {fr : Fr} {a : Act} {h h' : Hp} {v : AV} {ty : TypeId}
theorem snd_eqa {neg : Bool} {op : BinOp} (hop : op = bif neg then .neq else .eql) {t : TypeId} {fs : Array Field} (hu : P.underlying t = some (.struct fs)) {x y : Operand} {ao : AO} (hc : cEqa P neg t x y = some ao) (u : TypeId) (g : Gv E ρ φ fr a h w) (e : aop P E noCall ao fr h = .ok v h') : Res ρ φ h w v h' ((opR a.eval (.binOp op t x y u) ty).run P w) := by
  unfold cEqa at hc
  split at hc
  · cases hc
  · rename_i hg
    split at hc
    · rename_i ks ax ay hk hx hy
      split at hc
      case isFalse => cases hc
      rename_i hsz
      cases hc
      obtain ⟨p, h1, e1⟩ := ro_ok (show opEqa E neg ks ax ay fr h = .ok v h' from e)
      obtain ⟨q, h2, e2⟩ := ro_ok e1
      obtain ⟨l, h3, e3⟩ := ro_ok e2
      obtain ⟨m, h4, e4⟩ := ro_ok e3
      obtain ⟨b, h5, e5⟩ := ro_ok e4
      cases e5
      rw [asA_some h3] at h1
      rw [asA_some h4] at h2
      obtain ⟨vx, ex, hvx⟩ := cX_ok hx g.fr h1
      obtain ⟨vy, ey, hvy⟩ := cX_ok hy g.fr h2
      have hlen := eqKs_length h5
      obtain ⟨p', q', hp, hq, hr⟩ := plain_run (P := P) (w := w) g.env 8 t ks hk hsz 10000 (by omega) l m vx vy 0 b hvx hvy (by rw [List.drop_zero, List.drop_zero, List.take_of_length_le (by omega), List.take_of_length_le (by omega)]; exact h5)
      rw [run_part_agg hu rfl hsz] at hp hq
      cases hp
      cases hq
      have l1 := hvx.length
      have l2 := hvy.length
      rw [List.drop_zero, List.drop_zero, List.take_of_length_le (by omega), List.take_of_length_le (by omega)] at hr
      refine Res.val g.rel (v := .c (.b (xor neg b))) (u := .bool (xor neg b)) rfl ?_
      simp only [opR, execOp, ex, ey]
      rw [Sem.run_bind, Sem.run_bind, run_eqGuard_agg w op t x y _ _ (by simpa using hg), Result.andThen_ok]
      subst hop
      cases neg with
      | false => simp only [cond_false]; rw [run_eql_struct, hr]; simp
      | true => simp only [cond_true]; rw [run_neq_struct, hr]; simp
    · cases hc
end eqa
end Go.Proofs.YtmbbciidknchiaaGreat
