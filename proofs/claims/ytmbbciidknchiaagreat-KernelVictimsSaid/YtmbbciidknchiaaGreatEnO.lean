/-
  A verified evaluator: len, cap, conversions, and all operations that make no call. No function of the program is named here.
-/
import Derived.Test.YtmbbciidknchiaaGreatEnN
namespace Go.Proofs.YtmbbciidknchiaaGreat
section
variable {P : Program} {E : Env} {ρ : Vn} {φ : Emb} {fr : Fr} {a : Act} {h h' : Hp} {w w' : World} {v : AV} {ty : TypeId}
theorem map1 {x : Operand} : (#[x] : Array Operand).map a.eval = #[a.eval x] := by simp
theorem snd_len {c : Call} {x : Operand} {t el : TypeId} (hc : c.callee = .builtin .len) (ha : c.args = #[x]) (ht : c.argTypes = #[t]) (hu : P.underlying t = some (.slice el)) {ax : AX} (hx : cX x = some ax) (g : Gv E ρ φ fr a h w) (e : opLen ax fr h = .ok v h') : Res ρ φ h w v h' ((opR a.eval (.call c) ty).run P w) := by
  obtain ⟨p, h1, e1⟩ := evC_ok e
  obtain ⟨n, h2, e2⟩ := ro_ok e1
  cases e2
  have hp : VC ρ φ p (a.eval x) := cX_ok hx g.fr h1
  have sl : ∀ {base : Option Addr} {cap : Nat}, a.eval x = .slice base n cap → Res ρ φ h w (.c (.i .i64 (Int.ofNat n))) h ((opR a.eval (.call c) ty).run P w) := by
    intro base cap hx'
    refine Res.val g.rel (v := .c (.i .i64 (Int.ofNat n))) (u := goInt n) rfl ?_
    rw [opR_builtin hc, ha, ht, map1, hx']
    simp [builtin, Builtin.len_, run_underlying hu]
  unfold lenOf at h2
  split at h2 <;> cases h2
  · exact sl (show a.eval x = .slice none 0 0 from hp)
  · obtain ⟨b, base, tot, _, h3⟩ := hp; exact sl h3
  · obtain ⟨b, base, tot, cap, _, h3, _⟩ := hp; exact sl h3
  · obtain ⟨b, base, tot, o, cap, _, h3, _⟩ := hp; exact sl h3
theorem snd_lens {c : Call} {x : Operand} {t : TypeId} (hc : c.callee = .builtin .len) (ha : c.args = #[x]) (ht : c.argTypes = #[t]) (hu : P.underlying t = some .string) {ax : AX} (hx : cX x = some ax) (g : Gv E ρ φ fr a h w) (e : opLens E ax fr h = .ok v h') : Res ρ φ h w v h' ((opR a.eval (.call c) ty).run P w) := by
  obtain ⟨p, h1, e1⟩ := evC_ok e
  obtain ⟨r, h2, e2⟩ := ro_ok e1
  cases e2
  have hp : VC ρ φ p (a.eval x) := cX_ok hx g.fr h1
  have st : ∀ {y : ByteArray}, a.eval x = .string y → VC ρ φ r (.int .i64 y.size) → Res ρ φ h w (.c r) h ((opR a.eval (.call c) ty).run P w) := by
    intro y hx' hr
    refine Res.val g.rel (v := .c r) (u := goInt y.size) hr ?_
    rw [opR_builtin hc, ha, ht, map1, hx']
    simp [builtin, Builtin.len_, run_underlying hu]
  unfold lensOf at h2
  split at h2
  · cases h2
    obtain ⟨y, h3, h4⟩ := hp
    refine st h3 ?_
    subst h4
    show Value.int .i64 (y.size : Int) = .int .i64 (Int.ofNat _)
    simp
  · exact st hp (g.env.len _ _ h2 φ)
  · cases h2
theorem snd_cap {c : Call} {x : Operand} {t el : TypeId} (hc : c.callee = .builtin .cap) (ha : c.args = #[x]) (ht : c.argTypes = #[t]) (hu : P.underlying t = some (.slice el)) {ax : AX} (hx : cX x = some ax) (g : Gv E ρ φ fr a h w) (e : opCap ax fr h = .ok v h') : Res ρ φ h w v h' ((opR a.eval (.call c) ty).run P w) := by
  obtain ⟨p, h1, e1⟩ := evC_ok e
  have hp : VC ρ φ p (a.eval x) := cX_ok hx g.fr h1
  have sl : ∀ {base : Option Addr} {n cap : Nat}, a.eval x = .slice base n cap → Res ρ φ h w (.c (.i .i64 (Int.ofNat cap))) h ((opR a.eval (.call c) ty).run P w) := by
    intro base n cap hx'
    refine Res.val g.rel (v := .c (.i .i64 (Int.ofNat cap))) (u := goInt cap) rfl ?_
    rw [opR_builtin hc, ha, ht, map1, hx']
    simp [builtin, Builtin.cap_, run_underlying hu]
  split at e1
  · cases e1; exact sl (show a.eval x = .slice none 0 0 from hp)
  · cases e1; obtain ⟨b, base, tot, _, h3⟩ := hp; exact sl h3
  · cases e1
theorem snd_convert (s d : TypeId) (x : Operand) : Snd P E (.convert s d x) := by
  intro ao hc ρ φ fr a h w v h' ty g e
  simp only [cOp] at hc
  split at hc
  · cases hc
  · rename_i q k hs hd
    obtain ⟨ax, hx, rfl⟩ := map_some hc
    exact snd_ci hs hd hx g e
  · cases hc
    exact gen_ok (fun f hf => by simp only [opR, execOp]; rw [hf x (by simp [Op.operands])]) g e
  · cases hc
theorem gen_call {c : Call} {b : Builtin} (hc : c.callee = .builtin b) (hb : ∀ at' ty' ty'' cs cs' vs, builtin b at' ty' cs vs = builtin b at' ty'' cs' vs) (g : Gv E ρ φ fr a h w) (e : opGen P E (.call c) fr h = .ok v h') : Res ρ φ h w v h' ((opR a.eval (.call c) ty).run P w) := by
  refine gen_ok (fun f hf => ?_) g e
  simp only [opR, execOp, resolve, hc, pure_bind, invoke]
  have : c.args.map a.eval = c.args.map f := Array.map_congr_left fun x hx => hf x (by
    simp only [Op.operands, Call.operands, hc]
    simpa using hx)
  rw [this]
  exact hb _ _ _ _ _ _
theorem snd_call (c : Call) : Snd P E (.call c) := by
  intro ao hc ρ φ fr a h w v h' ty g e
  simp only [cOp] at hc
  split at hc
  · split at hc
    · split at hc
      · split at hc
        · rename_i f' args' _ _
          cases hc
          obtain ⟨vs, _, h2⟩ := ro_ok (show opCall noCall f' args' fr h = .ok v h' from e)
          cases h2
        · cases hc
      · cases hc
    · cases hc
  · split at hc
    · rename_i ax l _ _
      cases hc
      obtain ⟨p, _, e1⟩ := evC_ok (show opCv noCall ax l fr h = .ok v h' from e)
      obtain ⟨vs, _, e2⟩ := ro_ok e1
      split at e2
      · cases e2
      · cases e2
    · cases hc
  · rename_i x y tx ty' hcal hargs hty
    split at hc
    · rename_i el kn ax ay hu hk hx hy
      split at hc
      · rename_i s z b hs hz hb
        split at hc
        · rename_i hcond
          cases hc
          exact snd_apz hcal (arr2 hargs) (arr2 hty) hu hk hx hy hs hz hb hcond g e
        · cases hc
      · cases hc
    · rename_i el el' ax ay hu hk hx hy
      exact snd_ap hcal (arr2 hargs) (arr2 hty) hu (.inl ⟨_, hk⟩) hx hy hc g e
    · rename_i el ax ay hu hk hx hy
      exact snd_ap hcal (arr2 hargs) (arr2 hty) hu (.inr hk) hx hy hc g e
    · cases hc
  · rename_i x t hcal hargs hty
    split at hc
    · rename_i el ax hu hx; cases hc; exact snd_len hcal (arr1 hargs) (arr1 hty) hu hx g e
    · rename_i ax hu hx; cases hc; exact snd_lens hcal (arr1 hargs) (arr1 hty) hu hx g e
    · rename_i n el hu
      cases hc
      cases e
      refine Res.val g.rel (v := .c (.i .i64 n)) (u := goInt n) rfl ?_
      rw [opR_builtin hcal, arr1 hargs, arr1 hty, map1]
      simp [builtin, Builtin.len_, run_underlying hu]
    · cases hc
  · rename_i x t hcal hargs hty
    split at hc
    · rename_i el ax hu hx; cases hc; exact snd_cap hcal (arr1 hargs) (arr1 hty) hu hx g e
    · cases hc
  · rename_i x y tx ts hcal hargs hty
    split at hc
    · rename_i el ax ay hu hx hy
      obtain ⟨s, hs, rfl⟩ := map_some hc
      exact snd_cp hcal (arr2 hargs) hty hu hx hy hs g e
    · cases hc
  · rename_i x t hcal hargs hty
    split at hc
    · rename_i el ax hu hx
      split at hc
      · rename_i z hz
        split at hc
        · rename_i hzp
          cases hc
          exact snd_clr hcal (arr1 hargs) (arr1 hty) hu hx hz hzp g e
        · cases hc
      · cases hc
    · cases hc
  · rename_i hcal
    cases hc
    exact gen_call hcal (fun _ _ _ _ _ _ => rfl) g e
  · rename_i hcal
    cases hc
    exact gen_call hcal (fun _ _ _ _ _ _ => rfl) g e
  · cases hc
/-- every operation that makes no call -/
theorem snd_all (op : Op) : Snd P E op := by
  cases op with
  | move x => exact snd_move x
  | assign x => exact snd_assign x
  | pick c x y => exact snd_pick c x y
  | alloc t => exact snd_al t
  | box t x => exact snd_bx t x
  | build t ps => exact snd_build t ps
  | buildSlice t n ps => exact snd_bs t n ps
  | insert t m k x => exact snd_insert t m k x
  | load t x => exact snd_ld t x
  | store t x y => exact snd_st t x y
  | nilCheck x => exact snd_nc x
  | binOp op t x y u => exact snd_binOp op t x y u
  | unOp op t x => exact snd_unOp op t x
  | convert s d x => exact snd_convert s d x
  | makeFunc fn first caps =>
    cases fn with
    | func f => exact snd_mf f first caps
    | _ => intro ao hc; cases hc
  | makeMap t o => exact snd_mm t o
  | makeSlice t x y => exact snd_ms t x y
  | slice t x lo hi mx => exact snd_slice t x lo hi mx
  | fieldAddr s x f => exact snd_fa s x f
  | field t x f => exact snd_fd t x f
  | indexAddr t x i => exact snd_ia t x i
  | index t x i => exact snd_ix t x i
  | lookup t x i ok => exact snd_lk t x i ok
  | mapUpdate t m k x => exact snd_mu t m k x
  | extract x i => exact snd_ex x i
  | call c => exact snd_call c
  | _ => intro ao hc; cases hc
end
end Go.Proofs.YtmbbciidknchiaaGreat
