/-
  A verified evaluator: the other operations that touch no memory, but slices. No function of the program is named here.
-/
import Derived.Test.YtmbbciidknchiaaGreatEnG
namespace Go.Proofs.YtmbbciidknchiaaGreat
section
variable {P : Program} {E : Env} {ρ : Vn} {φ : Emb} {fr : Fr} {a : Act} {h h' : Hp} {w : World} {v : AV} {ty : TypeId}
theorem isNil_ok {c : AC} {b : Bool} {x : Value} (e : isNil c = some b) (hc : VC ρ φ c x) : ∃ p n m, x = .slice p n m ∧ p.isNone = b := by
  unfold isNil at e
  split at e <;> cases e
  · exact ⟨none, 0, 0, hc, rfl⟩
  · obtain ⟨b, base, tot, _, rfl⟩ := hc; exact ⟨_, _, _, rfl, rfl⟩
  · obtain ⟨b, base, tot, cap, _, rfl, _⟩ := hc; exact ⟨_, _, _, rfl, rfl⟩
  · obtain ⟨b, base, tot, o, cap, _, rfl, _⟩ := hc; exact ⟨_, _, _, rfl, rfl⟩
theorem run_equalIn_slice (d : Nat) {t el : TypeId} (hu : P.underlying t = some (.slice el)) (p q : Option Addr) (n m n' m' : Nat) (hb : (p.isNone || q.isNone) = true) : (Op.equalIn (d + 1) t (.slice p n m) (.slice q n' m')).run P w = .ok (p.isNone && q.isNone) w := by
  cases p <;> cases q <;> first | (cases hb; done) | simp [Op.equalIn, run_underlying hu]
theorem snd_eqn {neg : Bool} {op : BinOp} (hop : op = bif neg then .neq else .eql) {t el : TypeId} (hu : P.underlying t = some (.slice el)) {x y : Operand} {ax ay : AX} (hx : cX x = some ax) (hy : cX y = some ay) (u : TypeId) (g : Gv E ρ φ fr a h w) (e : opEqn neg ax ay fr h = .ok v h') : Res ρ φ h w v h' ((opR a.eval (.binOp op t x y u) ty).run P w) := by
  obtain ⟨c, h1, e1⟩ := evC_ok e
  obtain ⟨d, h2, e2⟩ := evC_ok e1
  obtain ⟨p, h3, e3⟩ := ro_ok e2
  obtain ⟨q, h4, e4⟩ := ro_ok e3
  obtain ⟨hb, e5⟩ := br_ok e4
  cases e5
  obtain ⟨p1, n1, m1, hx1, hp1⟩ := isNil_ok (ρ := ρ) (φ := φ) h3 (show VC ρ φ c (a.eval x) from cX_ok hx g.fr h1)
  obtain ⟨p2, n2, m2, hx2, hp2⟩ := isNil_ok (ρ := ρ) (φ := φ) h4 (show VC ρ φ d (a.eval y) from cX_ok hy g.fr h2)
  refine Res.val g.rel (v := .c (.b (xor neg (p && q)))) (u := .bool (xor neg (p && q))) rfl ?_
  subst hop
  subst hp1
  subst hp2
  simp only [opR, execOp, hx1, hx2]
  have hq := run_equalIn_slice (P := P) (w := w) 9999 hu p1 p2 n1 m1 n2 m2 hb
  cases neg with
  | false =>
    simp only [cond_false, eqGuard, binOp, Sem.run_bind, Op.equal, Op.maxDepth]
    simp [hq]
  | true =>
    simp only [cond_true, eqGuard, binOp, Sem.run_bind, Op.equal, Op.maxDepth]
    simp [hq]
theorem snd_binOp (op : BinOp) (t : TypeId) (x y : Operand) (u : TypeId) : Snd P E (.binOp op t x y u) := by
  intro ao hc ρ φ fr a h w v h' ty g e
  simp only [cOp] at hc
  split at hc
  · cases hc; exact gen_bin u g e
  · cases hc; exact gen_bin u g e
  · cases hc; exact gen_bin u g e
  · cases hc; exact gen_bin u g e
  · cases hc; exact gen_bin u g e
  · cases hc; exact gen_bin u g e
  · cases hc; exact gen_bin u g e
  · cases hc; exact gen_bin u g e
  · split at hc
    · rename_i ax ay hx hy; cases hc; exact snd_bin hx hy u g e
    · cases hc
  · split at hc
    · rename_i ax ay hx hy; cases hc; exact snd_eqs (neg := false) rfl hx hy u g e
    · cases hc
  · split at hc
    · rename_i ax ay hx hy; cases hc; exact snd_eqs (neg := true) rfl hx hy u g e
    · cases hc
  · rename_i fs hu; exact snd_eqa (neg := false) rfl hu hc u g e
  · rename_i fs hu; exact snd_eqa (neg := true) rfl hu hc u g e
  · rename_i el hu
    split at hc
    · rename_i ax ay hx hy; cases hc; exact snd_eqn (neg := false) rfl hu hx hy u g e
    · cases hc
  · rename_i el hu
    split at hc
    · rename_i ax ay hx hy; cases hc; exact snd_eqn (neg := true) rfl hu hx hy u g e
    · cases hc
  · cases hc; exact gen_bin u g e
  · cases hc
theorem snd_unOp (op : UnOp) (t : TypeId) (x : Operand) : Snd P E (.unOp op t x) := by
  cases op with
  | not => exact snd_not t x
  | _ =>
    intro ao hc ρ φ fr a h w v h' ty g e
    cases hc
    exact gen_ok (fun f hf => by simp only [opR, execOp]; rw [hf x (by simp [Op.operands])]) g e
theorem conv_eq (k : IntKind) (n : Int) : conv k n = k.wrap n := by
  unfold conv
  cases n with
  | negSucc m => rfl
  | ofNat m =>
    show Bool.casesOn (motive := fun _ => Int) (Nat.blt m 128) (k.wrap (Int.ofNat m)) (Int.ofNat m) = _
    cases hb : Nat.blt m 128 with
    | false => rfl
    | true =>
      have hm : m < 128 := Nat.le_of_ble_eq_true hb
      show Int.ofNat m = k.wrap (Int.ofNat m)
      cases k <;> simp [IntKind.wrap, IntKind.bits, IntKind.signed] <;> omega
theorem snd_ci {s d : TypeId} {q k : IntKind} (hs : P.underlying s = some (.int q)) (hd : P.underlying d = some (.int k)) {x : Operand} {ax : AX} (hx : cX x = some ax) (g : Gv E ρ φ fr a h w) (e : opCi E k ax fr h = .ok v h') : Res ρ φ h w v h' ((opR a.eval (.convert s d x) ty).run P w) := by
  obtain ⟨c, h1, e1⟩ := evC_ok e
  rcases asI_ok e1 with ⟨k1, n, hcn, e2⟩ | e2
  · cases e2
    have hc : VC ρ φ c (a.eval x) := cX_ok hx g.fr h1
    rw [hcn] at hc
    refine Res.val g.rel (v := .c (.i k (conv k n))) (u := .int k (conv k n)) rfl ?_
    simp [opR, execOp, show a.eval x = .int k1 n from hc, convert, run_underlying hs, run_underlying hd, Conv.intToInt, conv_eq]
  · have hc : VC ρ φ c (a.eval x) := cX_ok hx g.fr h1
    unfold symCi at e2
    split at e2
    · rename_i q' y
      obtain ⟨c', h3, e3⟩ := ro_ok e2
      cases e3
      refine Res.val g.rel (v := .c c') (u := .int k (k.wrap (ρ.i y))) (g.env.cv _ _ _ _ h3 φ) ?_
      simp [opR, execOp, show a.eval x = .int q' (ρ.i y) from hc, convert, run_underlying hs, run_underlying hd, Conv.intToInt]
    · cases e2
theorem snd_nc (x : Operand) : Snd P E (.nilCheck x) := by
  intro ao hc ρ φ fr a h w v h' ty g e
  obtain ⟨ax, hx, rfl⟩ := map_some (show (cX x).map AO.nc = some ao from hc)
  obtain ⟨c, h1, e1⟩ := evC_ok (show opNc ax fr h = .ok v h' from e)
  have hv := cX_ok hx g.fr h1
  split at e1
  · cases e1
    refine Res.val g.rel hv ?_
    obtain ⟨b, base, tot, _, hp⟩ := hv
    simp [opR, execOp, hp]
  · cases e1
    refine Res.val g.rel hv ?_
    obtain ⟨xs, ys, hp, _⟩ := hv
    simp [opR, execOp, hp]
  · cases e1
theorem ptrs_ok : ∀ {us : List AV} {l : List (Bid × Nat)} {xs : List Value}, ptrs us = some l → All2 (VV ρ φ) us xs → All2 (PtrAt φ) l xs
  | [], l, xs, e, hx => by cases e; cases hx; exact .nil
  | u :: us, l, xs, e, hx => by
    cases hx with
    | cons h1 h2 =>
      cases u with
      | c c =>
        cases c <;> first | (cases e; done) | skip
        simp only [ptrs] at e
        cases hm : ptrs us with
        | none => rw [hm] at e; cases e
        | some m => rw [hm] at e; cases e; exact .cons h1 (ptrs_ok hm h2)
      | a l => cases e
      | t l => cases e
theorem snd_mf (f : FuncId) (first caps : Array Operand) : Snd P E (.makeFunc (.func f) first caps) := by
  intro ao hc ρ φ fr a h w v h' ty g e
  simp only [cOp] at hc
  split at hc
  · rename_i bf l m hf hl hm
    cases hc
    obtain ⟨us, h1, e1⟩ := ro_ok (show opMf bf l m fr h = .ok v h' from e)
    obtain ⟨vs, h2, e2⟩ := ro_ok e1
    obtain ⟨p, h3, e3⟩ := ro_ok e2
    obtain ⟨q, h4, e4⟩ := ro_ok e3
    cases e4
    refine Res.val g.rel (v := .c (.fn bf p q)) (u := .func (.func f) (first.map a.eval) (caps.map a.eval)) ?_ (by simp [opR, execOp, Instr.makeFunc])
    refine ⟨first.toList.map a.eval, caps.toList.map a.eval, ?_, ptrs_ok h3 (cXs_ok g.fr hl h1), ptrs_ok h4 (cXs_ok g.fr hm h2)⟩
    rw [Bid.of_num hf]
    congr 1
    · apply Array.ext'; simp
    · apply Array.ext'; simp
  · cases hc
theorem eq_ofNat {k : IntKind} {n : Nat} {x : Value} (h : VV ρ φ (.c (.i k (Int.ofNat n))) x) : x = .int k n := h
theorem run_asIntOf (k : IntKind) (n : Int) : asIntOf (.int k n) = pure (k, n) := rfl
theorem snd_fa (s : TypeId) (x : Operand) (f : Nat) : Snd P E (.fieldAddr s x f) := by
  intro ao hc ρ φ fr a h w v h' ty g e
  simp only [cOp] at hc
  split at hc
  · rename_i fs ax hu hx
    split at hc
    · rename_i fd hfd
      split at hc
      · rename_i n hn
        split at hc
        · rename_i hpos
          cases hc
          obtain ⟨id, off, h1, e1⟩ := evP_ok (show opFa fd.offset ax fr h = .ok v h' from e)
          cases e1
          obtain ⟨b, base, tot, h2, h3⟩ := cX_ok hx g.fr h1
          refine Res.val g.rel (v := .c (.p id (off + fd.offset))) (u := .pointer (some ⟨b, base + (off + fd.offset), none⟩)) ⟨b, base, tot, h2, rfl⟩ ?_
          have hne : n ≠ 0 := by omega
          simp [opR, execOp, Instr.fieldAt, run_underlying hu, hfd, h3, Instr.sureAddr, fieldPlace, run_sizeT hn, hne, Addr.add_lit, Nat.add_assoc]
        · cases hc
      · cases hc
    · cases hc
  · cases hc
theorem asAgg_eq {x : Value} {l : List AC} (hx : VV ρ φ (.a l) x) : ∃ vs : List Value, x = .agg vs.toArray ∧ All2 (VC ρ φ) l vs := hx
theorem snd_fd (t : TypeId) (x : Operand) (f : Nat) : Snd P E (.field t x f) := by
  intro ao hc ρ φ fr a h w v h' ty g e
  simp only [cOp] at hc
  split at hc
  · rename_i fs ax hu hx
    split at hc
    · rename_i fd hfd
      have one : ∀ {dd : TypeDesc}, P.underlying fd.type = some dd → aggD dd = false → opFd fd.offset ax fr h = .ok v h' → Res ρ φ h w v h' ((opR a.eval (.field t x f) ty).run P w) := by
        intro dd hdd hd e
        obtain ⟨p, h1, e1⟩ := ro_ok e
        obtain ⟨l, h2, e2⟩ := ro_ok e1
        obtain ⟨c, h3, e3⟩ := ro_ok e2
        cases e3
        rw [asA_some h2] at h1
        obtain ⟨vs, hvs, h4⟩ := cX_ok hx g.fr h1
        rw [lget_eq] at h3
        obtain ⟨y, h5, h6⟩ := h4.get h3
        refine Res.val g.rel (v := .c c) h6 ?_
        simp [opR, execOp, Instr.field, run_underlying hu, hfd, hvs, asAgg, run_part_one hdd hd h5]
      have many : ∀ {dd : TypeDesc} {n : Nat}, P.underlying fd.type = some dd → aggD dd = true → sizeT P fd.type = some n → opFdn fd.offset n ax fr h = .ok v h' → Res ρ φ h w v h' ((opR a.eval (.field t x f) ty).run P w) := by
        intro dd n hdd hd hn e
        obtain ⟨p, h1, e1⟩ := ro_ok e
        obtain ⟨l, h2, e2⟩ := ro_ok e1
        obtain ⟨c, h3, e3⟩ := ro_ok e2
        cases e3
        rw [asA_some h2] at h1
        obtain ⟨vs, hvs, h4⟩ := cX_ok hx g.fr h1
        obtain ⟨hc1, hc2, hc3⟩ := lsub_some h3
        refine Res.val g.rel (v := .a c) (u := .agg ((vs.drop fd.offset).take n).toArray) ⟨_, rfl, by rw [hc1]; exact (h4.drop _).take _⟩ ?_
        simp [opR, execOp, Instr.field, run_underlying hu, hfd, hvs, asAgg, run_part_agg hdd hd hn]
      split at hc
      · rename_i fs' n hdd hn; cases hc; exact many hdd rfl hn e
      · rename_i len' el' n hdd hn; cases hc; exact many hdd rfl hn e
      · rename_i dd n hne1 hne2 hdd hn
        cases hc
        refine one hdd ?_ e
        cases dd <;> first | rfl | exact (hne1 _ rfl).elim | exact (hne2 _ _ rfl).elim
      · cases hc
    · cases hc
  · cases hc
theorem snd_ex (x : Operand) (i : Nat) : Snd P E (.extract x i) := by
  intro ao hc ρ φ fr a h w v h' ty g e
  obtain ⟨ax, hx, rfl⟩ := map_some (show (cX x).map (fun x => AO.ex x i) = some ao from hc)
  obtain ⟨p, h1, e1⟩ := ro_ok (show opEx ax i fr h = .ok v h' from e)
  obtain ⟨l, h2, e2⟩ := ro_ok e1
  obtain ⟨c, h3, e3⟩ := ro_ok e2
  cases e3
  rw [asT_some h2] at h1
  obtain ⟨vs, hvs, h4⟩ := cX_ok hx g.fr h1
  rw [lget_eq] at h3
  obtain ⟨y, h5, h6⟩ := h4.get h3
  exact Res.val g.rel h6.av (by simp [opR, execOp, Instr.extract, hvs, h5])
theorem snd_ia (t : TypeId) (x i : Operand) : Snd P E (.indexAddr t x i) := by
  intro ao hc ρ φ fr a h w v h' ty g e
  simp only [cOp] at hc
  split at hc
  · rename_i n el ax ai hu hx hi
    obtain ⟨s, hs, rfl⟩ := map_some hc
    obtain ⟨id, off, h1, e1⟩ := evP_ok (show opIaa n s ax ai fr h = .ok v h' from e)
    obtain ⟨j, h2, e2⟩ := ro_ok e1
    obtain ⟨hb, e3⟩ := br_ok e2
    cases e3
    obtain ⟨k, h3⟩ := evN_some h2
    have hj := eq_ofNat (cX_ok hi g.fr h3)
    obtain ⟨b, base, tot, h4, h5⟩ := cX_ok hx g.fr h1
    have hlt : j < n := Nat.le_of_ble_eq_true hb
    refine Res.val g.rel (v := .c (.p id (off + j * s))) (u := .pointer (some ⟨b, base + (off + j * s), none⟩)) ⟨b, base, tot, h4, rfl⟩ ?_
    simp [opR, execOp, Instr.indexAt, hj, run_asIntOf, run_underlying hu, h5, Instr.sureAddr, hlt, run_sizeT hs, Addr.add_lit, Nat.add_assoc]
  · rename_i el ax ai hu hx hi
    obtain ⟨s, hs, rfl⟩ := map_some hc
    obtain ⟨c, h1, e1⟩ := evC_ok (show opIas s ax ai fr h = .ok v h' from e)
    obtain ⟨j, h2, e2⟩ := ro_ok e1
    obtain ⟨k, h3⟩ := evN_some h2
    have hj := eq_ofNat (cX_ok hi g.fr h3)
    have hv : VC ρ φ c (a.eval x) := cX_ok hx g.fr h1
    split at e2
    · rename_i id off len cap
      obtain ⟨hb, e3⟩ := br_ok e2
      cases e3
      obtain ⟨b, base, tot, h4, h5⟩ := hv
      have hlt : j < len := Nat.le_of_ble_eq_true hb
      refine Res.val g.rel (v := .c (.p id (off + j * s))) (u := .pointer (some ⟨b, base + (off + j * s), none⟩)) ⟨b, base, tot, h4, rfl⟩ ?_
      simp [opR, execOp, Instr.indexAt, hj, run_asIntOf, run_underlying hu, h5, hlt, run_sizeT hs, Addr.add_lit, Nat.add_assoc]
    · rename_i id off len lb es
      obtain ⟨hb, e3⟩ := br_ok e2
      cases e3
      obtain ⟨b, base, tot, cap, h4, h5, _⟩ := hv
      have hlt : j < len := Nat.le_of_ble_eq_true hb
      refine Res.val g.rel (v := .c (.p id (off + j * s))) (u := .pointer (some ⟨b, base + (off + j * s), none⟩)) ⟨b, base, tot, h4, rfl⟩ ?_
      simp [opR, execOp, Instr.indexAt, hj, run_asIntOf, run_underlying hu, h5, hlt, run_sizeT hs, Addr.add_lit, Nat.add_assoc]
    · cases e2
  · cases hc
theorem snd_ix (t : TypeId) (x i : Operand) : Snd P E (.index t x i) := by
  intro ao hc ρ φ fr a h w v h' ty g e
  simp only [cOp] at hc
  split at hc
  · rename_i n el ax ai hu hx hi
    have go : ∀ {dd : TypeDesc} {s : Nat} {agg : Bool}, P.underlying el = some dd → aggD dd = agg → sizeT P el = some s → opIxa n s agg ax ai fr h = .ok v h' → Res ρ φ h w v h' ((opR a.eval (.index t x i) ty).run P w) := by
      intro dd s agg hdd hd hs e
      obtain ⟨p, h1, e1⟩ := ro_ok e
      obtain ⟨l, h2, e2⟩ := ro_ok e1
      obtain ⟨j, h3, e3⟩ := ro_ok e2
      obtain ⟨hb, e4⟩ := br_ok e3
      obtain ⟨k, h5⟩ := evN_some h3
      have hj := eq_ofNat (cX_ok hi g.fr h5)
      have hlt : j < n := Nat.le_of_ble_eq_true hb
      rw [asA_some h2] at h1
      obtain ⟨vs, hvs, h4⟩ := cX_ok hx g.fr h1
      cases agg with
      | false =>
        obtain ⟨c, h6, e5⟩ := ro_ok e4
        cases e5
        rw [lget_eq] at h6
        obtain ⟨y, h7, h8⟩ := h4.get h6
        refine Res.val g.rel (v := .c c) h8 ?_
        simp [opR, execOp, Instr.index, hj, run_asIntOf, run_underlying hu, hvs, hlt, run_sizeT hs, run_part_one hdd hd h7]
      | true =>
        obtain ⟨c, h6, e5⟩ := ro_ok e4
        cases e5
        obtain ⟨hc1, hc2, hc3⟩ := lsub_some h6
        refine Res.val g.rel (v := .a c) (u := .agg ((vs.drop (j * s)).take s).toArray) ⟨_, rfl, by rw [hc1]; exact (h4.drop _).take _⟩ ?_
        simp [opR, execOp, Instr.index, hj, run_asIntOf, run_underlying hu, hvs, hlt, run_sizeT hs, run_part_agg hdd hd hs]
    split at hc
    · rename_i fs' s hdd hs; cases hc; exact go hdd rfl hs e
    · rename_i len' el' s hdd hs; cases hc; exact go hdd rfl hs e
    · rename_i dd s hne1 hne2 hdd hs
      cases hc
      refine go (agg := false) hdd ?_ hs e
      cases dd <;> first | rfl | exact (hne1 _ rfl).elim | exact (hne2 _ _ rfl).elim
    · cases hc
  · cases hc
    exact gen_ok (fun f hf => by simp only [opR, execOp]; rw [hf x (by simp [Op.operands]), hf i (by simp [Op.operands])]) g e
  · cases hc
end
end Go.Proofs.YtmbbciidknchiaaGreat
