/-
  The contract of (*kernel.doing).drop, amid another's memory.
-/
import Derived.Test.YtnofmmceafkkoaaGreatSt
import Derived.Test.YtnofmmceafkkoaaGreatRcH
set_option linter.unusedVariables false
set_option linter.unusedSimpArgs false
set_option maxRecDepth 100000
namespace Go.Proofs.YtnofmmceafkkoaaGreat
open Go.RowKit
theorem cellsA {ρ : Vn} {φ : Emb} {arr : Array Value} : ∀ {c : List AC} {base : Nat}, CellsAt ρ φ c base arr → ∃ vs, All2 (VC ρ φ) c vs ∧ ∀ (o : Nat) v, vs[o]? = some v → arr[base + o]? = some v
  | [], base, _ => ⟨[], .nil, fun o v h => by simp at h⟩
  | x :: c, base, ⟨h1, h2⟩ => by
    obtain ⟨v, hv, hx⟩ := h2 0 x rfl
    obtain ⟨vs, k1, k2⟩ := cellsA (ρ := ρ) (φ := φ) (arr := arr) (c := c) (base := base + 1) ⟨by rw [List.length_cons] at h1; omega, fun o y hy => by
      have := h2 (o + 1) y (by simpa using hy)
      rwa [show base + (o + 1) = base + 1 + o by omega] at this⟩
    refine ⟨v :: vs, .cons hx k1, fun o u hu => ?_⟩
    cases o with
    | zero => cases hu; exact hv
    | succ o =>
      have := k2 o u (by simpa using hu)
      rwa [show base + (o + 1) = base + 1 + o by omega]
theorem All2.idx {α β : Type} {R : α → β → Prop} {l : List α} {m : List β} (h : All2 R l m) : l.length = m.length ∧ ∀ (o : Nat) x, l[o]? = some x → ∃ y, m[o]? = some y ∧ R x y := by
  induction h with
  | nil => exact ⟨rfl, fun o x h => by simp at h⟩
  | cons h1 _ ih =>
    refine ⟨by simp [ih.1], fun o x hx => ?_⟩
    cases o with
    | zero => cases hx; exact ⟨_, rfl, h1⟩
    | succ o => exact ih.2 o x (by simpa using hx)
theorem cellsZ {ρ : Vn} {φ : Emb} {arr : Array Value} {c : List AC} {base : Nat} {vs : List Value} (h0 : base + c.length ≤ arr.size) (h : All2 (VC ρ φ) c vs) (hv : ∀ (o : Nat) v, vs[o]? = some v → arr[base + o]? = some v) : CellsAt ρ φ c base arr :=
  ⟨h0, fun o x hx => by
    obtain ⟨v, h1, h2⟩ := h.idx.2 o x hx
    exact ⟨v, hv o v h1, h2⟩⟩
inductive Back (ρ : Vn) (φ : Emb) (ρ' : Vn) (φ' : Emb) : List AC → List AC → Prop where
  | nil : Back ρ φ ρ' φ' [] []
  | cons {x y : AC} {l m : List AC} (h : ∀ v, VC ρ' φ' x v → VC ρ φ y v) (t : Back ρ φ ρ' φ' l m) : Back ρ φ ρ' φ' (x :: l) (y :: m)
theorem Back.idx {ρ : Vn} {φ : Emb} {ρ' : Vn} {φ' : Emb} {l m : List AC} (h : Back ρ φ ρ' φ' l m) : m.length = l.length ∧ ∀ (o : Nat) x y v, l[o]? = some x → m[o]? = some y → VC ρ' φ' x v → VC ρ φ y v := by
  induction h with
  | nil => exact ⟨rfl, fun o x y v h => by simp at h⟩
  | cons h1 _ ih =>
    refine ⟨by simp [ih.1], fun o x y v hx hy hv => ?_⟩
    cases o with
    | zero => cases hx; cases hy; exact h1 v hv
    | succ o => exact ih.2 o x y v (by simpa using hx) (by simpa using hy) hv
theorem Back.cl {ρ : Vn} {φ : Emb} {ρ' : Vn} {φ' : Emb} : ∀ {l : List AC}, l.all clC = true → Back ρ φ ρ' φ' l l
  | [], _ => .nil
  | c :: l, e => by
    rw [List.all_cons, Bool.and_eq_true] at e
    refine .cons (fun v hv => ?_) (Back.cl e.2)
    cases c with
    | b x => exact hv
    | i k n => exact hv
    | s l => exact hv
    | _ => cases e.1
theorem held_cl (S : List Nat) : (hHeld S).all clC = true := by
  unfold hHeld
  rw [List.all_flatMap, List.all_eq_true]
  intro s _
  rfl

def i0 : Bid := B000
def i1 : Bid := B001
def i2 : Bid := B002
noncomputable def natDp (F : List Fc) (call : CallF) (f : Bid) (vs : List AV) (h : Hp) : RO := match vs with
  | [.c (.p id o)] => match h.get id with
    | some (.cells [c0, c1, .i .i64 f1, .ds e y, c4, c5, c6, c7, .su hid o1 n n2 es, c9, .su tid o2 l2 b2 es2, c11, c12, .i .i64 tx, c14, c15, c16, c17, c18, c19, c20, c21, c22, c23, c24, c25, c26, c27]) => match h.get tid, h.get hid with
      | some (.cells [.i .i64 tx1, t1, t2, t3, .ds e2 q, t5]), some (.cells hc) => match fdSet F y q with
        | some k => br (((decide (o = 0) && decide (f1 = 1)) && (decide (e = shE) && durB F y c4)) && (((decide (o1 = 0) && decide (n2 = n)) && (decide (es = 4) && decide (o2 = 0))) && (((decide (l2 = 1) && decide (b2 = 1)) && (decide (es2 = 6) && decide (tx = 1))) && (((decide (tx1 = 1) && decide (e2 = shI)) && (distN [(id, i0), (tid, i1), (hid, i2)] && decide (n = (subsN k.toNat).length))) && (decide (hc = hHeld (subsN k.toNat)) && decide (k.toNat ≠ 0)))))) (.ok (.t []) h)
        | none => .no
      | _, _ => .no
    | _ => .no
  | _ => call f vs h
theorem natDp_ok {F : List Fc} {call : CallF} (hC : CallOk Tryz.prog (envR F) call) : EntOk Tryz.prog (envR F) B07d (.natm (natDp F call B07d)) := by
  refine ⟨fun args w => enter_run Tryz.func125 (by kernel_rfl) rfl args w, ?_⟩
  intro vs v h h' hv ρ φ w us he hr hu
  have hp : StdF ρ ∧ ∀ f ∈ F, f.holds QR ρ := envR_prop he
  have hv' : natDp F call B07d vs h = .ok v h' := hv
  unfold natDp at hv'
  split at hv'
  · rename_i id o
    split at hv'
    · rename_i c0 c1 f1 e y c4 c5 c6 c7 hid o1 n n2 es c9 tid o2 l2 b2 es2 c11 c12 tx c14 c15 c16 c17 c18 c19 c20 c21 c22 c23 c24 c25 c26 c27 hdo
      split at hv'
      · rename_i tx1 t1 t2 t3 e2 q t5 hc htx hhe
        split at hv'
        · rename_i k hk
          obtain ⟨hb, hv2⟩ := br_ok hv'
          simp only [Bool.and_eq_true, decide_eq_true_eq] at hb
          obtain ⟨⟨⟨rfl, rfl⟩, rfl, hdb⟩, ⟨⟨rfl, rfl⟩, rfl, rfl⟩, ⟨⟨rfl, rfl⟩, rfl, rfl⟩, ⟨⟨rfl, rfl⟩, hdist, hnl⟩, hhc, hk0⟩ := hb
          subst hnl hhc
          cases hv2
          obtain ⟨hk16, ns, hns, hpend, hin, hall⟩ := fdSet_ok hp.1 hp.2 hk
          cases hu with | @cons _ uu _ _ pu hu =>
          cases hu
          obtain ⟨bd, based, totd, hbd, rfl⟩ := pu
          obtain ⟨bd1, based1, arrd, Td, gd1, gd2, gd3⟩ := hr.cells id _ hdo
          obtain ⟨bt, baset, arrt, Tt, gt1, gt2, gt3⟩ := hr.cells tid _ htx
          obtain ⟨bh, baseh, arrh, Th, gh1, gh2, gh3⟩ := hr.cells hid _ hhe
          have hbd2 := hbd
          rw [gd1] at hbd2
          cases hbd2
          obtain ⟨vd, hx, kd⟩ := cellsA gd3
          obtain ⟨vt, hy, kt⟩ := cellsA gt3
          obtain ⟨vh, hz, kh⟩ := cellsA gh3
          have hx0 := hx
          have hy0 := hy
          cases hx with | @cons _ u0 _ _ x0 hx => cases hx with | @cons _ u1 _ _ x1 hx => cases hx with | @cons _ u2 _ _ x2 hx => cases hx with | @cons _ u3 _ _ x3 hx => cases hx with | @cons _ u4 _ _ x4 hx => cases hx with | @cons _ u5 _ _ x5 hx => cases hx with | @cons _ u6 _ _ x6 hx => cases hx with | @cons _ u7 _ _ x7 hx => cases hx with | @cons _ u8 _ _ x8 hx => cases hx with | @cons _ u9 _ _ x9 hx => cases hx with | @cons _ u10 _ _ x10 hx => cases hx with | @cons _ u11 _ _ x11 hx => cases hx with | @cons _ u12 _ _ x12 hx => cases hx with | @cons _ u13 _ _ x13 hx => cases hx with | @cons _ u14 _ _ x14 hx => cases hx with | @cons _ u15 _ _ x15 hx => cases hx with | @cons _ u16 _ _ x16 hx => cases hx with | @cons _ u17 _ _ x17 hx => cases hx with | @cons _ u18 _ _ x18 hx => cases hx with | @cons _ u19 _ _ x19 hx => cases hx with | @cons _ u20 _ _ x20 hx => cases hx with | @cons _ u21 _ _ x21 hx => cases hx with | @cons _ u22 _ _ x22 hx => cases hx with | @cons _ u23 _ _ x23 hx => cases hx with | @cons _ u24 _ _ x24 hx => cases hx with | @cons _ u25 _ _ x25 hx => cases hx with | @cons _ u26 _ _ x26 hx => cases hx with | @cons _ u27 _ _ x27 hx =>
          cases hx
          cases hy with | @cons _ s0 _ _ y0 hy => cases hy with | @cons _ s1 _ _ y1 hy => cases hy with | @cons _ s2 _ _ y2 hy => cases hy with | @cons _ s3 _ _ y3 hy => cases hy with | @cons _ s4 _ _ y4 hy => cases hy with | @cons _ s5 _ _ y5 hy =>
          cases hy
          obtain ⟨du, hdu, d0, d1⟩ := durB_ok hp.1 hp.2 hdb x4
          let m : List (Bid × Bid) := [(id, i0), (tid, i1), (hid, i2)]
          have hd : distN m = true := hdist
          have r0 : renE m φ i0 = φ id := renE_mem hd (by simp [m])
          have r1 : renE m φ i1 = φ tid := renE_mem hd (by simp [m])
          have r2 : renE m φ i2 = φ hid := renE_mem hd (by simp [m])
          let b : Nat → MV := fun j => if j = 0 then { d := ρ.d y } else if j = 1 then { i := du } else { d := ρ.d q }
          let g : Nm → Value := fun t => match t with
            | .v 100 => u0 | .v 101 => u1 | .v 105 => u5 | .v 106 => u6 | .v 107 => u7 | .v 109 => u9 | .v 111 => u11 | .v 112 => u12 | .v 114 => u14 | .v 115 => u15 | .v 116 => u16 | .v 117 => u17 | .v 118 => u18 | .v 119 => u19 | .v 120 => u20 | .v 121 => u21 | .v 122 => u22 | .v 123 => u23 | .v 124 => u24 | .v 125 => u25 | .v 126 => u26 | .v 127 => u27 | .v 141 => s1 | .v 142 => s2 | .v 143 => s3 | .v 145 => s5 | _ => .bool false
          have su1 : VC (vb b g φ.z) (renE m φ) (.su i2 0 (subsN k.toNat).length (subsN k.toNat).length 4) u8 := by
            obtain ⟨b', base', tot', cap', q1, q2⟩ := x8
            exact ⟨b', base', tot', cap', r2.trans q1, q2⟩
          have su2 : VC (vb b g φ.z) (renE m φ) (.su i1 0 1 1 6) u10 := by
            obtain ⟨b', base', tot', cap', q1, q2⟩ := x10
            exact ⟨b', base', tot', cap', r1.trans q1, q2⟩
          have cd : CellsAt (vb b g φ.z) (renE m φ) (hDoing (subsN k.toNat).length) based arrd := cellsZ gd3.1 (.cons (⟨rfl, x0.one⟩) (.cons (⟨rfl, x1.one⟩) (.cons (x2) (.cons (x3) (.cons (hdu) (.cons (⟨rfl, x5.one⟩) (.cons (⟨rfl, x6.one⟩) (.cons (⟨rfl, x7.one⟩) (.cons (su1) (.cons (⟨rfl, x9.one⟩) (.cons (su2) (.cons (⟨rfl, x11.one⟩) (.cons (⟨rfl, x12.one⟩) (.cons (x13) (.cons (⟨rfl, x14.one⟩) (.cons (⟨rfl, x15.one⟩) (.cons (⟨rfl, x16.one⟩) (.cons (⟨rfl, x17.one⟩) (.cons (⟨rfl, x18.one⟩) (.cons (⟨rfl, x19.one⟩) (.cons (⟨rfl, x20.one⟩) (.cons (⟨rfl, x21.one⟩) (.cons (⟨rfl, x22.one⟩) (.cons (⟨rfl, x23.one⟩) (.cons (⟨rfl, x24.one⟩) (.cons (⟨rfl, x25.one⟩) (.cons (⟨rfl, x26.one⟩) (.cons (⟨rfl, x27.one⟩) (.nil))))))))))))))))))))))))))))) kd
          have ct : CellsAt (vb b g φ.z) (renE m φ) hTx baset arrt := cellsZ gt3.1 (.cons (y0) (.cons (⟨rfl, y1.one⟩) (.cons (⟨rfl, y2.one⟩) (.cons (⟨rfl, y3.one⟩) (.cons (y4) (.cons (⟨rfl, y5.one⟩) (.nil))))))) kt
          have ch : CellsAt (vb b g φ.z) (renE m φ) (hHeld (subsN k.toNat)) baseh arrh := cellsZ gh3.1 (clC_ok (held_cl _) hz) kh
          have mem3 : ∀ {c B}, (hS0 (subsN k.toNat)).hp.get c = some B → (c, B) = (i0, .cells (hDoing (subsN k.toNat).length)) ∨ (c, B) = (i1, .cells hTx) ∨ (c, B) = (i2, .cells (hHeld (subsN k.toNat))) := fun {c B} hB => by
            have h9 : (c, B) ∈ hMem (subsN k.toNat) := memOf_get (show get3 (memOf (hS0 (subsN k.toNat)).mem) c = some B from hB)
            unfold hMem at h9
            simpa [i0, i1, i2] using h9
          have h0r : Rel (vb b g φ.z) (renE m φ) (hS0 (subsN k.toNat)).hp w := rel_in hr hd (fun x hx => by
              have hx : x = (id, i0) ∨ x = (tid, i1) ∨ x = (hid, i2) := by simpa [m] using hx
              rcases hx with rfl | rfl | rfl
              · show (0 : Nat) < 3; decide
              · show (1 : Nat) < 3; decide
              · show (2 : Nat) < 3; decide) (fun _ _ h => h) fun c B hB => by
            rcases mem3 hB with e | e | e
            · cases e; exact ⟨id, bd, based, arrd, Td, _, by simp [m], by rw [hdo]; rfl, gd1, gd2, rfl, cd⟩
            · cases e; exact ⟨tid, bt, baset, arrt, Tt, _, by simp [m], by rw [htx]; rfl, gt1, gt2, rfl, ct⟩
            · cases e; exact ⟨hid, bh, baseh, arrh, Th, _, by simp [m], by rw [hhe]; rfl, gh1, gh2, rfl, ch⟩
          have hC3 : ∀ c, c ∈ C3 → (renE m φ c).isSome := fun c hc => by
            have hc : c = i0 ∨ c = i1 ∨ c = i2 := by simpa [C3, i0, i1, i2] using hc
            rcases hc with rfl | rfl | rfl
            · rw [r0, gd1]; rfl
            · rw [r1, gt1]; rfl
            · rw [r2, gh1]; rfl
          have hi : HI (ρ.d y) ns du b := ⟨rfl, rfl, hns⟩
          obtain ⟨L, hkL⟩ := hP_mem hk0 hk16
          have hret : retOf hRes (hS0 (subsN k.toNat)).frame (hS0 (subsN k.toNat)).hp = .ok (.t []) (hS0 (subsN k.toNat)).hp := by
            have h9 := List.all_eq_true.1 hRet _ hkL
            dsimp only at h9
            split at h9
            · rename_i h8 heq
              have : retOf hRes (hS0 (subsN k.toNat)).frame (hS0 (subsN k.toNat)).hp = .ok (.t []) h8 := heq
              rw [this]
              obtain ⟨vs9, _, e8⟩ := ro_ok this
              obtain ⟨v9, _, e9⟩ := ro_ok e8
              cases e9
              rfl
            · cases h9
          refine (call_in (C := C3) (φ0 := renE m φ) (Fin := fun ρ3 v s => v = .t [] ∧ s = hS0 (subsN k.toNat) ∧ ∃ b3, HI (ρ.d y) ns du b3 ∧ ρ3 = vb b3 g φ.z) Tryz.func125 (by kernel_rfl) (ac := hBody) (res := hRes) (args := [.c (.p i0 0)]) (s0 := hS0 (subsN k.toNat)) ⟨_, rfl, rfl⟩ (.cons ⟨bd, based, _, r0.trans gd1, rfl⟩ .nil) h0r
            ((drop_tri hC3 hpend d0 d1 hin hall hk0 hk16 hi).post fun e a w' hq => ⟨.inr hq.1, ?_⟩)).mono ?_
          · obtain ⟨b3, h3, h4⟩ := hq.2
            exact ⟨vb b3 g φ.z, hS0 (subsN k.toNat), .t [], hret, ⟨rfl, rfl, b3, h3, rfl⟩, h4⟩
          · rintro e w' ⟨u, ρ3, φ3, v3, s3, rfl, ⟨rfl, rfl, b3, hb3', rfl⟩, hvu, r3, ik⟩
            have hb3 : HI (ρ.d y) ns du b3 := hb3'
            have hle : φ.le ⟨φ.m, φ3.z⟩ := ⟨fun _ _ h => h, fun b x hx => ik.z b x hx⟩
            have s1' : φ3 i1 = φ tid := (ik.le i1 (by simp [C3, i1])).trans r1
            have s2' : φ3 i2 = φ hid := (ik.le i2 (by simp [C3, i2])).trans r2
            have bs1 : ∀ v, VC (vb b3 g φ.z) φ3 (.su i2 0 (subsN k.toNat).length (subsN k.toNat).length 4) v → VC ρ ⟨φ.m, φ3.z⟩ (.su hid 0 (subsN k.toNat).length (subsN k.toNat).length 4) v := fun v hv => by
              obtain ⟨b', base', tot', cap', q1, q2⟩ := hv
              exact ⟨b', base', tot', cap', s2'.symm.trans q1, q2⟩
            have bs2 : ∀ v, VC (vb b3 g φ.z) φ3 (.su i1 0 1 1 6) v → VC ρ ⟨φ.m, φ3.z⟩ (.su tid 0 1 1 6) v := fun v hv => by
              obtain ⟨b', base', tot', cap', q1, q2⟩ := hv
              exact ⟨b', base', tot', cap', s1'.symm.trans q1, q2⟩
            have kd' : Back ρ ⟨φ.m, φ3.z⟩ (vb b3 g φ.z) φ3 (hDoing (subsN k.toNat).length) [c0, c1, .i .i64 1, .ds shE y, c4, c5, c6, c7, .su hid 0 (subsN k.toNat).length (subsN k.toNat).length 4, c9, .su tid 0 1 1 6, c11, c12, .i .i64 1, c14, c15, c16, c17, c18, c19, c20, c21, c22, c23, c24, c25, c26, c27] := .cons (fun v hv => by rw [hv.1]; exact x0.le hle) (.cons (fun v hv => by rw [hv.1]; exact x1.le hle) (.cons (fun v hv => hv) (.cons (fun v hv => by have h9 : SlD φ3.z shE (b3 0).d v := hv; rw [hb3.y] at h9; exact h9) (.cons (fun v hv => by have h9 : v = .int .i64 (b3 1).i := hv; rw [h9, hb3.d, ← hdu]; exact x4.le hle) (.cons (fun v hv => by rw [hv.1]; exact x5.le hle) (.cons (fun v hv => by rw [hv.1]; exact x6.le hle) (.cons (fun v hv => by rw [hv.1]; exact x7.le hle) (.cons (fun v hv => bs1 v hv) (.cons (fun v hv => by rw [hv.1]; exact x9.le hle) (.cons (fun v hv => bs2 v hv) (.cons (fun v hv => by rw [hv.1]; exact x11.le hle) (.cons (fun v hv => by rw [hv.1]; exact x12.le hle) (.cons (fun v hv => hv) (.cons (fun v hv => by rw [hv.1]; exact x14.le hle) (.cons (fun v hv => by rw [hv.1]; exact x15.le hle) (.cons (fun v hv => by rw [hv.1]; exact x16.le hle) (.cons (fun v hv => by rw [hv.1]; exact x17.le hle) (.cons (fun v hv => by rw [hv.1]; exact x18.le hle) (.cons (fun v hv => by rw [hv.1]; exact x19.le hle) (.cons (fun v hv => by rw [hv.1]; exact x20.le hle) (.cons (fun v hv => by rw [hv.1]; exact x21.le hle) (.cons (fun v hv => by rw [hv.1]; exact x22.le hle) (.cons (fun v hv => by rw [hv.1]; exact x23.le hle) (.cons (fun v hv => by rw [hv.1]; exact x24.le hle) (.cons (fun v hv => by rw [hv.1]; exact x25.le hle) (.cons (fun v hv => by rw [hv.1]; exact x26.le hle) (.cons (fun v hv => by rw [hv.1]; exact x27.le hle) (.nil))))))))))))))))))))))))))))
            have kt' : Back ρ ⟨φ.m, φ3.z⟩ (vb b3 g φ.z) φ3 hTx [.i .i64 1, t1, t2, t3, .ds shI q, t5] := .cons (fun v hv => hv) (.cons (fun v hv => by rw [hv.1]; exact y1.le hle) (.cons (fun v hv => by rw [hv.1]; exact y2.le hle) (.cons (fun v hv => by rw [hv.1]; exact y3.le hle) (.cons (fun v hv => by have h9 : SlD φ3.z shI (b3 2).d v := hv; rw [hb3.q, ← hns] at h9; exact h9) (.cons (fun v hv => by rw [hv.1]; exact y5.le hle) (.nil))))))
            have kh' : Back ρ ⟨φ.m, φ3.z⟩ (vb b3 g φ.z) φ3 (hHeld (subsN k.toNat)) (hHeld (subsN k.toNat)) := Back.cl (held_cl _)
            have g0 : (hS0 (subsN k.toNat)).hp.get i0 = some (.cells (hDoing (subsN k.toNat).length)) := rfl
            have g1 : (hS0 (subsN k.toNat)).hp.get i1 = some (.cells hTx) := rfl
            have g2 : (hS0 (subsN k.toNat)).hp.get i2 = some (.cells (hHeld (subsN k.toNat))) := rfl
            have hu0 : u = .tuple #[] := by
              obtain ⟨vs9, rfl, h9⟩ := hvu
              cases h9
              rfl
            refine ⟨u, ⟨φ.m, φ3.z⟩, rfl, by rw [hu0]; exact ⟨[], rfl, .nil⟩, IK.back hr hd (fun x hx => ?_) (fun c hc => ?_) ik r3 fun a c hm => ?_⟩
            · have hx : x = (id, i0) ∨ x = (tid, i1) ∨ x = (hid, i2) := by simpa [m] using hx
              rcases hx with rfl | rfl | rfl <;> simp [C3, i0, i1, i2]
            · obtain ⟨B, hB⟩ := Option.isSome_iff_exists.1 hc
              rcases mem3 hB with e | e | e
              · cases e; exact ⟨id, by simp [m], by rw [hdo]; rfl⟩
              · cases e; exact ⟨tid, by simp [m], by rw [htx]; rfl⟩
              · cases e; exact ⟨hid, by simp [m], by rw [hhe]; rfl⟩
            · have hm : (a, c) = (id, i0) ∨ (a, c) = (tid, i1) ∨ (a, c) = (hid, i2) := by simpa [m] using hm
              rcases hm with e | e | e
              · cases e; exact ⟨_, _, hdo, g0, kd'.idx.1, kd'.idx.2⟩
              · cases e; exact ⟨_, _, htx, g1, kt'.idx.1, kt'.idx.2⟩
              · cases e; exact ⟨_, _, hhe, g2, kh'.idx.1, kh'.idx.2⟩
        · cases hv'
      · cases hv'
    · cases hv'
  · exact (hC _ vs h v h' hv').2 ρ φ w us he hr hu
end Go.Proofs.YtnofmmceafkkoaaGreat
