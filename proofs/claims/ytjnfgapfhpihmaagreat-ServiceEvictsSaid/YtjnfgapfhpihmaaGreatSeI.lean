/-
  The contract of page.Identify at the bytes of a page: never written, or with one byte in cell 7.
-/
import Derived.Test.YtjnfgapfhpihmaaGreatSeN
set_option linter.unusedVariables false
set_option linter.unusedSimpArgs false
set_option maxRecDepth 100000
namespace Go.Proofs.YtjnfgapfhpihmaaGreat
open Go.RowKit
noncomputable def tblI (F : List Fc) : Tab := tabOf [(⟨.x1, .x2, .xf⟩, .nat (natGet F)), (⟨.x0, .x3, .x0⟩, .nat (natRepS F)), (⟨.x0, .xe, .x0⟩, .nat (natSumS F)), (⟨.x0, .x9, .x9⟩, .nat (natEn7 F)), (⟨.x0, .xa, .x4⟩, c164), (⟨.x0, .xe, .xa⟩, c234), (⟨.x0, .xe, .xb⟩, c235), (⟨.x1, .x1, .x8⟩, c280), (⟨.x1, .x1, .x9⟩, c281), (⟨.x1, .x1, .xa⟩, c282), (⟨.x0, .xe, .x9⟩, c233)]
theorem tblI_ok (F : List Fc) : TabOk Tryz.prog (envR F) (tblI F) := tab_cons (tab_cons (tab_cons (tab_cons (tab_cons (tab_cons (tab_cons (tab_cons (tab_cons (tab_cons (tab_cons tab_nil e233) e282) e281) e280) e235) e234) e164) (nat_ok entEnc (natEn7_ok F))) (nat_ok entSum (natSumS_ok F))) (nat_ok entRep (natRepS_ok F))) (nat_ok entGet (natGet_ok F))
def gI (a k : Nat) : Nm := .f2 (nat_lit 3010) (.v (nat_lit 0)) (.f2 (nat_lit 2002) (.num (.ofNat a)) (.num (.ofNat k)))
def sI (a b : Nat) : Nm := .f2 (nat_lit 3000) (.v (nat_lit 0)) (.f2 (nat_lit 2002) (.num (.ofNat a)) (.num (.ofNat b)))
def zI : Nm := .f1 (nat_lit 2003) (.num (.ofNat (nat_lit 256)))
def eI : Nm := .f2 (nat_lit 3100) (.f2 (nat_lit 2002) (gI (nat_lit 0) (nat_lit 8)) (gI (nat_lit 8) (nat_lit 4))) (sI (nat_lit 104) (nat_lit 105))
def hI : Nm := .f1 (nat_lit 2004) (sI (nat_lit 0) (nat_lit 244))
def rI (t : Nm) (n : Nat) : Fc := .rng t (.ofNat n) (.ofNat n)
def FB : List Fc := [.rng (.v (nat_lit 1)) 0 63, rI (.f1 (nat_lit 6) (.v (nat_lit 0))) (nat_lit 256), .seq (.v (nat_lit 0)) zI true]
def FI : List Fc := [.rng (.v (nat_lit 1)) 0 63, rI (.f1 (nat_lit 6) (.v (nat_lit 0))) (nat_lit 256), .seq (.v (nat_lit 0)) zI false, .seq (sI (nat_lit 0) (nat_lit 8)) (sI (nat_lit 248) (nat_lit 256)) true, rI (.f1 (nat_lit 6) (sI (nat_lit 0) (nat_lit 244))) (nat_lit 244), rI (.f1 (nat_lit 6) (sI (nat_lit 104) (nat_lit 105))) (nat_lit 1),
  .rng (gI (nat_lit 244) (nat_lit 4)) 0 4294967295, .rng hI 0 4294967295, .dif (gI (nat_lit 244) (nat_lit 4)) hI 0 0, .dif (gI (nat_lit 8) (nat_lit 4)) (.v (nat_lit 1)) 0 0, .rng (gI (nat_lit 8) (nat_lit 4)) 0 63, .rng (gI (nat_lit 0) (nat_lit 8)) 1 4000,
  rI (gI (nat_lit 12) (nat_lit 1)) (nat_lit 255), rI (gI (nat_lit 25) (nat_lit 1)) (nat_lit 255), rI (gI (nat_lit 38) (nat_lit 1)) (nat_lit 255), rI (gI (nat_lit 51) (nat_lit 1)) (nat_lit 255), rI (gI (nat_lit 64) (nat_lit 1)) (nat_lit 255), rI (gI (nat_lit 77) (nat_lit 1)) (nat_lit 255), rI (gI (nat_lit 90) (nat_lit 1)) (nat_lit 255), rI (gI (nat_lit 103) (nat_lit 1)) (nat_lit 1),
  rI (gI (nat_lit 116) (nat_lit 1)) (nat_lit 255), rI (gI (nat_lit 129) (nat_lit 1)) (nat_lit 255), rI (gI (nat_lit 142) (nat_lit 1)) (nat_lit 255), rI (gI (nat_lit 155) (nat_lit 1)) (nat_lit 255), rI (gI (nat_lit 168) (nat_lit 1)) (nat_lit 255), rI (gI (nat_lit 181) (nat_lit 1)) (nat_lit 255), rI (gI (nat_lit 194) (nat_lit 1)) (nat_lit 255), rI (gI (nat_lit 207) (nat_lit 1)) (nat_lit 255), .seq eI (.v (nat_lit 0)) true]
def okI : TV := .c (.i .i64 (.ofNat (nat_lit 0)))
theorem runIB : isRet [.a (pgA (.si .i64 (.v (nat_lit 1))) (.i .i64 (.ofNat (nat_lit 0))) (.b false) (.s [])), okI] (callBy (tblI FB) (aev Tryz.prog (envR FB) (tblI FB) (nat_lit 60)) ⟨.x0, .xa, .x4⟩ [.c (.ss (.v (nat_lit 0))), .c (.si .i64 (.v (nat_lit 1)))] hp0) = true := by kernel_rfl
theorem runII : isRet [.a (pgA (.si .i64 (gI (nat_lit 8) (nat_lit 4))) (.si .i64 (gI (nat_lit 0) (nat_lit 8))) (.b true) (.ss (sI (nat_lit 104) (nat_lit 105)))), okI] (callBy (tblI FI) (aev Tryz.prog (envR FI) (tblI FI) (nat_lit 60)) ⟨.x0, .xa, .x4⟩ [.c (.ss (.v (nat_lit 0))), .c (.si .i64 (.v (nat_lit 1)))] hp0) = true := by kernel_rfl
def bI (v : ByteArray) (id : Int) : Nat → MV
  | 0 => { s := v }
  | _ => { i := id }
section
variable {ρ : Vn} {v : ByteArray}
theorem gI_ok (hp : PP ρ) (h : ρ.s (.v 0) = v) {a k : Nat} {l : List UInt8} (e : (v.data.toList.drop a).take k = l) : ρ.i (gI a k) = (getL l : Nat) := by
  have : ρ.i (gI a k) = gtF (ρ.s (.v 0)) a k := hp.gt (.v 0) (.ofNat a) (.ofNat k)
  rw [this, h, ← e]; rfl
theorem sI_ok (hp : PP ρ) (h : ρ.s (.v 0) = v) {a b : Nat} {l : List UInt8} (e : (v.data.toList.drop a).take (b - a) = l) : (ρ.s (sI a b)).data.toList = l := by
  have : ρ.s (sI a b) = (ρ.s (.v 0)).extract a b := hp.sub (.v 0) (.ofNat a) (.ofNat b)
  rw [this, h, ext_list, e]
theorem rI_ok {t : Nm} {n : Nat} (h : ρ.i t = n) : (rI t n).holds QR ρ := ⟨by show (n : Int) ≤ _; omega, by show _ ≤ (n : Int); omega⟩
theorem zI_ok (hs : StdF ρ) (hp : PP ρ) : ρ.s zI = blankB := by
  have := hp.rep (.num (.ofNat 256))
  rw [hs.num] at this
  exact this.trans (by apply ba_eq; rfl)
theorem FB_ok (hs : StdF ρ) (hp : PP ρ) (hv : ρ.s (.v 0) = blankB) (h0 : 0 ≤ ρ.i (.v 1)) (h1 : ρ.i (.v 1) ≤ 63) : ∀ f ∈ FB, f.holds QR ρ :=
  facts_cons ⟨h0, h1⟩ (facts_cons (rI_ok (by rw [hs.slen, hv]; rfl)) (facts_cons (seq_eq (by rw [hv, zI_ok hs hp])) facts_nil))
theorem FI_ok (hs : StdF ρ) (hp : PP ρ) {id x : Int} {y : UInt8} {d : ByteArray} (hd : d.data.toList = [y]) (hv : ρ.s (.v 0) = encB id x d) (hi : ρ.i (.v 1) = id) (h0 : 0 ≤ id) (h1 : id ≤ 63) (h2 : 1 ≤ x) (h3 : x ≤ 4000) :
    (∀ f ∈ FI, f.holds QR ρ) ∧ ρ.i (gI 8 4) = id ∧ ρ.i (gI 0 8) = x ∧ ρ.s (sI 104 105) = d := by
  obtain ⟨m, rfl⟩ := Int.eq_ofNat_of_zero_le h0
  obtain ⟨n, rfl⟩ := Int.eq_ofNat_of_zero_le (show 0 ≤ x by omega)
  have hl : (encB (m : Int) (n : Int) d).data.toList = encG (b8 (putB n)) (b4 (putB m)) [y] (b4 (putB (crcF (preL m n [y]) : Nat))) := by
    rw [← encL_eq, ← hd]; rfl
  have G := fun {a k : Nat} {l : List UInt8} (e : ((encB (m : Int) (n : Int) d).data.toList.drop a).take k = l) => gI_ok hp hv e
  have S := fun {a k : Nat} {l : List UInt8} (e : ((encB (m : Int) (n : Int) d).data.toList.drop a).take (k - a) = l) => sI_ok hp hv e
  rw [hl] at G S
  have hc : crcF (preL m n [y]) < 4294967296 := xor_lt (by decide) (crcL_lt _ (by decide))
  have g1 : ρ.i (gI 244 4) = (crcF (preL m n [y]) : Nat) := by
    rw [G (encG_sum _ _ _ _), ← put4, getL_putL (by omega), Nat.mod_eq_of_lt (by omega)]
  have g2 : ρ.i (gI 8 4) = (m : Int) := by
    rw [G (encG_id _ _ _ _), ← put4, getL_putL (by omega), Nat.mod_eq_of_lt (by omega)]
  have g3 : ρ.i (gI 0 8) = (n : Int) := by
    rw [G (encG_lsn _ _ _ _), ← put8, getL_putL (by omega), Nat.mod_eq_of_lt (by omega)]
  have gn : ∀ i, i < 16 → i ≠ 7 → ρ.i (gI (12 + 13 * i) 1) = (255 : Nat) := fun i h7 h8 => G (encG_no _ _ _ _ i h7 h8)
  have g7 : ρ.i (gI 103 1) = (1 : Nat) := G (encG_one _ _ _ _)
  have s1 := S (a := 0) (k := 8) (encG_lsn _ _ _ _)
  have s2 := S (a := 248) (k := 256) (encG_tail _ _ _ _)
  have s3 := S (a := 0) (k := 244) (encG_pre _ _ _ _)
  have s4 := S (a := 104) (k := 105) (encG_byte _ _ _ _)
  have sd : ρ.s (sI 104 105) = d := ba_eq (s4.trans hd.symm)
  have hh : ρ.i hI = (crcF (preL m n [y]) : Nat) := by
    show ρ.i (.f1 2004 (sI 0 244)) = _
    rw [hp.sum, s3]
    rfl
  refine ⟨?_, g2, g3, sd⟩
  have hlen : (ρ.s (.v 0)).size = 256 := by rw [hv, ← size_list, hl, encG_len]
  have hne : (ρ.s (.v 0)).data.toList ≠ (ρ.s zI).data.toList := by
    rw [zI_ok hs hp, hv, hl]
    intro h
    have h5 := congrArg (fun l => l[12]?) h
    simp only [encG_12] at h5
    exact absurd h5 (by decide)
  have he : ρ.s eI = ρ.s (.v 0) := by
    have := hp.enc (gI 0 8) (gI 8 4) (sI 104 105)
    rw [g2, g3, sd] at this
    exact this.trans hv.symm
  exact facts_cons (show (0 : Int) ≤ ρ.i (.v 1) ∧ ρ.i (.v 1) ≤ 63 by omega) <| facts_cons (rI_ok (by rw [hs.slen, hlen])) <| facts_cons (seq_ne hne) <| facts_cons (seq_eq (ba_eq (s1.trans s2.symm))) <| facts_cons (rI_ok (by rw [hs.slen, ← size_list, s3]; rfl)) <| facts_cons (rI_ok (by rw [hs.slen, ← size_list, s4]; rfl)) <|
    facts_cons (show (0 : Int) ≤ ρ.i (gI 244 4) ∧ ρ.i (gI 244 4) ≤ 4294967295 by omega) <| facts_cons (show (0 : Int) ≤ ρ.i hI ∧ ρ.i hI ≤ 4294967295 by omega) <| facts_cons (show (0 : Int) ≤ ρ.i (gI 244 4) - ρ.i hI ∧ ρ.i (gI 244 4) - ρ.i hI ≤ 0 by omega) <| facts_cons (show (0 : Int) ≤ ρ.i (gI 8 4) - ρ.i (.v 1) ∧ ρ.i (gI 8 4) - ρ.i (.v 1) ≤ 0 by omega) <| facts_cons (show (0 : Int) ≤ ρ.i (gI 8 4) ∧ ρ.i (gI 8 4) ≤ 63 by omega) <| facts_cons (show (1 : Int) ≤ ρ.i (gI 0 8) ∧ ρ.i (gI 0 8) ≤ 4000 by omega) <|
    facts_cons (rI_ok (gn 0 (by decide) (by decide))) <| facts_cons (rI_ok (gn 1 (by decide) (by decide))) <| facts_cons (rI_ok (gn 2 (by decide) (by decide))) <| facts_cons (rI_ok (gn 3 (by decide) (by decide))) <| facts_cons (rI_ok (gn 4 (by decide) (by decide))) <| facts_cons (rI_ok (gn 5 (by decide) (by decide))) <| facts_cons (rI_ok (gn 6 (by decide) (by decide))) <| facts_cons (rI_ok g7) <|
    facts_cons (rI_ok (gn 8 (by decide) (by decide))) <| facts_cons (rI_ok (gn 9 (by decide) (by decide))) <| facts_cons (rI_ok (gn 10 (by decide) (by decide))) <| facts_cons (rI_ok (gn 11 (by decide) (by decide))) <| facts_cons (rI_ok (gn 12 (by decide) (by decide))) <| facts_cons (rI_ok (gn 13 (by decide) (by decide))) <| facts_cons (rI_ok (gn 14 (by decide) (by decide))) <| facts_cons (rI_ok (gn 15 (by decide) (by decide))) <| facts_cons (seq_eq he) facts_nil
end
def cB : Nm → AC
  | .f1 9 (.num n) => .b (decide (n ≠ 0))
  | t => .sb t
def cS : Nm → AC
  | .lit [] => .s []
  | t => .ss t
theorem cB_ok {ρ : Vn} {φ : Emb} (hs : StdF ρ) (t : Nm) : VC ρ φ (cB t) (.bool (ρ.b t)) := by
  unfold cB
  split
  · rw [hs.bt]; rfl
  · rfl
def fdPg (F : List Fc) (v i : Nm) : Option (Nm × Nm × Nm) := match F with
  | [] => none
  | .pr k [v', i', x, b, d] :: l => bif Nat.beq k 10 && (decide (v' = v) && decide (i' = i)) then some (x, b, d) else fdPg l v i
  | _ :: l => fdPg l v i
theorem fdPg_ok {ρ : Vn} : ∀ {F : List Fc} {v i x b d : Nm}, (∀ f ∈ F, f.holds QR ρ) → fdPg F v i = some (x, b, d) → PgB (ρ.s v) (ρ.i i) (ρ.i x) (ρ.b b) (ρ.s d)
  | [], v, i, x, b, d, h, e => by cases e
  | f :: l, v, i, x, b, d, h, e => by
    have ih := fun e' => fdPg_ok (F := l) (v := v) (i := i) (x := x) (b := b) (d := d) (fun f hf => h f (List.mem_cons_of_mem _ hf)) e'
    unfold fdPg at e
    split at e
    · rename_i heq; cases heq
    · rename_i k v' i' x' b' d' l' heq
      cases heq
      cases hd : (Nat.beq k 10 && (decide (v' = v) && decide (i' = i))) with
      | false => rw [hd] at e; exact ih e
      | true =>
        rw [hd] at e
        cases e
        rw [Bool.and_eq_true, Bool.and_eq_true] at hd
        obtain ⟨h1, h2, h3⟩ := hd
        cases Nat.eq_of_beq_eq_true h1
        have h2 := of_decide_eq_true h2
        have h3 := of_decide_eq_true h3
        subst h2 h3
        exact h _ List.mem_cons_self
    · rename_i heq; cases heq; exact ih e
def natId (F : List Fc) : List AV → Option AV
  | [.c (.ss v), .c i] => match nmI i with
    | some y => bif isI64 y.1 then (match fdPg F v y.2 with
      | some p => some (.t [.a (pgA i (conF F .i64 p.1) (cB p.2.1) (cS p.2.2)), okI])
      | none => none) else none
    | none => none
  | _ => none
theorem cS_ok {ρ : Vn} {φ : Emb} (hs : StdF ρ) (t : Nm) : VC ρ φ (cS t) (.string (ρ.s t)) := by
  unfold cS
  split
  · exact ⟨_, rfl, by rw [hs.lit]; rfl⟩
  · rfl
theorem natId_ok (F : List Fc) : NatOk Tryz.prog (envR F) 164 (natId F) := by
  intro vs v hv ρ φ h w us he hr hu
  have hp := envR_prop he
  have mk : ∀ {i : AC} {p : Nm × Nm × Nm} {id : Int}, VC ρ φ i (.int .i64 id) → VV ρ φ (.t [.a (pgA i (conF F .i64 p.1) (cB p.2.1) (cS p.2.2)), okI]) (.tuple #[.agg (pgV id (ρ.i p.1) (ρ.b p.2.1) (ρ.s p.2.2)).toArray, .int .i64 0]) := fun hi =>
    ⟨[_, _], rfl, .cons ⟨_, rfl, pgA_all hi (conF_ok hp.1 hp.2 _ _) (cB_ok hp.1 _) (cS_ok hp.1 _)⟩ (.cons rfl .nil)⟩
  unfold natId at hv
  split at hv
  · rename_i v0 i
    split at hv
    · rename_i y hy
      cases hb : isI64 y.1 with
      | false => rw [hb] at hv; cases hv
      | true =>
        rw [hb] at hv
        simp only [cond_true] at hv
        split at hv
        · rename_i p hpg
          cases hv
          have hP := fdPg_ok hp.2 hpg
          cases hu with
          | cons a1 t1 =>
            cases t1 with
            | cons a2 t2 =>
              cases t2
              cases (show _ = Value.string (ρ.s v0) from a1)
              have e2 := nmI_ok hp.1.toStdA hy a2
              rw [isI64_eq hb] at e2
              subst e2
              obtain ⟨h0, h1, ⟨e1, e2, e3, e4⟩ | ⟨e1, e2, e3, e4, e5⟩⟩ := hP
              · refine (ret_run (ρ := vb (bI (ρ.s v0) (ρ.i y.2)) gIf φ.z) (eval_ok (tblI_ok FB) mixedS (nat_lit 60)) (envR_ok (FB_ok (vb_std _ _ _) (vb_pp _ _ _) e4 h0 h1)) runIB (.cons rfl (.cons rfl .nil)) w (fun b x hb => (hr.frz.at_ b x hb).1)).mono ?_
                rintro e w' ⟨⟨u, φ', rfl, vs, rfl, hvs⟩, bl⟩
                cases hvs with
                | cons q1 q2 =>
                  cases q2 with
                  | cons q2 q3 =>
                    cases q3
                    obtain ⟨xs, rfl, hx⟩ := q1
                    obtain ⟨v0', v1', bx, dy, rfl, k0, k1, k2, k3⟩ := pgA_val hx
                    cases (show v0' = Value.int .i64 (ρ.i y.2) from k0)
                    cases (show v1' = Value.int .i64 0 from k1)
                    cases (show bx = Value.bool false from k2)
                    obtain ⟨s, rfl, hsl⟩ := k3
                    have : s = ⟨#[]⟩ := ba_eq (List.map_eq_nil_iff.1 hsl)
                    subst this
                    have := mk (p := p) a2
                    rw [e1, e2, e3] at this
                    cases (show _ = Value.int .i64 0 from q2)
                    exact ⟨_, φ, rfl, this, hr.keepS bl⟩
              · obtain ⟨yb, hyb⟩ := one_list e4
                obtain ⟨f1, f2, f3, f4⟩ := FI_ok (ρ := vb (bI (ρ.s v0) (ρ.i y.2)) gIf φ.z) (vb_std _ _ _) (vb_pp _ _ _) hyb e5 rfl h0 h1 e1 e2
                refine (ret_run (ρ := vb (bI (ρ.s v0) (ρ.i y.2)) gIf φ.z) (eval_ok (tblI_ok FI) mixedS (nat_lit 60)) (envR_ok f1) runII (.cons rfl (.cons rfl .nil)) w (fun b x hb => (hr.frz.at_ b x hb).1)).mono ?_
                rintro e w' ⟨⟨u, φ', rfl, vs, rfl, hvs⟩, bl⟩
                cases hvs with
                | cons q1 q2 =>
                  cases q2 with
                  | cons q2 q3 =>
                    cases q3
                    obtain ⟨xs, rfl, hx⟩ := q1
                    obtain ⟨v0', v1', bx, dy, rfl, k0, k1, k2, k3⟩ := pgA_val hx
                    have k0 := (show v0' = Value.int .i64 ((vb (bI (ρ.s v0) (ρ.i y.2)) gIf φ.z).i (gI 8 4)) from k0)
                    have k1 := (show v1' = Value.int .i64 ((vb (bI (ρ.s v0) (ρ.i y.2)) gIf φ.z).i (gI 0 8)) from k1)
                    have k3 := (show dy = Value.string ((vb (bI (ρ.s v0) (ρ.i y.2)) gIf φ.z).s (sI 104 105)) from k3)
                    rw [f2] at k0
                    rw [f3] at k1
                    rw [f4] at k3
                    cases (show bx = Value.bool true from k2)
                    subst k0 k1 k3
                    have := mk (p := p) a2
                    rw [e3] at this
                    cases (show _ = Value.int .i64 0 from q2)
                    exact ⟨_, φ, rfl, this, hr.keepS bl⟩
        · cases hv
    · cases hv
  · cases hv
end Go.Proofs.YtjnfgapfhpihmaaGreat
