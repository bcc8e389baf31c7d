/-
  Contracts over pages of which cell 7 alone may be set: page.cells, page.Encode (with its bytes), page.Identify (printed by a program).
-/
import Derived.Test.YtjnfgapfhpihmaaGreatSeH
import Derived.Test.YtjnfgapfhpihmaaGreatKS0
set_option linter.unusedVariables false
set_option linter.unusedSimpArgs false
set_option maxRecDepth 100000
namespace Go.Proofs.YtjnfgapfhpihmaaGreat
open Go.RowKit
def noAs (k : Nat) : List AC := (List.replicate k [AC.b false, AC.s []]).flatten
def pgA (c0 c1 b d : AC) : List AC := c0 :: c1 :: (noAs 7 ++ (b :: d :: noAs 8))
theorem no_all {ρ : Vn} {φ : Emb} : ∀ k, All2 (VC ρ φ) (noAs k) (noVs k)
  | 0 => .nil
  | k + 1 => .cons rfl (.cons ⟨⟨#[]⟩, rfl, rfl⟩ (no_all k))
theorem pgA_all {ρ : Vn} {φ : Emb} {c0 c1 b d : AC} {v0 v1 x y : Value} (h0 : VC ρ φ c0 v0) (h1 : VC ρ φ c1 v1) (hb : VC ρ φ b x) (hd : VC ρ φ d y) : All2 (VC ρ φ) (pgA c0 c1 b d) (v0 :: v1 :: (noVs 7 ++ (x :: y :: noVs 8))) :=
  .cons h0 (.cons h1 ((no_all 7).append (.cons hb (.cons hd (no_all 8)))))
theorem pgA_val {ρ : Vn} {φ : Emb} {c0 c1 b d : AC} {vs : List Value} (h : All2 (VC ρ φ) (pgA c0 c1 b d) vs) : ∃ v0 v1 x y, vs = v0 :: v1 :: (noVs 7 ++ (x :: y :: noVs 8)) ∧ VC ρ φ c0 v0 ∧ VC ρ φ c1 v1 ∧ VC ρ φ b x ∧ VC ρ φ d y := pg7_ok (l := pgA c0 c1 b d) rfl h
def bP (id lsn : Int) (s : ByteArray) : Nat → MV
  | 0 => { i := id }
  | 1 => { i := lsn }
  | _ => { s := s }
def pgS : List AC := pgA (.si .i64 (.v (nat_lit 0))) (.si .i64 (.v (nat_lit 1))) (.b true) (.ss (.v (nat_lit 2)))
def pgU : List AC := pgA (.si .i64 (.v (nat_lit 0))) (.si .i64 (.v (nat_lit 1))) (.b false) (.s [])
def FP : List Fc := [.rng (.v (nat_lit 0)) 0 63, .rng (.v (nat_lit 1)) 1 4000, .rng (.f1 (nat_lit 6) (.v (nat_lit 2))) 1 1]
theorem FP_ok {id lsn : Int} {s : ByteArray} {z : Nat → Option Obj} (h0 : 0 ≤ id) (h1 : id ≤ 63) (h2 : 1 ≤ lsn) (h3 : lsn ≤ 4000) (h4 : s.size = 1) : ∀ f ∈ FP, f.holds QR (vb (bP id lsn s) gIf z) :=
  facts_cons ⟨h0, h1⟩ (facts_cons ⟨h2, h3⟩ (facts_cons ⟨(by show (1 : Int) ≤ (s.size : Int); omega), (by show (s.size : Int) ≤ 1; omega)⟩ facts_nil))
theorem mixedS : Tryz.prog.follows .mixedOrders = true := by kernel_rfl
noncomputable def tblP (F : List Fc) : Tab := tabOf [(⟨.x0, .xd, .xe⟩, .nat (natPutS F)), (⟨.x0, .x3, .x0⟩, .nat (natRepS F)), (⟨.x0, .xe, .x0⟩, .nat (natSumS F)), (⟨.x0, .x9, .x9⟩, c153), (⟨.x0, .xb, .xe⟩, c190), (⟨.x0, .xb, .xf⟩, c191), (⟨.x0, .xd, .xf⟩, c223), (⟨.x0, .xe, .x9⟩, c233)]
theorem entPut (args : Array Value) (w : World) : (callFunc 222 args).run Tryz.prog w = .ok (.enter 222 args) w := enter_run Tryz.func222 (by kernel_rfl) rfl args w
theorem entRep (args : Array Value) (w : World) : (callFunc 48 args).run Tryz.prog w = .ok (.enter 48 args) w := enter_run Tryz.func48 (by kernel_rfl) rfl args w
theorem entSum (args : Array Value) (w : World) : (callFunc 224 args).run Tryz.prog w = .ok (.enter 224 args) w := enter_run Tryz.func224 (by kernel_rfl) rfl args w
theorem entGet (args : Array Value) (w : World) : (callFunc 303 args).run Tryz.prog w = .ok (.enter 303 args) w := enter_run Tryz.func303 (by kernel_rfl) rfl args w
theorem entEnc (args : Array Value) (w : World) : (callFunc 153 args).run Tryz.prog w = .ok (.enter 153 args) w := enter_run Tryz.func153 (by kernel_rfl) rfl args w
theorem tblP_ok (F : List Fc) : TabOk Tryz.prog (envR F) (tblP F) := tab_cons (tab_cons (tab_cons (tab_cons (tab_cons (tab_cons (tab_cons (tab_cons tab_nil e233) e223) e191) e190) e153) (nat_ok entSum (natSumS_ok F))) (nat_ok entRep (natRepS_ok F))) (nat_ok entPut (natPutS_ok F))
theorem runCs1 : isTrue (callBy (tblP FP) (aev Tryz.prog (envR FP) (tblP FP) (nat_lit 60)) ⟨.x0, .xb, .xf⟩ [.a pgS] hp0) = true := by kernel_rfl
theorem runCs2 : isTrue (callBy (tblP []) (aev Tryz.prog (envR []) (tblP []) (nat_lit 60)) ⟨.x0, .xb, .xf⟩ [.a pgU] hp0) = true := by kernel_rfl
def natCs7 (F : List Fc) : List AV → Option AV
  | [.a l] => bif page7 F l then some (.c (.b true)) else none
  | _ => none
theorem natCs7_ok (F : List Fc) : NatOk Tryz.prog (envR F) 191 (natCs7 F) := by
  intro vs v hv ρ φ h w us he hr hu
  have hp := envR_prop he
  unfold natCs7 at hv
  split at hv
  · rename_i l
    cases hb : page7 F l with
    | false => rw [hb] at hv; cases hv
    | true =>
      rw [hb] at hv
      cases hv
      cases hu with
      | cons a1 t1 =>
        cases t1
        obtain ⟨xs, rfl, hx⟩ := a1
        obtain ⟨id, lsn, bb, ss, rfl, h0, h1, hc⟩ := page7_ok hp.1 hp.2 hb hx
        rcases hc with ⟨_, _, rfl, rfl⟩ | ⟨g1, g2, rfl, g3⟩
        · exact true_run (b := bP id lsn ⟨#[]⟩) (g := gIf) (eval_ok (tblP_ok []) mixedS (nat_lit 60)) runCs2 hr facts_nil (.cons ⟨_, rfl, pgA_all rfl rfl rfl ⟨⟨#[]⟩, rfl, rfl⟩⟩ .nil)
        · exact true_run (b := bP id lsn ss) (g := gIf) (eval_ok (tblP_ok FP) mixedS (nat_lit 60)) runCs1 hr (FP_ok h0 h1 g1 g2 g3) (.cons ⟨_, rfl, pgA_all rfl rfl rfl rfl⟩ .nil)
  · cases hv
def tP (t : Nm) (n : Int) : Nm := .f2 (nat_lit 2001) t (.f2 (nat_lit 2002) (.num n) (.num (.ofNat (nat_lit 1))))
def tQ (t : Nm) (n : Int) (d : Nm) : Nm := .f2 (nat_lit 1430) (tP t n) d
def tR (k : Int) : Nm := .f1 (nat_lit 2003) (.num k)
def tC (t : Nm) (n : Int) (d : Nm) (k : Int) : Nm := .f2 (nat_lit 1430) (tQ t n d) (tR k)
def tY : Nm := .f2 (nat_lit 2001) (.lit []) (.f2 (nat_lit 2002) (.v (nat_lit 1)) (.num (.ofNat (nat_lit 8))))
def t0 : Nm := .f2 (nat_lit 2001) tY (.f2 (nat_lit 2002) (.v (nat_lit 0)) (.num (.ofNat (nat_lit 4))))
def t1 : Nm := tC t0 (.ofNat (nat_lit 255)) (.lit []) (.ofNat (nat_lit 12))
def t2 : Nm := tC t1 (.ofNat (nat_lit 255)) (.lit []) (.ofNat (nat_lit 12))
def t3 : Nm := tC t2 (.ofNat (nat_lit 255)) (.lit []) (.ofNat (nat_lit 12))
def t4 : Nm := tC t3 (.ofNat (nat_lit 255)) (.lit []) (.ofNat (nat_lit 12))
def t5 : Nm := tC t4 (.ofNat (nat_lit 255)) (.lit []) (.ofNat (nat_lit 12))
def t6 : Nm := tC t5 (.ofNat (nat_lit 255)) (.lit []) (.ofNat (nat_lit 12))
def t7 : Nm := tC t6 (.ofNat (nat_lit 255)) (.lit []) (.ofNat (nat_lit 12))
def t8 : Nm := tC t7 (.ofNat (nat_lit 1)) (.v (nat_lit 2)) (.ofNat (nat_lit 11))
def t9 : Nm := tC t8 (.ofNat (nat_lit 255)) (.lit []) (.ofNat (nat_lit 12))
def t10 : Nm := tC t9 (.ofNat (nat_lit 255)) (.lit []) (.ofNat (nat_lit 12))
def t11 : Nm := tC t10 (.ofNat (nat_lit 255)) (.lit []) (.ofNat (nat_lit 12))
def t12 : Nm := tC t11 (.ofNat (nat_lit 255)) (.lit []) (.ofNat (nat_lit 12))
def t13 : Nm := tC t12 (.ofNat (nat_lit 255)) (.lit []) (.ofNat (nat_lit 12))
def t14 : Nm := tC t13 (.ofNat (nat_lit 255)) (.lit []) (.ofNat (nat_lit 12))
def t15 : Nm := tC t14 (.ofNat (nat_lit 255)) (.lit []) (.ofNat (nat_lit 12))
def t16 : Nm := tC t15 (.ofNat (nat_lit 255)) (.lit []) (.ofNat (nat_lit 12))
def tS : Nm := .f2 (nat_lit 1430) t16 (tR (.ofNat (nat_lit 24)))
def tU : Nm := .f2 (nat_lit 2001) tS (.f2 (nat_lit 2002) (.f1 (nat_lit 2004) tS) (.num (.ofNat (nat_lit 4))))
def tE : Nm := .f2 (nat_lit 2001) tU (.f2 (nat_lit 2002) (.v (nat_lit 1)) (.num (.ofNat (nat_lit 8))))
def fL (t : Nm) (n : Nat) : Fc := .rng (.f1 (nat_lit 6) t) (.ofNat n) (.ofNat n)
def FE : List Fc := [.rng (.v (nat_lit 0)) 0 63, .rng (.v (nat_lit 1)) 1 4000, .rng (.f1 (nat_lit 6) (.v (nat_lit 2))) 1 1, .rng (.f1 (nat_lit 2004) tS) 0 4294967295, fL tY (nat_lit 8), fL t0 (nat_lit 12), fL t1 (nat_lit 25), fL t2 (nat_lit 38), fL t3 (nat_lit 51), fL t4 (nat_lit 64), fL t5 (nat_lit 77), fL t6 (nat_lit 90), fL t7 (nat_lit 103), fL t8 (nat_lit 116), fL t9 (nat_lit 129), fL t10 (nat_lit 142), fL t11 (nat_lit 155), fL t12 (nat_lit 168), fL t13 (nat_lit 181), fL t14 (nat_lit 194), fL t15 (nat_lit 207), fL t16 (nat_lit 220), fL (tP t0 (.ofNat (nat_lit 255))) (nat_lit 13), fL (tQ t0 (.ofNat (nat_lit 255)) (.lit [])) (nat_lit 13), fL (tP t1 (.ofNat (nat_lit 255))) (nat_lit 26), fL (tQ t1 (.ofNat (nat_lit 255)) (.lit [])) (nat_lit 26), fL (tP t2 (.ofNat (nat_lit 255))) (nat_lit 39), fL (tQ t2 (.ofNat (nat_lit 255)) (.lit [])) (nat_lit 39), fL (tP t3 (.ofNat (nat_lit 255))) (nat_lit 52), fL (tQ t3 (.ofNat (nat_lit 255)) (.lit [])) (nat_lit 52), fL (tP t4 (.ofNat (nat_lit 255))) (nat_lit 65), fL (tQ t4 (.ofNat (nat_lit 255)) (.lit [])) (nat_lit 65), fL (tP t5 (.ofNat (nat_lit 255))) (nat_lit 78), fL (tQ t5 (.ofNat (nat_lit 255)) (.lit [])) (nat_lit 78), fL (tP t6 (.ofNat (nat_lit 255))) (nat_lit 91), fL (tQ t6 (.ofNat (nat_lit 255)) (.lit [])) (nat_lit 91), fL (tP t7 (.ofNat (nat_lit 1))) (nat_lit 104), fL (tQ t7 (.ofNat (nat_lit 1)) (.v (nat_lit 2))) (nat_lit 105), fL (tP t8 (.ofNat (nat_lit 255))) (nat_lit 117), fL (tQ t8 (.ofNat (nat_lit 255)) (.lit [])) (nat_lit 117), fL (tP t9 (.ofNat (nat_lit 255))) (nat_lit 130), fL (tQ t9 (.ofNat (nat_lit 255)) (.lit [])) (nat_lit 130), fL (tP t10 (.ofNat (nat_lit 255))) (nat_lit 143), fL (tQ t10 (.ofNat (nat_lit 255)) (.lit [])) (nat_lit 143), fL (tP t11 (.ofNat (nat_lit 255))) (nat_lit 156), fL (tQ t11 (.ofNat (nat_lit 255)) (.lit [])) (nat_lit 156), fL (tP t12 (.ofNat (nat_lit 255))) (nat_lit 169), fL (tQ t12 (.ofNat (nat_lit 255)) (.lit [])) (nat_lit 169), fL (tP t13 (.ofNat (nat_lit 255))) (nat_lit 182), fL (tQ t13 (.ofNat (nat_lit 255)) (.lit [])) (nat_lit 182), fL (tP t14 (.ofNat (nat_lit 255))) (nat_lit 195), fL (tQ t14 (.ofNat (nat_lit 255)) (.lit [])) (nat_lit 195), fL (tP t15 (.ofNat (nat_lit 255))) (nat_lit 208), fL (tQ t15 (.ofNat (nat_lit 255)) (.lit [])) (nat_lit 208), fL (tR (.ofNat (nat_lit 11))) (nat_lit 11), fL (tR (.ofNat (nat_lit 12))) (nat_lit 12), fL (tR (.ofNat (nat_lit 24))) (nat_lit 24), fL tS (nat_lit 244), fL tU (nat_lit 248)]
theorem runEn : isRet [.c (.ss tE), .c (.i .i64 (.ofNat (nat_lit 0)))] (callBy (tblP FE) (aev Tryz.prog (envR FE) (tblP FE) (nat_lit 60)) ⟨.x0, .x9, .x9⟩ [.a pgS] hp0) = true := by kernel_rfl
section
variable {ρ : Vn}
theorem fL_ok (hs : StdF ρ) {t : Nm} {n : Nat} (h : (ρ.s t).size = n) : (fL t n).holds QR ρ := by
  show (n : Int) ≤ ρ.i (.f1 6 t) ∧ ρ.i (.f1 6 t) ≤ (n : Int)
  rw [hs.slen, h]
  exact ⟨Int.le_refl _, Int.le_refl _⟩
theorem szP (hp : PP ρ) {t : Nm} {n : Int} {m : Nat} (h : (ρ.s t).size = m) : (ρ.s (tP t n)).size = m + 1 := by
  rw [← h]; exact sz_put hp t (.num n) 1
theorem szQ (hs : StdF ρ) (hp : PP ρ) {t d : Nm} {n : Int} {m q : Nat} (h : (ρ.s t).size = m) (hd : (ρ.s d).size = q) : (ρ.s (tQ t n d)).size = m + 1 + q := by
  rw [← szP hp (n := n) h, ← hd]; exact sz_cat hs _ _
theorem szR (hs : StdF ρ) (hp : PP ρ) (k : Nat) : (ρ.s (tR (.ofNat k))).size = k := by
  have := sz_rep hp (.num (.ofNat k))
  rw [hs.num] at this
  exact this
theorem szC (hs : StdF ρ) (hp : PP ρ) {t d : Nm} {n : Int} {k m q : Nat} (h : (ρ.s t).size = m) (hd : (ρ.s d).size = q) : (ρ.s (tC t n d (.ofNat k))).size = m + 1 + q + k := by
  rw [← szQ hs hp (n := n) h hd]
  exact (sz_cat hs _ _).trans (by rw [szR hs hp])
theorem catL (hs : StdF ρ) (a b : Nm) : (ρ.s (.f2 1430 a b)).data.toList = (ρ.s a).data.toList ++ (ρ.s b).data.toList := by
  rw [hs.scat]
  simp
theorem putLL (hp : PP ρ) (t n : Nm) (k : Int) : (ρ.s (.f2 2001 t (.f2 2002 n (.num k)))).data.toList = (ρ.s t).data.toList ++ putL (ρ.i n) k.toNat := by
  rw [hp.put]
theorem repLL (hs : StdF ρ) (hp : PP ρ) (k : Nat) : (ρ.s (tR (.ofNat k))).data.toList = Lib.repeatL [0] k := by
  show (ρ.s (.f1 2003 (.num (.ofNat k)))).data.toList = _
  rw [hp.rep, hs.num]
  rfl
theorem valC (hs : StdF ρ) (hp : PP ρ) (t d : Nm) (n : Int) (k : Nat) : (ρ.s (tC t n d (.ofNat k))).data.toList = (ρ.s t).data.toList ++ (putL n 1 ++ (ρ.s d).data.toList ++ Lib.repeatL [0] k) := by
  show (ρ.s (.f2 1430 (tQ t n d) (tR (.ofNat k)))).data.toList = _
  rw [catL hs, repLL hs hp]
  show (ρ.s (.f2 1430 (tP t n) d)).data.toList ++ _ = _
  rw [catL hs]
  show ((ρ.s (.f2 2001 t (.f2 2002 (.num n) (.num 1)))).data.toList ++ _) ++ _ = _
  rw [putLL hp, hs.num]
  simp [List.append_assoc]
theorem lit0 (hs : StdF ρ) : (ρ.s (.lit [])).data.toList = [] := by rw [hs.lit]; rfl
theorem lit0s (hs : StdF ρ) : (ρ.s (.lit [])).size = 0 := by rw [hs.lit]; rfl
theorem FE_ok (hs : StdF ρ) (hp : PP ρ) (h0 : 0 ≤ ρ.i (.v 0)) (h1 : ρ.i (.v 0) ≤ 63) (h2 : 1 ≤ ρ.i (.v 1)) (h3 : ρ.i (.v 1) ≤ 4000) (h4 : (ρ.s (.v 2)).size = 1) : ∀ f ∈ FE, f.holds QR ρ := by
  have y : (ρ.s tY).size = 8 := (sz_put hp (.lit []) (.v 1) 8).trans (by rw [lit0s hs]; rfl)
  have l0 : (ρ.s t0).size = 12 := (sz_put hp tY (.v 0) 4).trans (by rw [y]; rfl)
  have l1 : (ρ.s t1).size = 25 := szC hs hp l0 (lit0s hs)
  have l2 : (ρ.s t2).size = 38 := szC hs hp l1 (lit0s hs)
  have l3 : (ρ.s t3).size = 51 := szC hs hp l2 (lit0s hs)
  have l4 : (ρ.s t4).size = 64 := szC hs hp l3 (lit0s hs)
  have l5 : (ρ.s t5).size = 77 := szC hs hp l4 (lit0s hs)
  have l6 : (ρ.s t6).size = 90 := szC hs hp l5 (lit0s hs)
  have l7 : (ρ.s t7).size = 103 := szC hs hp l6 (lit0s hs)
  have l8 : (ρ.s t8).size = 116 := szC hs hp l7 h4
  have l9 : (ρ.s t9).size = 129 := szC hs hp l8 (lit0s hs)
  have l10 : (ρ.s t10).size = 142 := szC hs hp l9 (lit0s hs)
  have l11 : (ρ.s t11).size = 155 := szC hs hp l10 (lit0s hs)
  have l12 : (ρ.s t12).size = 168 := szC hs hp l11 (lit0s hs)
  have l13 : (ρ.s t13).size = 181 := szC hs hp l12 (lit0s hs)
  have l14 : (ρ.s t14).size = 194 := szC hs hp l13 (lit0s hs)
  have l15 : (ρ.s t15).size = 207 := szC hs hp l14 (lit0s hs)
  have l16 : (ρ.s t16).size = 220 := szC hs hp l15 (lit0s hs)
  have s : (ρ.s tS).size = 244 := (sz_cat hs _ _).trans (by rw [l16, szR hs hp])
  have u : (ρ.s tU).size = 248 := (sz_put hp tS (.f1 2004 tS) 4).trans (by rw [s]; rfl)
  have c : 0 ≤ ρ.i (.f1 2004 tS) ∧ ρ.i (.f1 2004 tS) ≤ 4294967295 := by
    rw [hp.sum]
    have : crcF (ρ.s tS).data.toList < 4294967296 := xor_lt (by decide) (crcL_lt _ (by decide))
    omega
  have e : (1 : Int) ≤ ρ.i (.f1 6 (.v 2)) ∧ ρ.i (.f1 6 (.v 2)) ≤ 1 := by rw [hs.slen, h4]; exact ⟨Int.le_refl _, Int.le_refl _⟩
  exact facts_cons ⟨h0, h1⟩ <| facts_cons ⟨h2, h3⟩ <| facts_cons e <| facts_cons c <| facts_cons (fL_ok hs y) <| facts_cons (fL_ok hs l0) <| facts_cons (fL_ok hs l1) <| facts_cons (fL_ok hs l2) <| facts_cons (fL_ok hs l3) <| facts_cons (fL_ok hs l4) <| facts_cons (fL_ok hs l5) <| facts_cons (fL_ok hs l6) <| facts_cons (fL_ok hs l7) <| facts_cons (fL_ok hs l8) <| facts_cons (fL_ok hs l9) <| facts_cons (fL_ok hs l10) <| facts_cons (fL_ok hs l11) <| facts_cons (fL_ok hs l12) <| facts_cons (fL_ok hs l13) <| facts_cons (fL_ok hs l14) <| facts_cons (fL_ok hs l15) <| facts_cons (fL_ok hs l16) <| facts_cons (fL_ok hs (szP hp l0)) <| facts_cons (fL_ok hs (szQ hs hp l0 (lit0s hs))) <| facts_cons (fL_ok hs (szP hp l1)) <| facts_cons (fL_ok hs (szQ hs hp l1 (lit0s hs))) <| facts_cons (fL_ok hs (szP hp l2)) <| facts_cons (fL_ok hs (szQ hs hp l2 (lit0s hs))) <| facts_cons (fL_ok hs (szP hp l3)) <| facts_cons (fL_ok hs (szQ hs hp l3 (lit0s hs))) <| facts_cons (fL_ok hs (szP hp l4)) <| facts_cons (fL_ok hs (szQ hs hp l4 (lit0s hs))) <| facts_cons (fL_ok hs (szP hp l5)) <| facts_cons (fL_ok hs (szQ hs hp l5 (lit0s hs))) <| facts_cons (fL_ok hs (szP hp l6)) <| facts_cons (fL_ok hs (szQ hs hp l6 (lit0s hs))) <| facts_cons (fL_ok hs (szP hp l7)) <| facts_cons (fL_ok hs (szQ hs hp l7 h4)) <| facts_cons (fL_ok hs (szP hp l8)) <| facts_cons (fL_ok hs (szQ hs hp l8 (lit0s hs))) <| facts_cons (fL_ok hs (szP hp l9)) <| facts_cons (fL_ok hs (szQ hs hp l9 (lit0s hs))) <| facts_cons (fL_ok hs (szP hp l10)) <| facts_cons (fL_ok hs (szQ hs hp l10 (lit0s hs))) <| facts_cons (fL_ok hs (szP hp l11)) <| facts_cons (fL_ok hs (szQ hs hp l11 (lit0s hs))) <| facts_cons (fL_ok hs (szP hp l12)) <| facts_cons (fL_ok hs (szQ hs hp l12 (lit0s hs))) <| facts_cons (fL_ok hs (szP hp l13)) <| facts_cons (fL_ok hs (szQ hs hp l13 (lit0s hs))) <| facts_cons (fL_ok hs (szP hp l14)) <| facts_cons (fL_ok hs (szQ hs hp l14 (lit0s hs))) <| facts_cons (fL_ok hs (szP hp l15)) <| facts_cons (fL_ok hs (szQ hs hp l15 (lit0s hs))) <| facts_cons (fL_ok hs (szR hs hp 11)) <| facts_cons (fL_ok hs (szR hs hp 12)) <| facts_cons (fL_ok hs (szR hs hp 24)) <| facts_cons (fL_ok hs s) <| facts_cons (fL_ok hs u) <| facts_nil
theorem tE_val (hs : StdF ρ) (hp : PP ρ) : ρ.s tE = encB (ρ.i (.v 0)) (ρ.i (.v 1)) (ρ.s (.v 2)) := by
  have n255 : ∀ d : Nm, d = .lit [] → putL (.ofNat 255) 1 ++ (ρ.s d).data.toList ++ Lib.repeatL [0] 12 = noC := by
    rintro d rfl
    rw [lit0 hs]; rfl
  have e0 : (ρ.s t0).data.toList = putL (ρ.i (.v 1)) 8 ++ putL (ρ.i (.v 0)) 4 := by
    refine (putLL hp tY (.v 0) 4).trans ?_
    rw [show (ρ.s tY).data.toList = _ from putLL hp (.lit []) (.v 1) 8, lit0 hs]; rfl
  have e1 : (ρ.s t1).data.toList = (ρ.s t0).data.toList ++ noC := (valC hs hp t0 (.lit []) (.ofNat 255) 12).trans (by rw [n255 _ rfl])
  have e2 : (ρ.s t2).data.toList = (ρ.s t1).data.toList ++ noC := (valC hs hp t1 (.lit []) (.ofNat 255) 12).trans (by rw [n255 _ rfl])
  have e3 : (ρ.s t3).data.toList = (ρ.s t2).data.toList ++ noC := (valC hs hp t2 (.lit []) (.ofNat 255) 12).trans (by rw [n255 _ rfl])
  have e4 : (ρ.s t4).data.toList = (ρ.s t3).data.toList ++ noC := (valC hs hp t3 (.lit []) (.ofNat 255) 12).trans (by rw [n255 _ rfl])
  have e5 : (ρ.s t5).data.toList = (ρ.s t4).data.toList ++ noC := (valC hs hp t4 (.lit []) (.ofNat 255) 12).trans (by rw [n255 _ rfl])
  have e6 : (ρ.s t6).data.toList = (ρ.s t5).data.toList ++ noC := (valC hs hp t5 (.lit []) (.ofNat 255) 12).trans (by rw [n255 _ rfl])
  have e7 : (ρ.s t7).data.toList = (ρ.s t6).data.toList ++ noC := (valC hs hp t6 (.lit []) (.ofNat 255) 12).trans (by rw [n255 _ rfl])
  have e8 : (ρ.s t8).data.toList = (ρ.s t7).data.toList ++ (1 :: (ρ.s (.v 2)).data.toList ++ List.replicate 11 0) := valC hs hp t7 (.v 2) (.ofNat 1) 11
  have e9 : (ρ.s t9).data.toList = (ρ.s t8).data.toList ++ noC := (valC hs hp t8 (.lit []) (.ofNat 255) 12).trans (by rw [n255 _ rfl])
  have e10 : (ρ.s t10).data.toList = (ρ.s t9).data.toList ++ noC := (valC hs hp t9 (.lit []) (.ofNat 255) 12).trans (by rw [n255 _ rfl])
  have e11 : (ρ.s t11).data.toList = (ρ.s t10).data.toList ++ noC := (valC hs hp t10 (.lit []) (.ofNat 255) 12).trans (by rw [n255 _ rfl])
  have e12 : (ρ.s t12).data.toList = (ρ.s t11).data.toList ++ noC := (valC hs hp t11 (.lit []) (.ofNat 255) 12).trans (by rw [n255 _ rfl])
  have e13 : (ρ.s t13).data.toList = (ρ.s t12).data.toList ++ noC := (valC hs hp t12 (.lit []) (.ofNat 255) 12).trans (by rw [n255 _ rfl])
  have e14 : (ρ.s t14).data.toList = (ρ.s t13).data.toList ++ noC := (valC hs hp t13 (.lit []) (.ofNat 255) 12).trans (by rw [n255 _ rfl])
  have e15 : (ρ.s t15).data.toList = (ρ.s t14).data.toList ++ noC := (valC hs hp t14 (.lit []) (.ofNat 255) 12).trans (by rw [n255 _ rfl])
  have e16 : (ρ.s t16).data.toList = (ρ.s t15).data.toList ++ noC := (valC hs hp t15 (.lit []) (.ofNat 255) 12).trans (by rw [n255 _ rfl])
  have eS : (ρ.s tS).data.toList = preL (ρ.i (.v 0)) (ρ.i (.v 1)) (ρ.s (.v 2)).data.toList := by
    refine (catL hs t16 (tR (.ofNat 24))).trans ?_
    rw [repLL hs hp, e16, e15, e14, e13, e12, e11, e10, e9, e8, e7, e6, e5, e4, e3, e2, e1, e0]
    unfold preL noCs
    simp only [List.replicate, List.flatten_cons, List.flatten_nil, List.append_nil, List.append_assoc]
    rfl
  apply ba_eq
  refine (putLL hp tU (.v 1) 8).trans ?_
  rw [show (ρ.s tU).data.toList = _ from putLL hp tS (.f1 2004 tS) 4, hp.sum, eS]
  rfl
end
def w8 : Nm := tC t7 (.ofNat (nat_lit 255)) (.lit []) (.ofNat (nat_lit 12))
def w9 : Nm := tC w8 (.ofNat (nat_lit 255)) (.lit []) (.ofNat (nat_lit 12))
def w10 : Nm := tC w9 (.ofNat (nat_lit 255)) (.lit []) (.ofNat (nat_lit 12))
def w11 : Nm := tC w10 (.ofNat (nat_lit 255)) (.lit []) (.ofNat (nat_lit 12))
def w12 : Nm := tC w11 (.ofNat (nat_lit 255)) (.lit []) (.ofNat (nat_lit 12))
def w13 : Nm := tC w12 (.ofNat (nat_lit 255)) (.lit []) (.ofNat (nat_lit 12))
def w14 : Nm := tC w13 (.ofNat (nat_lit 255)) (.lit []) (.ofNat (nat_lit 12))
def w15 : Nm := tC w14 (.ofNat (nat_lit 255)) (.lit []) (.ofNat (nat_lit 12))
def w16 : Nm := tC w15 (.ofNat (nat_lit 255)) (.lit []) (.ofNat (nat_lit 12))
def wS : Nm := .f2 (nat_lit 1430) w16 (tR (.ofNat (nat_lit 24)))
def wU : Nm := .f2 (nat_lit 2001) wS (.f2 (nat_lit 2002) (.f1 (nat_lit 2004) wS) (.num (.ofNat (nat_lit 4))))
def FW : List Fc := [.rng (.v (nat_lit 0)) 0 63, .rng (.v (nat_lit 1)) 0 4000, .rng (.f1 (nat_lit 2004) wS) 0 4294967295, fL tY (nat_lit 8), fL t0 (nat_lit 12), fL t1 (nat_lit 25), fL t2 (nat_lit 38), fL t3 (nat_lit 51), fL t4 (nat_lit 64), fL t5 (nat_lit 77), fL t6 (nat_lit 90), fL t7 (nat_lit 103), fL w8 (nat_lit 116), fL w9 (nat_lit 129), fL w10 (nat_lit 142), fL w11 (nat_lit 155), fL w12 (nat_lit 168), fL w13 (nat_lit 181), fL w14 (nat_lit 194), fL w15 (nat_lit 207), fL w16 (nat_lit 220), fL (tP t0 (.ofNat (nat_lit 255))) (nat_lit 13), fL (tQ t0 (.ofNat (nat_lit 255)) (.lit [])) (nat_lit 13), fL (tP t1 (.ofNat (nat_lit 255))) (nat_lit 26), fL (tQ t1 (.ofNat (nat_lit 255)) (.lit [])) (nat_lit 26), fL (tP t2 (.ofNat (nat_lit 255))) (nat_lit 39), fL (tQ t2 (.ofNat (nat_lit 255)) (.lit [])) (nat_lit 39), fL (tP t3 (.ofNat (nat_lit 255))) (nat_lit 52), fL (tQ t3 (.ofNat (nat_lit 255)) (.lit [])) (nat_lit 52), fL (tP t4 (.ofNat (nat_lit 255))) (nat_lit 65), fL (tQ t4 (.ofNat (nat_lit 255)) (.lit [])) (nat_lit 65), fL (tP t5 (.ofNat (nat_lit 255))) (nat_lit 78), fL (tQ t5 (.ofNat (nat_lit 255)) (.lit [])) (nat_lit 78), fL (tP t6 (.ofNat (nat_lit 255))) (nat_lit 91), fL (tQ t6 (.ofNat (nat_lit 255)) (.lit [])) (nat_lit 91), fL (tP t7 (.ofNat (nat_lit 255))) (nat_lit 104), fL (tQ t7 (.ofNat (nat_lit 255)) (.lit [])) (nat_lit 104), fL (tP w8 (.ofNat (nat_lit 255))) (nat_lit 117), fL (tQ w8 (.ofNat (nat_lit 255)) (.lit [])) (nat_lit 117), fL (tP w9 (.ofNat (nat_lit 255))) (nat_lit 130), fL (tQ w9 (.ofNat (nat_lit 255)) (.lit [])) (nat_lit 130), fL (tP w10 (.ofNat (nat_lit 255))) (nat_lit 143), fL (tQ w10 (.ofNat (nat_lit 255)) (.lit [])) (nat_lit 143), fL (tP w11 (.ofNat (nat_lit 255))) (nat_lit 156), fL (tQ w11 (.ofNat (nat_lit 255)) (.lit [])) (nat_lit 156), fL (tP w12 (.ofNat (nat_lit 255))) (nat_lit 169), fL (tQ w12 (.ofNat (nat_lit 255)) (.lit [])) (nat_lit 169), fL (tP w13 (.ofNat (nat_lit 255))) (nat_lit 182), fL (tQ w13 (.ofNat (nat_lit 255)) (.lit [])) (nat_lit 182), fL (tP w14 (.ofNat (nat_lit 255))) (nat_lit 195), fL (tQ w14 (.ofNat (nat_lit 255)) (.lit [])) (nat_lit 195), fL (tP w15 (.ofNat (nat_lit 255))) (nat_lit 208), fL (tQ w15 (.ofNat (nat_lit 255)) (.lit [])) (nat_lit 208), fL (tR (.ofNat (nat_lit 12))) (nat_lit 12), fL (tR (.ofNat (nat_lit 24))) (nat_lit 24), fL wS (nat_lit 244), fL wU (nat_lit 248)]
def isEnc (r : RO) : Bool := match r with
  | .ok (.t [.c (.ss _), .c (.i .i64 (.ofNat 0))]) _ => true
  | _ => false
theorem isEnc_ok {r : RO} (h : isEnc r = true) : ∃ t h', r = .ok (.t [.c (.ss t), .c (.i .i64 (.ofNat 0))]) h' := by
  unfold isEnc at h
  split at h
  · exact ⟨_, _, rfl⟩
  · cases h
theorem runEw : isEnc (callBy (tblP FW) (aev Tryz.prog (envR FW) (tblP FW) (nat_lit 60)) ⟨.x0, .x9, .x9⟩ [.a pgU] hp0) = true := by kernel_rfl
theorem FW_ok {ρ : Vn} (hs : StdF ρ) (hp : PP ρ) (h0 : 0 ≤ ρ.i (.v 0)) (h1 : ρ.i (.v 0) ≤ 63) (h2 : 0 ≤ ρ.i (.v 1)) (h3 : ρ.i (.v 1) ≤ 4000) : ∀ f ∈ FW, f.holds QR ρ := by
  have y : (ρ.s tY).size = 8 := (sz_put hp (.lit []) (.v 1) 8).trans (by rw [lit0s hs]; rfl)
  have l0 : (ρ.s t0).size = 12 := (sz_put hp tY (.v 0) 4).trans (by rw [y]; rfl)
  have l1 : (ρ.s t1).size = 25 := szC hs hp l0 (lit0s hs)
  have l2 : (ρ.s t2).size = 38 := szC hs hp l1 (lit0s hs)
  have l3 : (ρ.s t3).size = 51 := szC hs hp l2 (lit0s hs)
  have l4 : (ρ.s t4).size = 64 := szC hs hp l3 (lit0s hs)
  have l5 : (ρ.s t5).size = 77 := szC hs hp l4 (lit0s hs)
  have l6 : (ρ.s t6).size = 90 := szC hs hp l5 (lit0s hs)
  have l7 : (ρ.s t7).size = 103 := szC hs hp l6 (lit0s hs)
  have l8 : (ρ.s w8).size = 116 := szC hs hp l7 (lit0s hs)
  have l9 : (ρ.s w9).size = 129 := szC hs hp l8 (lit0s hs)
  have l10 : (ρ.s w10).size = 142 := szC hs hp l9 (lit0s hs)
  have l11 : (ρ.s w11).size = 155 := szC hs hp l10 (lit0s hs)
  have l12 : (ρ.s w12).size = 168 := szC hs hp l11 (lit0s hs)
  have l13 : (ρ.s w13).size = 181 := szC hs hp l12 (lit0s hs)
  have l14 : (ρ.s w14).size = 194 := szC hs hp l13 (lit0s hs)
  have l15 : (ρ.s w15).size = 207 := szC hs hp l14 (lit0s hs)
  have l16 : (ρ.s w16).size = 220 := szC hs hp l15 (lit0s hs)
  have s : (ρ.s wS).size = 244 := (sz_cat hs _ _).trans (by rw [l16, szR hs hp])
  have u : (ρ.s wU).size = 248 := (sz_put hp wS (.f1 2004 wS) 4).trans (by rw [s]; rfl)
  have c : 0 ≤ ρ.i (.f1 2004 wS) ∧ ρ.i (.f1 2004 wS) ≤ 4294967295 := by
    rw [hp.sum]
    have : crcF (ρ.s wS).data.toList < 4294967296 := xor_lt (by decide) (crcL_lt _ (by decide))
    omega
  exact facts_cons ⟨h0, h1⟩ <| facts_cons ⟨h2, h3⟩ <| facts_cons c <| facts_cons (fL_ok hs y) <| facts_cons (fL_ok hs l0) <| facts_cons (fL_ok hs l1) <| facts_cons (fL_ok hs l2) <| facts_cons (fL_ok hs l3) <| facts_cons (fL_ok hs l4) <| facts_cons (fL_ok hs l5) <| facts_cons (fL_ok hs l6) <| facts_cons (fL_ok hs l7) <| facts_cons (fL_ok hs l8) <| facts_cons (fL_ok hs l9) <| facts_cons (fL_ok hs l10) <| facts_cons (fL_ok hs l11) <| facts_cons (fL_ok hs l12) <| facts_cons (fL_ok hs l13) <| facts_cons (fL_ok hs l14) <| facts_cons (fL_ok hs l15) <| facts_cons (fL_ok hs l16) <| facts_cons (fL_ok hs (szP hp l0)) <| facts_cons (fL_ok hs (szQ hs hp l0 (lit0s hs))) <| facts_cons (fL_ok hs (szP hp l1)) <| facts_cons (fL_ok hs (szQ hs hp l1 (lit0s hs))) <| facts_cons (fL_ok hs (szP hp l2)) <| facts_cons (fL_ok hs (szQ hs hp l2 (lit0s hs))) <| facts_cons (fL_ok hs (szP hp l3)) <| facts_cons (fL_ok hs (szQ hs hp l3 (lit0s hs))) <| facts_cons (fL_ok hs (szP hp l4)) <| facts_cons (fL_ok hs (szQ hs hp l4 (lit0s hs))) <| facts_cons (fL_ok hs (szP hp l5)) <| facts_cons (fL_ok hs (szQ hs hp l5 (lit0s hs))) <| facts_cons (fL_ok hs (szP hp l6)) <| facts_cons (fL_ok hs (szQ hs hp l6 (lit0s hs))) <| facts_cons (fL_ok hs (szP hp l7)) <| facts_cons (fL_ok hs (szQ hs hp l7 (lit0s hs))) <| facts_cons (fL_ok hs (szP hp l8)) <| facts_cons (fL_ok hs (szQ hs hp l8 (lit0s hs))) <| facts_cons (fL_ok hs (szP hp l9)) <| facts_cons (fL_ok hs (szQ hs hp l9 (lit0s hs))) <| facts_cons (fL_ok hs (szP hp l10)) <| facts_cons (fL_ok hs (szQ hs hp l10 (lit0s hs))) <| facts_cons (fL_ok hs (szP hp l11)) <| facts_cons (fL_ok hs (szQ hs hp l11 (lit0s hs))) <| facts_cons (fL_ok hs (szP hp l12)) <| facts_cons (fL_ok hs (szQ hs hp l12 (lit0s hs))) <| facts_cons (fL_ok hs (szP hp l13)) <| facts_cons (fL_ok hs (szQ hs hp l13 (lit0s hs))) <| facts_cons (fL_ok hs (szP hp l14)) <| facts_cons (fL_ok hs (szQ hs hp l14 (lit0s hs))) <| facts_cons (fL_ok hs (szP hp l15)) <| facts_cons (fL_ok hs (szQ hs hp l15 (lit0s hs))) <| facts_cons (fL_ok hs (szR hs hp 12)) <| facts_cons (fL_ok hs (szR hs hp 24)) <| facts_cons (fL_ok hs s) <| facts_cons (fL_ok hs u) <| facts_nil
theorem enc_any {ρ : Vn} {φ : Emb} {h : Hp} {w : World} (hr : Rel ρ φ h w) {id lsn : Int} {b : Bool} {s : ByteArray} (h0 : 0 ≤ id) (h1 : id ≤ 63) (hc : PgC lsn b s) : Calls Tryz.prog 153 #[.agg (pgV id lsn b s).toArray] w fun e w' => ∃ u φ', e = .returned u ∧ VV ρ φ' (.t [.c .top, .c (.i .i64 (.ofNat 0))]) u ∧ Stp ρ φ h w φ' h w' := by
  have fin : ∀ {F : List Fc} {b : Nat → MV} {us : List Value} {a : List AV} {e : Ending} {w' : World} {t : Nm}, ((∃ u φ', e = .returned u ∧ VV (vb b gIf φ.z) φ' (.t [.c (.ss t), .c (.i .i64 (.ofNat 0))]) u) ∧ Below w.heap.size w w') → ∃ u φ', e = .returned u ∧ VV ρ φ' (.t [.c .top, .c (.i .i64 (.ofNat 0))]) u ∧ Stp ρ φ h w φ' h w' := by
    rintro F b us a e w' t ⟨⟨u, φ', rfl, vs, rfl, hvs⟩, bl⟩
    cases hvs with
    | cons q1 q2 =>
      cases q2 with
      | cons q2 q3 =>
        cases q3
        exact ⟨_, φ, rfl, ⟨_, rfl, .cons ⟨_, q1⟩ (.cons q2 .nil)⟩, hr.keepS bl⟩
  rcases hc with ⟨g1, g2, rfl, rfl⟩ | ⟨g1, g2, rfl, g3⟩
  · obtain ⟨t, hh, hrun⟩ := isEnc_ok runEw
    refine (ret_run (ρ := vb (bP id lsn ⟨#[]⟩) gIf φ.z) (eval_ok (tblP_ok FW) mixedS (nat_lit 60)) (envR_ok (FW_ok (vb_std _ _ _) (vb_pp _ _ _) h0 h1 g1 g2)) (f := ⟨.x0, .x9, .x9⟩) (args := [.a pgU]) (l := [.c (.ss t), .c (.i .i64 (.ofNat 0))]) (by rw [hrun]; unfold isRet; exact beqs_refl _) (.cons ⟨_, rfl, pgA_all rfl rfl rfl ⟨⟨#[]⟩, rfl, rfl⟩⟩ .nil) w (fun b x hb => (hr.frz.at_ b x hb).1)).mono fun e w' he => fin (F := []) (us := []) (a := []) he
  · exact (ret_run (ρ := vb (bP id lsn s) gIf φ.z) (eval_ok (tblP_ok FE) mixedS (nat_lit 60)) (envR_ok (FE_ok (vb_std _ _ _) (vb_pp _ _ _) h0 h1 g1 g2 g3)) runEn (.cons ⟨_, rfl, pgA_all rfl rfl rfl rfl⟩ .nil) w (fun b x hb => (hr.frz.at_ b x hb).1)).mono fun e w' he => fin (F := []) (us := []) (a := []) he
def en7 (F : List Fc) : Option (AC × AC × AC × AC) → Option AV
  | some (c0, c1, .b true, .ss t) => match nmI c0, nmI c1 with
    | some x, some y => bif numIn F c0 0 63 && (numIn F c1 1 4000 && lenIs F t 1) then some (.t [.c (.ss (.f2 3100 (.f2 2002 y.2 x.2) t)), .c (.i .i64 (.ofNat 0))]) else none
    | _, _ => none
  | _ => none
def natEn7 (F : List Fc) : List AV → Option AV
  | [.a l] => (match en7 F (pg7 l) with
    | some v => some v
    | none => bif page7 F l then some (.t [.c .top, .c (.i .i64 (.ofNat 0))]) else none)
  | _ => none
theorem natEn7_ok (F : List Fc) : NatOk Tryz.prog (envR F) 153 (natEn7 F) := by
  intro vs v hv ρ φ h w us he hr hu
  have hp := envR_prop he
  have old : ∀ {l : List AC} {v : AV}, en7 F (pg7 l) = some v → All2 (VV ρ φ) [.a l] us → Calls Tryz.prog 153 us.toArray w fun e w' => ∃ u φ', e = .returned u ∧ VV ρ φ' v u ∧ Stp ρ φ h w φ' h w' := by
    clear hu hv
    intro l v hv hu
    unfold en7 at hv
    split at hv
    · rename_i c0 c1 t hpg
      split at hv
      · rename_i x y hx hy
        cases hb : (numIn F c0 0 63 && (numIn F c1 1 4000 && lenIs F t 1)) with
        | false => rw [hb] at hv; cases hv
        | true =>
          rw [hb] at hv
          cases hv
          rw [Bool.and_eq_true, Bool.and_eq_true] at hb
          obtain ⟨b1, b2, b3⟩ := hb
          cases hu with
          | cons a1 t1 =>
            cases t1
            obtain ⟨xs, rfl, hxs⟩ := a1
            obtain ⟨v0, v1, bx, dy, rfl, h0, h1, h2, h3⟩ := pg7_ok hpg hxs
            obtain ⟨id, rfl, g1, g2⟩ := numIn_ok hp.1 hp.2 b1 h0
            obtain ⟨lsn, rfl, g3, g4⟩ := numIn_ok hp.1 hp.2 b2 h1
            have g5 := lenIs_ok hp.1 hp.2 b3
            cases (show bx = Value.bool true from h2)
            cases (show dy = Value.string (ρ.s t) from h3)
            have ei : id = ρ.i x.2 := by
              have := nmI_ok hp.1.toStdA hx h0
              injection this
            have el : lsn = ρ.i y.2 := by
              have := nmI_ok hp.1.toStdA hy h1
              injection this
            refine (ret_run (ρ := vb (bP id lsn (ρ.s t)) gIf φ.z) (eval_ok (tblP_ok FE) mixedS (nat_lit 60)) (envR_ok (FE_ok (vb_std _ _ _) (vb_pp _ _ _) g1 g2 g3 g4 (by show (ρ.s t).size = 1; omega))) runEn (.cons ⟨_, rfl, pgA_all rfl rfl rfl rfl⟩ .nil) w (fun b x hb => (hr.frz.at_ b x hb).1)).mono ?_
            rintro e w' ⟨⟨u, φ', rfl, vs, rfl, hvs⟩, bl⟩
            cases hvs with
            | cons q1 q2 =>
              cases q2 with
              | cons q2 q3 =>
                cases q3
                refine ⟨_, φ, rfl, ⟨_, rfl, .cons ?_ (.cons q2 .nil)⟩, hr.keepS bl⟩
                have q1' : _ = Value.string ((vb (bP id lsn (ρ.s t)) gIf φ.z).s tE) := q1
                rw [q1', tE_val (vb_std _ _ _) (vb_pp _ _ _)]
                show Value.string _ = .string (ρ.s _)
                rw [(envR_pp he).enc]
                show Value.string (encB id lsn (ρ.s t)) = _
                rw [← ei, ← el, Int.toNat_of_nonneg g1]
      · cases hv
    · cases hv
  unfold natEn7 at hv
  split at hv
  · rename_i l
    split at hv
    · rename_i v' hv'
      cases hv
      exact old hv' hu
    · cases hb : page7 F l with
      | false => rw [hb] at hv; cases hv
      | true =>
        rw [hb] at hv
        cases hv
        cases hu with
        | cons a1 t1 =>
          cases t1
          obtain ⟨xs, rfl, hx⟩ := a1
          obtain ⟨id, lsn, bb, ss, rfl, h0, h1, hc⟩ := page7_ok hp.1 hp.2 hb hx
          exact enc_any hr h0 h1 hc
  · cases hv
end Go.Proofs.YtjnfgapfhpihmaaGreat
