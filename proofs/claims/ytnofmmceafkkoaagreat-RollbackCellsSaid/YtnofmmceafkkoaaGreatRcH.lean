/-
  The contract of (*kernel.doing).drop where every lock's cell has a pending change: nothing happens (printed by a program).
-/
import Derived.Test.YtnofmmceafkkoaaGreatSt
import Derived.Test.YtnofmmceafkkoaaGreatRcL
import Derived.Test.YtnofmmceafkkoaaGreatTriI
set_option linter.unusedVariables false
set_option linter.unusedSimpArgs false
set_option maxRecDepth 100000
namespace Go.Proofs.YtnofmmceafkkoaaGreat
open Go.RowKit
noncomputable def tblH (F : List Fc) : Tab := tabOf [(B024, .nat (natJV F)), (B07b, c123), (B090, c144), (B03c, c60), (B072, c114), (B069, c105), (B05d, c93)]
theorem tblH_ok (F : List Fc) : TabOk Tryz.prog (envR F) (tblH F) := tab_cons (tab_cons (tab_cons (tab_cons (tab_cons (tab_cons (tab_cons (tab_nil) e93) e105) e114) e60) e144) e123) (nat_ok (fun args w => (e36 (E := envR F)).1 args w) (natJV_ok F))
theorem codeH (F : List Fc) (n : Nat) : CodeOk Tryz.prog (envR F) (tblH F) n := code_ok (tblH_ok F) (draw_ok mixedR) n
def hDoing (n : Nat) : List AC := [.gv (.v 100), .gv (.v 101), .i .i64 1, .ds shE (.v 0), .si .i64 (.v 1), .gv (.v 105), .gv (.v 106), .gv (.v 107), .su B002 0 n n 4, .gv (.v 109), .su B001 0 1 1 6, .gv (.v 111), .gv (.v 112), .i .i64 1, .gv (.v 114), .gv (.v 115), .gv (.v 116), .gv (.v 117), .gv (.v 118), .gv (.v 119), .gv (.v 120), .gv (.v 121), .gv (.v 122), .gv (.v 123), .gv (.v 124), .gv (.v 125), .gv (.v 126), .gv (.v 127)]
def hTx : List AC := [.i .i64 1, .gv (.v 141), .gv (.v 142), .gv (.v 143), .ds shI (.v 2), .gv (.v 145)]
def hHeld (S : List Nat) : List AC := S.flatMap fun s => [.i .i64 1, .i .i64 0, .i .i64 (Int.ofNat s), .i .i64 2]
def hMem (S : List Nat) : List (Bid × AB) := [(B000, .cells (hDoing S.length)), (B001, .cells hTx), (B002, .cells (hHeld S))]
def hMap (l : List Nat) : AB := .map (l.map fun s => (.a [.i .i64 0, .i .i64 (Int.ofNat s)], .c (.b true)))
def hS0 (S : List Nat) : Lit := ⟨[(.x0, .x0, .c (.p B000 0))], hMem S, B003⟩
def hSX (S l : List Nat) : Lit := ⟨[(.x0, .x0, .c (.p B000 0)), (.x0, .x2, .c (.mp B003))], hMem S ++ [(B003, hMap l)], B004⟩
def hSD (S l : List Nat) : Lit := ⟨[(.x0, .x0, .c (.p B000 0)), (.x0, .x2, .c (.mp B003)), (.x0, .xc, .c (.ds shI (.v 2))), (.x0, .xd, .c (.si .i64 (.v 3))), (.x0, .xe, .c (.si .i64 (.v 4)))], hMem S ++ [(B003, hMap l)], B004⟩
def subsN (k : Nat) : List Nat := [0, 1, 2, 3].filter fun s => Nat.testBit k s
def nxt (l : List Nat) (s : Nat) : List Nat := bif l.any (fun x => Nat.beq x s) then l else l ++ [s]
def hP : List (Nat × List (List Nat)) := [(M1, [[], [M0]]), (M2, [[], [M1]]), (M3, [[], [M0], [M1], [M0, M1], [M1, M0]]), (M4, [[], [M2]]), (M5, [[], [M0], [M2], [M0, M2], [M2, M0]]), (M6, [[], [M1], [M2], [M1, M2], [M2, M1]]), (M7, [[], [M0], [M1], [M2], [M0, M1], [M0, M2], [M1, M0], [M1, M2], [M2, M0], [M2, M1], [M0, M1, M2], [M0, M2, M1], [M1, M0, M2], [M1, M2, M0], [M2, M0, M1], [M2, M1, M0]]), (M8, [[], [M3]]), (M9, [[], [M0], [M3], [M0, M3], [M3, M0]]), (M10, [[], [M1], [M3], [M1, M3], [M3, M1]]), (M11, [[], [M0], [M1], [M3], [M0, M1], [M0, M3], [M1, M0], [M1, M3], [M3, M0], [M3, M1], [M0, M1, M3], [M0, M3, M1], [M1, M0, M3], [M1, M3, M0], [M3, M0, M1], [M3, M1, M0]]), (M12, [[], [M2], [M3], [M2, M3], [M3, M2]]), (M13, [[], [M0], [M2], [M3], [M0, M2], [M0, M3], [M2, M0], [M2, M3], [M3, M0], [M3, M2], [M0, M2, M3], [M0, M3, M2], [M2, M0, M3], [M2, M3, M0], [M3, M0, M2], [M3, M2, M0]]), (M14, [[], [M1], [M2], [M3], [M1, M2], [M1, M3], [M2, M1], [M2, M3], [M3, M1], [M3, M2], [M1, M2, M3], [M1, M3, M2], [M2, M1, M3], [M2, M3, M1], [M3, M1, M2], [M3, M2, M1]]), (M15, [[], [M0], [M1], [M2], [M3], [M0, M1], [M0, M2], [M0, M3], [M1, M0], [M1, M2], [M1, M3], [M2, M0], [M2, M1], [M2, M3], [M3, M0], [M3, M1], [M3, M2], [M0, M1, M2], [M0, M1, M3], [M0, M2, M1], [M0, M2, M3], [M0, M3, M1], [M0, M3, M2], [M1, M0, M2], [M1, M0, M3], [M1, M2, M0], [M1, M2, M3], [M1, M3, M0], [M1, M3, M2], [M2, M0, M1], [M2, M0, M3], [M2, M1, M0], [M2, M1, M3], [M2, M3, M0], [M2, M3, M1], [M3, M0, M1], [M3, M0, M2], [M3, M1, M0], [M3, M1, M2], [M3, M2, M0], [M3, M2, M1], [M0, M1, M2, M3], [M0, M1, M3, M2], [M0, M2, M1, M3], [M0, M2, M3, M1], [M0, M3, M1, M2], [M0, M3, M2, M1], [M1, M0, M2, M3], [M1, M0, M3, M2], [M1, M2, M0, M3], [M1, M2, M3, M0], [M1, M3, M0, M2], [M1, M3, M2, M0], [M2, M0, M1, M3], [M2, M0, M3, M1], [M2, M1, M0, M3], [M2, M1, M3, M0], [M2, M3, M0, M1], [M2, M3, M1, M0], [M3, M0, M1, M2], [M3, M0, M2, M1], [M3, M1, M0, M2], [M3, M1, M2, M0], [M3, M2, M0, M1], [M3, M2, M1, M0]])]
theorem hP_all : ((List.range 16).all fun k => Nat.beq k 0 || hP.any fun x => Nat.beq x.1 k) = true := by kernel_rfl
theorem hClo : (hP.all fun x => (x.2.any fun l => decide (l = [])) && x.2.all fun l => (subsN x.1).all fun s => x.2.any fun l2 => decide (l2 = nxt l s)) = true := by kernel_rfl
def hF : List Fc := [.rng (.f1 M5 (.v M0)) J0 J4000, .rng (.v M1) J0 J4000, .dif (.v M1) (.f1 M5 (.v M0)) (Int.negSucc M3999) J0, .pr M1 [(.v M0)], .rng (.f1 M5 (.v M2)) J0 J4000]
def hFI (s : Nat) : List Fc := [.rng (.v M4) J0 J4000, .rng (.v M3) J0 J4000, .dif (.v M4) (.v M3) (Int.negSucc M3999) (Int.negSucc M0), .dif (.v M4) (.f1 M5 (.v M2)) (Int.negSucc M3999) (Int.negSucc M0), .rng (.f2 M100 (.v M2) (.v M4)) J1 J4000, .dif (.f2 M100 (.v M2) (.v M4)) (.f1 M5 (.v M0)) (Int.negSucc M3999) J0, .rng (.f2 M106 (.v M0) (.f2 M1000 (.f2 M100 (.v M2) (.v M4)) (.num (Int.negSucc M0)))) J0 J0, .rng (.f2 M107 (.v M0) (.f2 M1000 (.f2 M100 (.v M2) (.v M4)) (.num (Int.negSucc M0)))) (Int.ofNat s) (Int.ofNat s)]
def hFX : List Fc := [.rng (.v M4) J0 J4000, .rng (.v M3) J0 J4000, .dif (.v M4) (.v M3) J0 J0]
def hR_p : Rn := ⟨[(M1, (.v M1))], [], [], [(M0, (.v M0)), (M2, (.v M2))], [(.v M100), (.v M101), (.v M105), (.v M106), (.v M107), (.v M109), (.v M111), (.v M112), (.v M114), (.v M115), (.v M116), (.v M117), (.v M118), (.v M119), (.v M120), (.v M121), (.v M122), (.v M123), (.v M124), (.v M125), (.v M126), (.v M127), (.v M141), (.v M142), (.v M143), (.v M145)]⟩
def hR_r : Rn := ⟨[(M1, (.v M1)), (M3, (.f1 M5 (.v M2))), (M4, (.num J0))], [], [], [(M0, (.v M0)), (M2, (.v M2))], [(.v M100), (.v M101), (.v M105), (.v M106), (.v M107), (.v M109), (.v M111), (.v M112), (.v M114), (.v M115), (.v M116), (.v M117), (.v M118), (.v M119), (.v M120), (.v M121), (.v M122), (.v M123), (.v M124), (.v M125), (.v M126), (.v M127), (.v M141), (.v M142), (.v M143), (.v M145)]⟩
def hR_b : Rn := ⟨[(M1, (.v M1)), (M3, (.v M3)), (M4, (.f2 M1000 (.v M4) (.num J1)))], [], [], [(M0, (.v M0)), (M2, (.v M2))], [(.v M100), (.v M101), (.v M105), (.v M106), (.v M107), (.v M109), (.v M111), (.v M112), (.v M114), (.v M115), (.v M116), (.v M117), (.v M118), (.v M119), (.v M120), (.v M121), (.v M122), (.v M123), (.v M124), (.v M125), (.v M126), (.v M127), (.v M141), (.v M142), (.v M143), (.v M145)]⟩
def hR_x : Rn := ⟨[(M1, (.v M1))], [], [], [(M0, (.v M0)), (M2, (.v M2))], [(.v M100), (.v M101), (.v M105), (.v M106), (.v M107), (.v M109), (.v M111), (.v M112), (.v M114), (.v M115), (.v M116), (.v M117), (.v M118), (.v M119), (.v M120), (.v M121), (.v M122), (.v M123), (.v M124), (.v M125), (.v M126), (.v M127), (.v M141), (.v M142), (.v M143), (.v M145)]⟩
def hR_e : Rn := ⟨[(M1, (.v M1))], [], [], [(M0, (.v M0)), (M2, (.v M2))], [(.v M100), (.v M101), (.v M105), (.v M106), (.v M107), (.v M109), (.v M111), (.v M112), (.v M114), (.v M115), (.v M116), (.v M117), (.v M118), (.v M119), (.v M120), (.v M121), (.v M122), (.v M123), (.v M124), (.v M125), (.v M126), (.v M127), (.v M141), (.v M142), (.v M143), (.v M145)]⟩
def hBody : ACd := bodyA c125
def hRes : List AR := resA c125
def hX : ACd := cutR 1 hBody
def hRi : ACd := fstA (fstA hX)
def hB : ACd := innA (innA (sndA (fstA hX)))
def hRe : ACd := sndA hX
theorem hX_eq : hX = .seq (.seq hRi (.block M0 (.loop hB))) hRe := by kernel_rfl
theorem hCut : cutA 1 hBody = some (cutL 1 hBody, hX) := by kernel_rfl
theorem hRun_p : (hP.all fun x => endsAt .nrm [(B000, B000), (B001, B001), (B002, B002), (B003, B003)] hR_p.nms (hSX (subsN x.1) []) (runL Tryz.prog (envR hF) (tblH hF) M60 (cutL 1 hBody) (hS0 (subsN x.1)).frame (hS0 (subsN x.1)).hp)) = true := by kernel_rfl
theorem hRun_r : (hP.all fun x => endsAt .nrm [(B000, B000), (B001, B001), (B002, B002), (B003, B003)] hR_r.nms (hSD (subsN x.1) []) (aev Tryz.prog (envR hF) (tblH hF) M60 hRi (hSX (subsN x.1) []).frame (hSX (subsN x.1) []).hp)) = true := by kernel_rfl
theorem hRun_b : (hP.all fun x => x.2.all fun l => (subsN x.1).all fun s => endsAt .nrm [(B000, B000), (B001, B001), (B002, B002), (B003, B003)] hR_b.nms (hSD (subsN x.1) (nxt l s)) (aev Tryz.prog (envR (hF ++ hFI s)) (tblH (hF ++ hFI s)) M60 hB (hSD (subsN x.1) l).frame (hSD (subsN x.1) l).hp)) = true := by kernel_rfl
theorem hRun_x : (hP.all fun x => x.2.all fun l => endsAt (.ex M0) [(B000, B000), (B001, B001), (B002, B002), (B003, B003)] hR_x.nms (hSX (subsN x.1) l) (aev Tryz.prog (envR (hF ++ hFX)) (tblH (hF ++ hFX)) M60 hB (hSD (subsN x.1) l).frame (hSD (subsN x.1) l).hp)) = true := by kernel_rfl
theorem hRun_e : (hP.all fun x => x.2.all fun l => !((subsN x.1).all fun s => l.any fun y => Nat.beq y s) || endsAt .nrm [(B000, B000), (B001, B001), (B002, B002)] hR_e.nms (hS0 (subsN x.1)) (aev Tryz.prog (envR hF) (tblH hF) M60 hRe (hSX (subsN x.1) l).frame (hSX (subsN x.1) l).hp)) = true := by kernel_rfl
theorem hRet : (hP.all fun x => match retOf hRes (hS0 (subsN x.1)).frame (hS0 (subsN x.1)).hp with | .ok (.t []) _ => true | _ => false) = true := by kernel_rfl
def C3 : List Bid := [B000, B001, B002]
section
variable {w0 : World} {φ0 : Emb} {h0 : Hp} {N : Nat} {g : Nm → Value} {z : Nat → Option Obj} {Y : List (List DV)} {ns : List Int} {du : Int} {b : Nat → MV} {k : Nat} {L : List (List Nat)}
structure HI (Y : List (List DV)) (ns : List Int) (du : Int) (b : Nat → MV) : Prop where
  y : (b 0).d = Y
  d : (b 1).i = du
  q : (b 2).d = nsD ns
structure HL (Y : List (List DV)) (ns : List Int) (du : Int) (L : List (List Nat)) (l : List Nat) (b : Nat → MV) : Prop extends HI Y ns du b where
  n : (b 3).i = ns.length
  i0 : 0 ≤ (b 4).i
  i1 : (b 4).i ≤ ns.length
  lm : l ∈ L
  s : ∀ (i : Nat) n, (i : Int) < (b 4).i → ns[i]? = some n → ∃ s : Nat, slotD Y n = s ∧ s ∈ l
theorem hF_ok (hp : Pend Y ns) (d0 : 0 ≤ du) (d1 : du ≤ Y.length) (h : HI Y ns du b) : ∀ f ∈ hF, f.holds QR (vb b g z) := by
  have hl := hp.jv.1
  have h0 := h.y
  have h1 := h.d
  have h2 : (((b 2).d.length : Nat) : Int) = ns.length := by rw [h.q]; unfold nsD; rw [List.length_map]
  have h3 := hp.len
  exact facts_cons ⟨Int.natCast_nonneg _, (by show (((b 0).d.length : Nat) : Int) ≤ 4000; rw [h0]; omega)⟩ (facts_cons ⟨(by show (0 : Int) ≤ (b 1).i; omega), (by show (b 1).i ≤ 4000; omega)⟩ (facts_cons ⟨(by show (-4000 : Int) ≤ (b 1).i - (((b 0).d.length : Nat) : Int); rw [h0]; omega), (by show (b 1).i - (((b 0).d.length : Nat) : Int) ≤ 0; rw [h0]; omega)⟩ (facts_cons (show JV (b 0).d by rw [h0]; exact hp.jv)
    (facts_cons ⟨Int.natCast_nonneg _, (by show (((b 2).d.length : Nat) : Int) ≤ 4000; omega)⟩ facts_nil))))
theorem hP_mem (k0 : k ≠ 0) (k1 : k < 16) : ∃ L, (k, L) ∈ hP := by
  have h1 := List.all_eq_true.1 hP_all k (List.mem_range.2 k1)
  rw [Bool.or_eq_true] at h1
  rcases h1 with h1 | h1
  · exact absurd (Nat.eq_of_beq_eq_true h1) k0
  · obtain ⟨x, hx, e⟩ := List.any_eq_true.1 h1
    cases Nat.eq_of_beq_eq_true e
    exact ⟨x.2, hx⟩
theorem any_eq {L : List (List Nat)} {l : List Nat} (h : (L.any fun x => decide (x = l)) = true) : l ∈ L := by
  obtain ⟨x, hx, e⟩ := List.any_eq_true.1 h
  rw [← of_decide_eq_true e]; exact hx
theorem mem_nxt {l : List Nat} {s x : Nat} (h : x ∈ l ∨ x = s) : x ∈ nxt l s := by
  unfold nxt
  cases hc : l.any (fun x => Nat.beq x s) with
  | true =>
    rcases h with h | rfl
    · exact h
    · obtain ⟨y, hy, e⟩ := List.any_eq_true.1 hc
      cases Nat.eq_of_beq_eq_true e
      exact hy
  | false =>
    rcases h with h | rfl
    · exact List.mem_append_left _ h
    · exact List.mem_append_right _ List.mem_cons_self
theorem mem_subsN {k s : Nat} (h : s < 4) (hb : k.testBit s = true) : s ∈ subsN k := by
  unfold subsN
  rw [List.mem_filter]
  refine ⟨?_, hb⟩
  have : s = 0 ∨ s = 1 ∨ s = 2 ∨ s = 3 := by omega
  rcases this with rfl | rfl | rfl | rfl <;> simp
theorem hRound (hC : ∀ c, c ∈ C3 → (φ0 c).isSome) (hp : Pend Y ns) (d0 : 0 ≤ du) (d1 : du ≤ Y.length) (hin : ∀ n ∈ ns, ∃ s : Nat, s < 4 ∧ slotD Y n = s ∧ k.testBit s = true) (hk : (k, L) ∈ hP) (x : List Nat × (Nat → MV)) :
    Tri Tryz.prog N hB (fun a w => HL Y ns du L x.1 x.2 ∧ AtI C3 φ0 h0 w0 N (vb x.2 g z) (hSD (subsN k) x.1) a w) fun e a w => (e = .normal ∧ ∃ y : List Nat × (Nat → MV), ns.length - (y.2 4).i.toNat < ns.length - (x.2 4).i.toNat ∧ HL Y ns du L y.1 y.2 ∧ AtI C3 φ0 h0 w0 N (vb y.2 g z) (hSD (subsN k) y.1) a w) ∨
      (e ≠ .normal ∧ (e = .exit 0 ∧ ∃ l b, HI Y ns du b ∧ l ∈ L ∧ (∀ n ∈ ns, ∃ s : Nat, slotD Y n = s ∧ s ∈ l) ∧ AtI C3 φ0 h0 w0 N (vb b g z) (hSX (subsN k) l) a w)) := by
  obtain ⟨l, b⟩ := x
  refine Tri.imp fun h => ?_
  have h : HL Y ns du L l b := h
  have base := hF_ok (g := g) (z := z) hp d0 d1 h.toHI
  have hn := h.n
  have hi0 := h.i0
  have hi1 := h.i1
  have h4 := hp.len
  by_cases hlt : (b 4).i < ns.length
  · obtain ⟨i, hi⟩ := Int.eq_ofNat_of_zero_le hi0
    obtain ⟨n, hni⟩ := list_cases (d := ns) (i := i) (by omega)
    have hm := List.mem_of_getElem? hni
    obtain ⟨s, s4, hs, hb⟩ := hin n hm
    have n1 := hp.lo n hm
    have n2 := hp.hi n hm
    have hq : ((vb b g z).d (.v 2))[i]? = some [DV.i n] := by
      show (b 2).d[i]? = _
      rw [h.q]; unfold nsD; rw [List.getElem?_map, hni]; rfl
    have e1 : (vb b g z).i (.f2 100 (.v 2) (.v 4)) = n := ci_row hq (show (vb b g z).i (.v 4) = i from hi) 0 (by decide) rfl
    have e2 : (vb b g z).i (.f2 1000 (.f2 100 (.v 2) (.v 4)) (.num (-1))) = n - 1 := by rw [(vb_std b g z).ex, e1, (vb_std b g z).num]; rfl
    have ec : ∀ o, o < 900 → (vb b g z).i (.f2 (100 + o) (.v 0) (.f2 1000 (.f2 100 (.v 2) (.v 4)) (.num (-1)))) = dvI (cellD Y (n - 1) o) := fun o ho => by
      rw [(vb_std b g z).ci o _ _ ho, e2]
      show dvI (cellD (b 0).d _ _) = _
      rw [h.y]
    have e6 : (vb b g z).i (.f2 106 (.v 0) (.f2 1000 (.f2 100 (.v 2) (.v 4)) (.num (-1)))) = 0 := by
      refine (ec 6 (by decide)).trans ?_
      rw [hp.pg n hm]; rfl
    have e7 : (vb b g z).i (.f2 107 (.v 0) (.f2 1000 (.f2 100 (.v 2) (.v 4)) (.num (-1)))) = s := by
      refine (ec 7 (by decide)).trans ?_
      unfold slotD at hs
      cases hc : cellD Y (n - 1) 7 with
      | none => rw [hc] at hs; simp at hs
      | some d =>
        rw [hc] at hs
        cases d with
        | i x => exact hs
        | _ => simp at hs
    have fi : ∀ f ∈ hFI s, f.holds QR (vb b g z) := facts_cons ⟨hi0, (by show (b 4).i ≤ 4000; omega)⟩ (facts_cons ⟨(by show 0 ≤ (b 3).i; omega), (by show (b 3).i ≤ 4000; omega)⟩ (facts_cons ⟨(by show (-4000 : Int) ≤ (b 4).i - (b 3).i; omega), (by show (b 4).i - (b 3).i ≤ -1; omega)⟩
      (facts_cons ⟨(by show (-4000 : Int) ≤ (b 4).i - (((b 2).d.length : Nat) : Int); rw [h.q]; unfold nsD; rw [List.length_map]; omega), (by show (b 4).i - (((b 2).d.length : Nat) : Int) ≤ -1; rw [h.q]; unfold nsD; rw [List.length_map]; omega)⟩
      (facts_cons ⟨(by show (1 : Int) ≤ (vb b g z).i (.f2 100 (.v 2) (.v 4)); rw [e1]; omega), (by show (vb b g z).i (.f2 100 (.v 2) (.v 4)) ≤ 4000; have := hp.jv.1; rw [e1]; omega)⟩
      (facts_cons ⟨(by show (-4000 : Int) ≤ (vb b g z).i (.f2 100 (.v 2) (.v 4)) - (((b 0).d.length : Nat) : Int); have := hp.jv.1; rw [e1, h.y]; omega), (by show (vb b g z).i (.f2 100 (.v 2) (.v 4)) - (((b 0).d.length : Nat) : Int) ≤ 0; rw [e1, h.y]; omega)⟩
      (facts_cons ⟨(by show (0 : Int) ≤ (vb b g z).i (.f2 106 (.v 0) (.f2 1000 (.f2 100 (.v 2) (.v 4)) (.num (-1)))); rw [e6]; omega), (by show (vb b g z).i (.f2 106 (.v 0) (.f2 1000 (.f2 100 (.v 2) (.v 4)) (.num (-1)))) ≤ 0; rw [e6]; omega)⟩
      (facts_cons ⟨(by show (s : Int) ≤ (vb b g z).i (.f2 107 (.v 0) (.f2 1000 (.f2 100 (.v 2) (.v 4)) (.num (-1)))); rw [e7]; omega), (by show (vb b g z).i (.f2 107 (.v 0) (.f2 1000 (.f2 100 (.v 2) (.v 4)) (.num (-1)))) ≤ (s : Int); rw [e7]; omega)⟩ facts_nil)))))))
    have hsN := mem_subsN s4 hb
    have hr := List.all_eq_true.1 (List.all_eq_true.1 (List.all_eq_true.1 hRun_b _ hk) l h.lm) s hsN
    have hcl := any_eq (List.all_eq_true.1 (List.all_eq_true.1 (Bool.and_eq_true_iff.1 (List.all_eq_true.1 hClo _ hk)).2 l h.lm) s hsN)
    refine (Tri.runI hC (codeH _ _) (envR_ok (facts_app base fi)) hr (by rfl) (ren_nb (by decide))).post fun e a w hq => .inl ⟨hq.1, (nxt l s, nb b hR_b), ?_, ⟨⟨h.y, h.d, h.q⟩, h.n, ?_, ?_, hcl, fun j m hj hm => ?_⟩, hq.2⟩
    · show ns.length - ((b 4).i + 1).toNat < ns.length - (b 4).i.toNat
      omega
    · show 0 ≤ (b 4).i + 1
      omega
    · show (b 4).i + 1 ≤ ns.length
      omega
    · have hj : (j : Int) < (b 4).i + 1 := hj
      by_cases hji : (j : Int) < (b 4).i
      · obtain ⟨s', q1, q2⟩ := h.s j m hji hm
        exact ⟨s', q1, mem_nxt (.inl q2)⟩
      · have : j = i := by omega
        subst this
        rw [hni] at hm
        cases hm
        exact ⟨s, hs, mem_nxt (.inr rfl)⟩
  · have hr := List.all_eq_true.1 (List.all_eq_true.1 hRun_x _ hk) l h.lm
    have fx : ∀ f ∈ hFX, f.holds QR (vb b g z) := facts_cons ⟨hi0, (by show (b 4).i ≤ 4000; omega)⟩ (facts_cons ⟨(by show 0 ≤ (b 3).i; omega), (by show (b 3).i ≤ 4000; omega)⟩ (facts_cons ⟨(by show (0 : Int) ≤ (b 4).i - (b 3).i; omega), (by show (b 4).i - (b 3).i ≤ 0; omega)⟩ facts_nil))
    refine (Tri.runI hC (codeH _ _) (envR_ok (facts_app base fx)) hr (by rfl) (ren_nb (by decide))).post fun e a w hq => .inr ⟨by rw [hq.1]; exact fun h => (nomatch h), hq.1, l, nb b hR_x, ⟨h.y, h.d, h.q⟩, h.lm, fun n hn => ?_, hq.2⟩
    obtain ⟨i, hi⟩ := List.getElem?_of_mem hn
    have := (List.getElem?_eq_some_iff.1 hi).1
    exact h.s i n (by omega) hi
theorem drop_tri (hC : ∀ c, c ∈ C3 → (φ0 c).isSome) (hp : Pend Y ns) (d0 : 0 ≤ du) (d1 : du ≤ Y.length) (hin : ∀ n ∈ ns, ∃ s : Nat, s < 4 ∧ slotD Y n = s ∧ k.testBit s = true) (hall : ∀ s : Nat, s < 4 → k.testBit s = true → ∃ n ∈ ns, slotD Y n = s) (k0 : k ≠ 0) (k1 : k < 16) (h : HI Y ns du b) :
    Tri Tryz.prog N hBody (AtI C3 φ0 h0 w0 N (vb b g z) (hS0 (subsN k))) fun e a w => e = .normal ∧ ∃ b, HI Y ns du b ∧ AtI C3 φ0 h0 w0 N (vb b g z) (hS0 (subsN k)) a w := by
  obtain ⟨L, hk⟩ := hP_mem k0 k1
  have base := hF_ok (g := g) (z := z) hp d0 d1 h
  refine Tri.pre_runI hC (codeH _ _) (envR_ok base) hCut (List.all_eq_true.1 hRun_p _ hk) (by rfl) (ren_nb (by decide)) ?_
  have h' : HI Y ns du (nb b hR_p) := ⟨h.y, h.d, h.q⟩
  have base' := hF_ok (g := g) (z := z) hp d0 d1 h'
  rw [hX_eq]
  refine Tri.seq (Mid := fun a w => ∃ l b, HI Y ns du b ∧ l ∈ L ∧ (∀ n ∈ ns, ∃ s : Nat, slotD Y n = s ∧ s ∈ l) ∧ AtI C3 φ0 h0 w0 N (vb b g z) (hSX (subsN k) l) a w) ?_ ?_
  · refine Tri.seq (Mid := fun a w => ∃ x : List Nat × (Nat → MV), HL Y ns du L x.1 x.2 ∧ AtI C3 φ0 h0 w0 N (vb x.2 g z) (hSD (subsN k) x.1) a w) ?_ ?_
    · refine (Tri.runI hC (codeH _ _) (envR_ok base') (List.all_eq_true.1 hRun_r _ hk) (by rfl) (ren_nb (by decide))).post fun e a w hq => .inl ⟨hq.1, ([], nb (nb b hR_p) hR_r), ⟨⟨h.y, h.d, h.q⟩, ?_, (by show (0 : Int) ≤ 0; decide), (by show (0 : Int) ≤ ns.length; omega), any_eq (Bool.and_eq_true_iff.1 (List.all_eq_true.1 hClo _ hk)).1, fun i n hi _ => ?_⟩, hq.2⟩
      · show (((b 2).d.length : Nat) : Int) = _
        rw [h.q]; unfold nsD; rw [List.length_map]
      · have : (i : Int) < 0 := hi
        omega
    · refine (Tri.block (Post := fun e a w => e = .normal ∧ ∃ l b, HI Y ns du b ∧ l ∈ L ∧ (∀ n ∈ ns, ∃ s : Nat, slotD Y n = s ∧ s ∈ l) ∧ AtI C3 φ0 h0 w0 N (vb b g z) (hSX (subsN k) l) a w) ?_).post fun e a w hq => .inl hq
      refine (Tri.loop (fun x : List Nat × (Nat → MV) => ns.length - (x.2 4).i.toNat) (fun x a w => HL Y ns du L x.1 x.2 ∧ AtI C3 φ0 h0 w0 N (vb x.2 g z) (hSD (subsN k) x.1) a w) fun x => hRound hC hp d0 d1 hin hk x).post fun e a w hq => .inl ⟨.inr hq.1, rfl, hq.2⟩
  · refine Tri.ex fun l => Tri.ex fun b' => Tri.imp fun hb' => Tri.imp fun hl => Tri.imp fun hs => ?_
    have hr := List.all_eq_true.1 (List.all_eq_true.1 hRun_e _ hk) l hl
    have hcov : ((subsN k).all fun s => l.any fun y => Nat.beq y s) = true := List.all_eq_true.2 fun s hs' => by
      unfold subsN at hs'
      rw [List.mem_filter] at hs'
      have s4 : s < 4 := by
        have := hs'.1
        simp at this
        omega
      obtain ⟨n, hn, e⟩ := hall s s4 hs'.2
      obtain ⟨s2, e2, h2⟩ := hs n hn
      have : s2 = s := by omega
      subst this
      exact List.any_eq_true.2 ⟨s2, h2, Nat.beq_refl _⟩
    rw [hcov, Bool.not_true, Bool.false_or] at hr
    exact (Tri.runI hC (codeH _ _) (envR_ok (hF_ok hp d0 d1 hb')) hr (by rfl) (ren_nb (by decide))).post fun e a w hq => ⟨hq.1, nb b' hR_e, ⟨hb'.y, hb'.d, hb'.q⟩, hq.2⟩
end
end Go.Proofs.YtnofmmceafkkoaaGreat
