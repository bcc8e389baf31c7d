/-
  The contract of rollback.of: the last pending change of a cell (printed by a program).
-/
import Derived.Test.YtnofmmceafkkoaaGreatSt
import Derived.Test.YtnofmmceafkkoaaGreatRcB
import Derived.Test.YtnofmmceafkkoaaGreatMB0
set_option linter.unusedVariables false
set_option linter.unusedSimpArgs false
set_option maxRecDepth 100000
namespace Go.Proofs.YtnofmmceafkkoaaGreat
open Go.RowKit
noncomputable def tblO (F : List Fc) : Tab := tabOf [(B024, .nat (natJV F)), (B056, c86), (B090, c144), (B05b, c91), (B05d, c93)]
theorem tblO_ok (F : List Fc) : TabOk Tryz.prog (envR F) (tblO F) := tab_cons (tab_cons (tab_cons (tab_cons (tab_cons (tab_nil) e93) e91) e144) e86) (nat_ok (fun args w => (e36 (E := envR F)).1 args w) (natJV_ok F))
theorem codeO (F : List Fc) (n : Nat) : CodeOk Tryz.prog (envR F) (tblO F) n := code_ok (tblO_ok F) (draw_ok mixedR) n
def oS0 : Lit := ⟨[(.x0, .x0, (.a [.gv (.v M60), .gv (.v M61), Z1, .ds (.i .i64 (.i .i64 (.i .i64 (.i .i64 (.i .i64 (.i .i64 (.i .i64 (.i .i64 (.b (.s (.b (.s (.s .nil))))))))))))) (.v M0), .si .i64 (.v M1), .gv (.v M65), .gv (.v M66), .gv (.v M67), .gv (.v M68), .gv (.v M69), .gv (.v M70), .gv (.v M71), .gv (.v M72)])), (.x0, .x1, (.a [.gv (.v M80), .gv (.v M81), .gv (.v M82), .gv (.v M83), .ds (.i .i64 .nil) (.v M3), .gv (.v M85)])), (.x0, .x2, (.a [Z0, .si .i64 (.v M4)]))], [], B000⟩
def oS1 : Lit := ⟨[(.x0, .x5, (.c (.p B000 M0))), (.x0, .x6, (.c (.p B001 M0))), (.x0, .x8, (.c (.p B002 M0)))], [(B000, (.cells [Z0, .si .i64 (.v M4)])), (B001, (.cells [Z0, Z0, Z0, Z0, Z0, Z0, Z0, Z0, .b false, .s [], .b false, .s [], .s []])), (B002, (.cells [Z1, .ds (.i .i64 (.i .i64 (.i .i64 (.i .i64 (.i .i64 (.i .i64 (.i .i64 (.i .i64 (.b (.s (.b (.s (.s .nil))))))))))))) (.v M0), .si .i64 (.v M1), .ds (.i .i64 .nil) (.v M3)]))], B003⟩
def oSH : Lit := ⟨[(.x0, .x5, (.c (.p B000 M0))), (.x0, .x6, (.c (.p B001 M0))), (.x0, .x8, (.c (.p B002 M0))), (.x0, .x9, (.c (.p B003 M0))), (.x0, .xa, (.c (.b true))), (.x0, .xb, (.c (.b true)))], [(B000, (.cells [Z0, .si .i64 (.v M4)])), (B001, (.cells [Z0, Z0, Z0, Z0, Z0, Z0, Z0, Z0, .b false, .s [], .b false, .s [], .s []])), (B002, (.cells [Z1, .ds (.i .i64 (.i .i64 (.i .i64 (.i .i64 (.i .i64 (.i .i64 (.i .i64 (.i .i64 (.b (.s (.b (.s (.s .nil))))))))))))) (.v M0), .si .i64 (.v M1), .ds (.i .i64 .nil) (.v M3)])), (B003, (.cells [.si .i64 (.v M40), .si .i64 (.v M41), .si .i64 (.v M42), .si .i64 (.v M43), .si .i64 (.v M44), .si .i64 (.v M45), .si .i64 (.v M46), .si .i64 (.v M47), .sb (.v M48), .ss (.v M49), .sb (.v M50), .ss (.v M51), .ss (.v M52)]))], B004⟩
def oSH0 : Lit := ⟨[(.x0, .x6, (.c (.p B000 M0))), (.x0, .xb, (.c (.b false)))], [(B000, (.cells [Z0, Z0, Z0, Z0, Z0, Z0, Z0, Z0, .b false, .s [], .b false, .s [], .s []]))], B001⟩
def oSX : Lit := ⟨[(.x0, .x6, (.c (.p B000 M0)))], [(B000, (.cells [Z0, Z0, Z0, Z0, Z0, Z0, Z0, Z0, .b false, .s [], .b false, .s [], .s []]))], B001⟩
def oSE : Lit := ⟨[(.x0, .x6, (.c (.p B000 M0))), (.x0, .x7, (.c (.b true)))], [(B000, (.cells [.si .i64 (.v M40), .si .i64 (.v M41), .si .i64 (.v M42), .si .i64 (.v M43), .si .i64 (.v M44), .si .i64 (.v M45), .si .i64 (.v M46), .si .i64 (.v M47), .sb (.v M48), .ss (.v M49), .sb (.v M50), .ss (.v M51), .ss (.v M52)]))], B001⟩
def oSF : Lit := ⟨[(.x0, .x6, (.c (.p B000 M0))), (.x0, .x7, (.c (.b false)))], [(B000, (.cells [Z0, Z0, Z0, Z0, Z0, Z0, Z0, Z0, .b false, .s [], .b false, .s [], .s []]))], B001⟩
def oF : List Fc := [.rng (.f1 M5 (.v M0)) J0 J4000, .rng (.v M1) J0 J4000, .dif (.v M1) (.f1 M5 (.v M0)) (Int.negSucc M3999) J0, .pr M1 [(.v M0)]]
def oFN : List Fc := [.rng (.f1 M5 (.v M3)) J1 J4000, .rng (.f2 M100 (.v M3) (.f2 M1000 (.f1 M5 (.v M3)) (.num (Int.negSucc M0)))) J1 J4000, .dif (.f2 M100 (.v M3) (.f2 M1000 (.f1 M5 (.v M3)) (.num (Int.negSucc M0)))) (.f1 M5 (.v M0)) (Int.negSucc M3999) J0]
def oFE : List Fc := [.rng (.f1 M5 (.v M3)) J0 J0]
def oHD : List Fc := [.rng (.v M46) J0 J0]
def oCeq : List Fc := [.dif (.v M47) (.v M4) J0 J0]
def oClt : List Fc := [.dif (.v M47) (.v M4) (Int.negSucc M3999) (Int.negSucc M0)]
def oCgt : List Fc := [.dif (.v M47) (.v M4) J1 J4000]
def oBody : ACd := bodyA c50
def oRes : List AR := resA c50
def oX : ACd := cutR 2 oBody
def oRr : ACd := fstA (fstA oX)
def oB : ACd := innA (innA (sndA (fstA oX)))
def oRe : ACd := sndA oX
theorem oX_eq : oX = .seq (.seq oRr (.block M0 (.loop oB))) oRe := by kernel_rfl
theorem oCut : cutA 2 oBody = some (cutL 2 oBody, oX) := by kernel_rfl
def oR_p : Rn := ⟨[(M1, (.v M1)), (M4, (.v M4))], [], [], [(M0, (.v M0)), (M3, (.v M3))], []⟩
def oR_rN : Rn := ⟨[(M1, (.v M1)), (M4, (.v M4)), (M40, (.f2 M100 (.v M0) (.f2 M1000 (.f2 M100 (.v M3) (.f2 M1000 (.f1 M5 (.v M3)) (.num (Int.negSucc M0)))) (.num (Int.negSucc M0))))), (M41, (.f2 M101 (.v M0) (.f2 M1000 (.f2 M100 (.v M3) (.f2 M1000 (.f1 M5 (.v M3)) (.num (Int.negSucc M0)))) (.num (Int.negSucc M0))))), (M42, (.f2 M102 (.v M0) (.f2 M1000 (.f2 M100 (.v M3) (.f2 M1000 (.f1 M5 (.v M3)) (.num (Int.negSucc M0)))) (.num (Int.negSucc M0))))), (M43, (.f2 M103 (.v M0) (.f2 M1000 (.f2 M100 (.v M3) (.f2 M1000 (.f1 M5 (.v M3)) (.num (Int.negSucc M0)))) (.num (Int.negSucc M0))))), (M44, (.f2 M104 (.v M0) (.f2 M1000 (.f2 M100 (.v M3) (.f2 M1000 (.f1 M5 (.v M3)) (.num (Int.negSucc M0)))) (.num (Int.negSucc M0))))), (M45, (.f2 M105 (.v M0) (.f2 M1000 (.f2 M100 (.v M3) (.f2 M1000 (.f1 M5 (.v M3)) (.num (Int.negSucc M0)))) (.num (Int.negSucc M0))))), (M46, (.f2 M106 (.v M0) (.f2 M1000 (.f2 M100 (.v M3) (.f2 M1000 (.f1 M5 (.v M3)) (.num (Int.negSucc M0)))) (.num (Int.negSucc M0))))), (M47, (.f2 M107 (.v M0) (.f2 M1000 (.f2 M100 (.v M3) (.f2 M1000 (.f1 M5 (.v M3)) (.num (Int.negSucc M0)))) (.num (Int.negSucc M0)))))], [(M49, (.f2 M109 (.v M0) (.f2 M1000 (.f2 M100 (.v M3) (.f2 M1000 (.f1 M5 (.v M3)) (.num (Int.negSucc M0)))) (.num (Int.negSucc M0))))), (M51, (.f2 M111 (.v M0) (.f2 M1000 (.f2 M100 (.v M3) (.f2 M1000 (.f1 M5 (.v M3)) (.num (Int.negSucc M0)))) (.num (Int.negSucc M0))))), (M52, (.f2 M112 (.v M0) (.f2 M1000 (.f2 M100 (.v M3) (.f2 M1000 (.f1 M5 (.v M3)) (.num (Int.negSucc M0)))) (.num (Int.negSucc M0)))))], [(M48, (.f2 M108 (.v M0) (.f2 M1000 (.f2 M100 (.v M3) (.f2 M1000 (.f1 M5 (.v M3)) (.num (Int.negSucc M0)))) (.num (Int.negSucc M0))))), (M50, (.f2 M110 (.v M0) (.f2 M1000 (.f2 M100 (.v M3) (.f2 M1000 (.f1 M5 (.v M3)) (.num (Int.negSucc M0)))) (.num (Int.negSucc M0)))))], [(M0, (.v M0)), (M3, (.f2 M1401 (.v M3) (.f2 M1000 (.f1 M5 (.v M3)) (.num (Int.negSucc M0)))))], []⟩
def oR_rE : Rn := ⟨[], [], [], [], []⟩
def oR_eq : Rn := ⟨[(M40, (.v M40)), (M41, (.v M41)), (M42, (.v M42)), (M43, (.v M43)), (M44, (.v M44)), (M45, (.v M45)), (M46, (.v M46)), (M47, (.v M47))], [(M49, (.v M49)), (M51, (.v M51)), (M52, (.v M52))], [(M48, (.v M48)), (M50, (.v M50))], [], []⟩
def oR_ltN : Rn := ⟨[(M1, (.v M1)), (M4, (.v M4)), (M40, (.f2 M100 (.v M0) (.f2 M1000 (.f2 M100 (.v M3) (.f2 M1000 (.f1 M5 (.v M3)) (.num (Int.negSucc M0)))) (.num (Int.negSucc M0))))), (M41, (.f2 M101 (.v M0) (.f2 M1000 (.f2 M100 (.v M3) (.f2 M1000 (.f1 M5 (.v M3)) (.num (Int.negSucc M0)))) (.num (Int.negSucc M0))))), (M42, (.f2 M102 (.v M0) (.f2 M1000 (.f2 M100 (.v M3) (.f2 M1000 (.f1 M5 (.v M3)) (.num (Int.negSucc M0)))) (.num (Int.negSucc M0))))), (M43, (.f2 M103 (.v M0) (.f2 M1000 (.f2 M100 (.v M3) (.f2 M1000 (.f1 M5 (.v M3)) (.num (Int.negSucc M0)))) (.num (Int.negSucc M0))))), (M44, (.f2 M104 (.v M0) (.f2 M1000 (.f2 M100 (.v M3) (.f2 M1000 (.f1 M5 (.v M3)) (.num (Int.negSucc M0)))) (.num (Int.negSucc M0))))), (M45, (.f2 M105 (.v M0) (.f2 M1000 (.f2 M100 (.v M3) (.f2 M1000 (.f1 M5 (.v M3)) (.num (Int.negSucc M0)))) (.num (Int.negSucc M0))))), (M46, (.f2 M106 (.v M0) (.f2 M1000 (.f2 M100 (.v M3) (.f2 M1000 (.f1 M5 (.v M3)) (.num (Int.negSucc M0)))) (.num (Int.negSucc M0))))), (M47, (.f2 M107 (.v M0) (.f2 M1000 (.f2 M100 (.v M3) (.f2 M1000 (.f1 M5 (.v M3)) (.num (Int.negSucc M0)))) (.num (Int.negSucc M0)))))], [(M49, (.f2 M109 (.v M0) (.f2 M1000 (.f2 M100 (.v M3) (.f2 M1000 (.f1 M5 (.v M3)) (.num (Int.negSucc M0)))) (.num (Int.negSucc M0))))), (M51, (.f2 M111 (.v M0) (.f2 M1000 (.f2 M100 (.v M3) (.f2 M1000 (.f1 M5 (.v M3)) (.num (Int.negSucc M0)))) (.num (Int.negSucc M0))))), (M52, (.f2 M112 (.v M0) (.f2 M1000 (.f2 M100 (.v M3) (.f2 M1000 (.f1 M5 (.v M3)) (.num (Int.negSucc M0)))) (.num (Int.negSucc M0)))))], [(M48, (.f2 M108 (.v M0) (.f2 M1000 (.f2 M100 (.v M3) (.f2 M1000 (.f1 M5 (.v M3)) (.num (Int.negSucc M0)))) (.num (Int.negSucc M0))))), (M50, (.f2 M110 (.v M0) (.f2 M1000 (.f2 M100 (.v M3) (.f2 M1000 (.f1 M5 (.v M3)) (.num (Int.negSucc M0)))) (.num (Int.negSucc M0)))))], [(M0, (.v M0)), (M3, (.f2 M1401 (.v M3) (.f2 M1000 (.f1 M5 (.v M3)) (.num (Int.negSucc M0)))))], []⟩
def oR_ltE : Rn := ⟨[], [], [], [], []⟩
def oR_gtN : Rn := ⟨[(M1, (.v M1)), (M4, (.v M4)), (M40, (.f2 M100 (.v M0) (.f2 M1000 (.f2 M100 (.v M3) (.f2 M1000 (.f1 M5 (.v M3)) (.num (Int.negSucc M0)))) (.num (Int.negSucc M0))))), (M41, (.f2 M101 (.v M0) (.f2 M1000 (.f2 M100 (.v M3) (.f2 M1000 (.f1 M5 (.v M3)) (.num (Int.negSucc M0)))) (.num (Int.negSucc M0))))), (M42, (.f2 M102 (.v M0) (.f2 M1000 (.f2 M100 (.v M3) (.f2 M1000 (.f1 M5 (.v M3)) (.num (Int.negSucc M0)))) (.num (Int.negSucc M0))))), (M43, (.f2 M103 (.v M0) (.f2 M1000 (.f2 M100 (.v M3) (.f2 M1000 (.f1 M5 (.v M3)) (.num (Int.negSucc M0)))) (.num (Int.negSucc M0))))), (M44, (.f2 M104 (.v M0) (.f2 M1000 (.f2 M100 (.v M3) (.f2 M1000 (.f1 M5 (.v M3)) (.num (Int.negSucc M0)))) (.num (Int.negSucc M0))))), (M45, (.f2 M105 (.v M0) (.f2 M1000 (.f2 M100 (.v M3) (.f2 M1000 (.f1 M5 (.v M3)) (.num (Int.negSucc M0)))) (.num (Int.negSucc M0))))), (M46, (.f2 M106 (.v M0) (.f2 M1000 (.f2 M100 (.v M3) (.f2 M1000 (.f1 M5 (.v M3)) (.num (Int.negSucc M0)))) (.num (Int.negSucc M0))))), (M47, (.f2 M107 (.v M0) (.f2 M1000 (.f2 M100 (.v M3) (.f2 M1000 (.f1 M5 (.v M3)) (.num (Int.negSucc M0)))) (.num (Int.negSucc M0)))))], [(M49, (.f2 M109 (.v M0) (.f2 M1000 (.f2 M100 (.v M3) (.f2 M1000 (.f1 M5 (.v M3)) (.num (Int.negSucc M0)))) (.num (Int.negSucc M0))))), (M51, (.f2 M111 (.v M0) (.f2 M1000 (.f2 M100 (.v M3) (.f2 M1000 (.f1 M5 (.v M3)) (.num (Int.negSucc M0)))) (.num (Int.negSucc M0))))), (M52, (.f2 M112 (.v M0) (.f2 M1000 (.f2 M100 (.v M3) (.f2 M1000 (.f1 M5 (.v M3)) (.num (Int.negSucc M0)))) (.num (Int.negSucc M0)))))], [(M48, (.f2 M108 (.v M0) (.f2 M1000 (.f2 M100 (.v M3) (.f2 M1000 (.f1 M5 (.v M3)) (.num (Int.negSucc M0)))) (.num (Int.negSucc M0))))), (M50, (.f2 M110 (.v M0) (.f2 M1000 (.f2 M100 (.v M3) (.f2 M1000 (.f1 M5 (.v M3)) (.num (Int.negSucc M0)))) (.num (Int.negSucc M0)))))], [(M0, (.v M0)), (M3, (.f2 M1401 (.v M3) (.f2 M1000 (.f1 M5 (.v M3)) (.num (Int.negSucc M0)))))], []⟩
def oR_gtE : Rn := ⟨[], [], [], [], []⟩
def oR_x : Rn := ⟨[], [], [], [], []⟩
def oR_f : Rn := ⟨[], [], [], [], []⟩
theorem oRun_p : endsAt .nrm [(B002, B000), (B003, B001), (B004, B002)] oR_p.nms oS1 (runL Tryz.prog (envR oF) (tblO oF) M60 (cutL 2 oBody) oS0.frame oS0.hp) = true := by kernel_rfl
theorem oRun_rN : endsAt .nrm [(B000, B000), (B001, B001), (B002, B002), (B007, B003)] oR_rN.nms oSH (aev Tryz.prog (envR (oF ++ oFN)) (tblO (oF ++ oFN)) M60 oRr oS1.frame oS1.hp) = true := by kernel_rfl
theorem oRun_rE : endsAt .nrm [(B001, B000)] oR_rE.nms oSH0 (aev Tryz.prog (envR (oF ++ oFE)) (tblO (oF ++ oFE)) M60 oRr oS1.frame oS1.hp) = true := by kernel_rfl
theorem oRun_eq : endsAt .ret [(B001, B000)] oR_eq.nms oSE (aev Tryz.prog (envR (oF ++ (oHD ++ oCeq))) (tblO (oF ++ (oHD ++ oCeq))) M60 oB oSH.frame oSH.hp) = true := by kernel_rfl
theorem oRun_ltN : endsAt .nrm [(B000, B000), (B001, B001), (B002, B002), (B006, B003)] oR_ltN.nms oSH (aev Tryz.prog (envR (oF ++ (oFN ++ (oHD ++ oClt)))) (tblO (oF ++ (oFN ++ (oHD ++ oClt)))) M60 oB oSH.frame oSH.hp) = true := by kernel_rfl
theorem oRun_ltE : endsAt .nrm [(B001, B000)] oR_ltE.nms oSH0 (aev Tryz.prog (envR (oF ++ (oFE ++ (oHD ++ oClt)))) (tblO (oF ++ (oFE ++ (oHD ++ oClt)))) M60 oB oSH.frame oSH.hp) = true := by kernel_rfl
theorem oRun_gtN : endsAt .nrm [(B000, B000), (B001, B001), (B002, B002), (B006, B003)] oR_gtN.nms oSH (aev Tryz.prog (envR (oF ++ (oFN ++ (oHD ++ oCgt)))) (tblO (oF ++ (oFN ++ (oHD ++ oCgt)))) M60 oB oSH.frame oSH.hp) = true := by kernel_rfl
theorem oRun_gtE : endsAt .nrm [(B001, B000)] oR_gtE.nms oSH0 (aev Tryz.prog (envR (oF ++ (oFE ++ (oHD ++ oCgt)))) (tblO (oF ++ (oFE ++ (oHD ++ oCgt)))) M60 oB oSH.frame oSH.hp) = true := by kernel_rfl
theorem oRun_x : endsAt (.ex M0) [(B000, B000)] oR_x.nms oSX (aev Tryz.prog (envR oF) (tblO oF) M60 oB oSH0.frame oSH0.hp) = true := by kernel_rfl
theorem oRun_f : endsAt .ret [(B000, B000)] oR_f.nms oSF (aev Tryz.prog (envR oF) (tblO oF) M60 oRe oSX.frame oSX.hp) = true := by kernel_rfl
section
variable {w0 : World} {N : Nat} {g : Nm → Value} {z : Nat → Option Obj} {Y : List (List DV)} {s : Int} {ns : List Int} {b : Nat → MV} {j : Nat}
structure OI (Y : List (List DV)) (s : Int) (b : Nat → MV) : Prop where
  y : (b 0).d = Y
  d0 : 0 ≤ (b 1).i
  d1 : (b 1).i ≤ Y.length
  sv : (b 4).i = s
structure ON (Y : List (List DV)) (s : Int) (ns : List Int) (j : Nat) (b : Nat → MV) : Prop extends OI Y s b where
  q : (b 3).d = nsD (ns.take j)
  jl : j ≤ ns.length
  e : lastIx Y s ns.reverse = lastIx Y s (ns.take j).reverse
def rowB (b : Nat → MV) : List DV := [.i (b 40).i, .i (b 41).i, .i (b 42).i, .i (b 43).i, .i (b 44).i, .i (b 45).i, .i (b 46).i, .i (b 47).i, .b (b 48).b, .s (b 49).s, .b (b 50).b, .s (b 51).s, .s (b 52).s]
structure OH (Y : List (List DV)) (s : Int) (ns : List Int) (j : Nat) (b : Nat → MV) : Prop extends OI Y s b where
  q : (b 3).d = nsD (ns.take j)
  jl : j < ns.length
  n : ∃ n, ns[j]? = some n ∧ Y[(n - 1).toNat]? = some (rowB b) ∧ lastIx Y s ns.reverse = lastIx Y s (n :: (ns.take j).reverse)
theorem oF_ok (hj : JV Y) (h : OI Y s b) : ∀ f ∈ oF, f.holds QR (vb b g z) := by
  have hl := hj.1
  have h0 := h.y
  have h1 := h.d0
  have h2 := h.d1
  exact facts_cons ⟨Int.natCast_nonneg _, (by show (((b 0).d.length : Nat) : Int) ≤ 4000; rw [h0]; omega)⟩ (facts_cons ⟨h1, (by show (b 1).i ≤ 4000; omega)⟩ (facts_cons ⟨(by show (-4000 : Int) ≤ (b 1).i - (((b 0).d.length : Nat) : Int); rw [h0]; omega), (by show (b 1).i - (((b 0).d.length : Nat) : Int) ≤ 0; rw [h0]; omega)⟩ (facts_cons (show JV (b 0).d by rw [h0]; exact hj) facts_nil)))
theorem take_rev {ns : List Int} {j : Nat} {n : Int} (h : ns[j]? = some n) : (ns.take (j + 1)).reverse = n :: (ns.take j).reverse := by
  rw [List.take_add_one, h]; simp
theorem on_pn (h : ON Y s ns (j + 1) b) : ∃ n, ns[j]? = some n ∧ (vb b g z).i (.f2 100 (.v 3) (.f2 1000 (.f1 5 (.v 3)) (.num (-1)))) = n ∧ (vb b g z).i (.f2 1000 (.f2 100 (.v 3) (.f2 1000 (.f1 5 (.v 3)) (.num (-1)))) (.num (-1))) = n - 1 := by
  have hj := h.jl
  obtain ⟨n, hn⟩ := list_cases (d := ns) (i := j) (by omega)
  have hl : (b 3).d.length = j + 1 := by rw [h.q]; unfold nsD; rw [List.length_map, List.length_take]; omega
  have hy : ((vb b g z).d (.v 3))[j]? = some [DV.i n] := by
    show (b 3).d[j]? = _
    rw [h.q]; unfold nsD; rw [List.getElem?_map, List.getElem?_take_of_lt (by omega), hn]; rfl
  have hi : (vb b g z).i (.f2 1000 (.f1 5 (.v 3)) (.num (-1))) = (j : Int) := by
    show (((b 3).d.length : Nat) : Int) + -1 = _
    rw [hl]; omega
  have e1 : (vb b g z).i (.f2 100 (.v 3) (.f2 1000 (.f1 5 (.v 3)) (.num (-1)))) = n := ci_row hy hi 0 (by decide) rfl
  refine ⟨n, hn, e1, ?_⟩
  rw [(vb_std b g z).ex, e1, (vb_std b g z).num]; rfl
theorem oFN_ok (hp : Pend Y ns) (h : ON Y s ns (j + 1) b) : ∀ f ∈ oFN, f.holds QR (vb b g z) := by
  obtain ⟨n, hn, e1, _⟩ := on_pn (g := g) (z := z) h
  have hm := List.mem_of_getElem? hn
  have h1 := hp.lo n hm
  have h2 := hp.hi n hm
  have h3 := hp.jv.1
  have h4 := hp.len
  have hj := h.jl
  have h0 := h.y
  have hl : (b 3).d.length = j + 1 := by rw [h.q]; unfold nsD; rw [List.length_map, List.length_take]; omega
  exact facts_cons ⟨(by show (1 : Int) ≤ (((b 3).d.length : Nat) : Int); omega), (by show (((b 3).d.length : Nat) : Int) ≤ 4000; omega)⟩ (facts_cons ⟨(by show (1 : Int) ≤ (vb b g z).i (.f2 100 (.v 3) (.f2 1000 (.f1 5 (.v 3)) (.num (-1)))); rw [e1]; exact h1), (by show (vb b g z).i (.f2 100 (.v 3) (.f2 1000 (.f1 5 (.v 3)) (.num (-1)))) ≤ 4000; rw [e1]; omega)⟩
    (facts_cons ⟨(by show (-4000 : Int) ≤ (vb b g z).i (.f2 100 (.v 3) (.f2 1000 (.f1 5 (.v 3)) (.num (-1)))) - (((b 0).d.length : Nat) : Int); rw [e1, h0]; omega), (by show (vb b g z).i (.f2 100 (.v 3) (.f2 1000 (.f1 5 (.v 3)) (.num (-1)))) - (((b 0).d.length : Nat) : Int) ≤ 0; rw [e1, h0]; omega)⟩ facts_nil))
theorem oFE_ok (h : ON Y s ns 0 b) : ∀ f ∈ oFE, f.holds QR (vb b g z) := by
  have hl : (b 3).d.length = 0 := by rw [h.q]; rfl
  exact facts_cons ⟨(by show (0 : Int) ≤ (((b 3).d.length : Nat) : Int); omega), (by show (((b 3).d.length : Nat) : Int) ≤ 0; omega)⟩ facts_nil
theorem on_next (hp : Pend Y ns) (h : ON Y s ns (j + 1) b) : OH Y s ns j (nb b oR_rN) := by
  obtain ⟨n, hn, e1, e2⟩ := on_pn (g := fun _ => .bool false) (z := fun _ => none) h
  have hm := List.mem_of_getElem? hn
  have h1 := hp.lo n hm
  have h2 := hp.hi n hm
  have hj := h.jl
  obtain ⟨i, hi⟩ := Int.eq_ofNat_of_zero_le (a := n - 1) (by omega)
  obtain ⟨row, hrow⟩ := list_cases (d := Y) (i := i) (by omega)
  obtain ⟨kind, tx, ptx, pp, ref, pg, sl, bs, bd, az, ad, rfl, _⟩ := hp.jv.2 i row hrow
  have hy : ((vb b (fun _ => .bool false) (fun _ => none)).d (.v 0))[i]? = some _ := (congrArg (fun x : List (List DV) => x[i]?) h.y).trans hrow
  have hx := e2.trans hi
  have hl : (b 3).d.length = j + 1 := by rw [h.q]; unfold nsD; rw [List.length_map, List.length_take]; omega
  refine ⟨⟨h.y, h.d0, h.d1, h.sv⟩, ?_, by omega, n, hn, ?_, ?_⟩
  · show ((b 3).d).take ((((b 3).d.length : Nat) : Int) + -1).toNat = _
    rw [hl, show (((j + 1 : Nat) : Int) + -1).toNat = j by omega, h.q]
    unfold nsD
    rw [← List.map_take, List.take_take, Nat.min_eq_left (by omega)]
  · rw [hi, Int.toNat_natCast, hrow]
    unfold rowB enR
    rw [show (nb b oR_rN 40).i = (i : Int) + 1 from ci_row hy hx 0 (by decide) rfl, show (nb b oR_rN 41).i = kind from ci_row hy hx 1 (by decide) rfl, show (nb b oR_rN 42).i = tx from ci_row hy hx 2 (by decide) rfl, show (nb b oR_rN 43).i = ptx from ci_row hy hx 3 (by decide) rfl,
      show (nb b oR_rN 44).i = pp from ci_row hy hx 4 (by decide) rfl, show (nb b oR_rN 45).i = ref from ci_row hy hx 5 (by decide) rfl, show (nb b oR_rN 46).i = pg from ci_row hy hx 6 (by decide) rfl, show (nb b oR_rN 47).i = sl from ci_row hy hx 7 (by decide) rfl,
      show (nb b oR_rN 48).b = bs from cb_row hy hx 8 (by decide) rfl, show (nb b oR_rN 49).s = bd from cs_row hy hx 9 (by decide) rfl, show (nb b oR_rN 50).b = az from cb_row hy hx 10 (by decide) rfl, show (nb b oR_rN 51).s = ad from cs_row hy hx 11 (by decide) rfl, show (nb b oR_rN 52).s = ⟨#[]⟩ from cs_row hy hx 12 (by decide) rfl]
  · rw [h.e, take_rev hn]
def OAt (Y : List (List DV)) (s : Int) (ns : List Int) (w0 : World) (N : Nat) (g : Nm → Value) (z : Nat → Option Obj) (x : Option Nat) (a : Act) (w : World) : Prop := match x with
  | some j => ∃ b, OH Y s ns j b ∧ At w0 N (vb b g z) oSH a w
  | none => ∃ b, OI Y s b ∧ lastIx Y s ns.reverse = none ∧ At w0 N (vb b g z) oSH0 a w
def oM (x : Option Nat) : Nat := match x with
  | some j => j + 1
  | none => 0
theorem on_none (h : ON Y s ns 0 b) : lastIx Y s ns.reverse = none := by rw [h.e]; rfl
def OEnd (Y : List (List DV)) (s : Int) (ns : List Int) (w0 : World) (N : Nat) (g : Nm → Value) (z : Nat → Option Obj) (a : Act) (w : World) : Prop :=
  (∃ b n, lastIx Y s ns.reverse = some (n - 1) ∧ Y[(n - 1).toNat]? = some (rowB b) ∧ At w0 N (vb b g z) oSE a w) ∨ (∃ b, OI Y s b ∧ lastIx Y s ns.reverse = none ∧ At w0 N (vb b g z) oSX a w)
theorem slot_row {n : Int} (h : Y[(n - 1).toNat]? = some (rowB b)) : slotD Y n = (b 47).i := by
  unfold slotD cellD
  rw [h]; rfl
theorem page_row {n : Int} (h : Y[(n - 1).toNat]? = some (rowB b)) (hp : cellD Y (n - 1) 6 = some (.i 0)) : (b 46).i = 0 := by
  unfold cellD at hp
  rw [h] at hp
  have h2 : some (DV.i (b 46).i) = some (.i 0) := hp
  injection h2 with h3
  injection h3
theorem o_round (hp : Pend Y ns) (hs : ∀ n ∈ ns, -3000 ≤ slotD Y n - s ∧ slotD Y n - s ≤ 3000) (x : Option Nat) : Tri Tryz.prog N oB (OAt Y s ns w0 N g z x) fun e a w => (e = .normal ∧ ∃ y, oM y < oM x ∧ OAt Y s ns w0 N g z y a w) ∨ (e ≠ .normal ∧ ((e = .ret ∧ ∃ b n, lastIx Y s ns.reverse = some (n - 1) ∧ Y[(n - 1).toNat]? = some (rowB b) ∧ At w0 N (vb b g z) oSE a w) ∨ (e = .exit 0 ∧ ∃ b, OI Y s b ∧ lastIx Y s ns.reverse = none ∧ At w0 N (vb b g z) oSX a w))) := by
  cases x with
  | none =>
    refine Tri.ex fun b => Tri.imp fun hb => Tri.imp fun hn => ?_
    exact (Tri.run (codeO _ _) (envR_ok (oF_ok hp.jv hb)) oRun_x (ren_nb (by decide))).post fun e a w hq => .inr ⟨by rw [hq.1]; exact fun h => (nomatch h), .inr ⟨hq.1, _, ⟨hb.y, hb.d0, hb.d1, hb.sv⟩, hn, hq.2⟩⟩
  | some j =>
    refine Tri.ex fun b => Tri.imp fun hb => ?_
    obtain ⟨n, hn, hrow, hl⟩ := hb.n
    have hm := List.mem_of_getElem? hn
    have hpg := page_row hrow (hp.pg n hm)
    have hsl := slot_row hrow
    have hrg := hs n hm
    have hbs := hb.sv
    rw [hsl] at hrg
    have hd : ∀ f ∈ oHD, f.holds QR (vb b g z) := facts_cons ⟨(by show (0 : Int) ≤ (b 46).i; omega), (by show (b 46).i ≤ 0; omega)⟩ facts_nil
    have base := oF_ok (g := g) (z := z) hp.jv hb.toOI
    have hj := hb.jl
    rcases Int.lt_trichotomy (b 47).i s with hc | hc | hc
    · have on : ON Y s ns j b := ⟨hb.toOI, hb.q, by omega, by rw [hl]; show (if slotD Y n = s then _ else _) = _; rw [if_neg (by omega)]⟩
      have fc : ∀ f ∈ oClt, f.holds QR (vb b g z) := facts_cons ⟨(by show (-4000 : Int) ≤ (b 47).i - (b 4).i; omega), (by show (b 47).i - (b 4).i ≤ -1; omega)⟩ facts_nil
      cases j with
      | zero => exact (Tri.run (codeO _ _) (envR_ok (facts_app base (facts_app (oFE_ok on) (facts_app hd fc)))) oRun_ltE (ren_nb (by decide))).post fun e a w hq => .inl ⟨hq.1, none, (by show (0 : Nat) < 0 + 1; decide), _, ⟨hb.y, hb.d0, hb.d1, hb.sv⟩, on_none on, hq.2⟩
      | succ j => exact (Tri.run (codeO _ _) (envR_ok (facts_app base (facts_app (oFN_ok hp on) (facts_app hd fc)))) oRun_ltN (ren_nb (by decide))).post fun e a w hq => .inl ⟨hq.1, some j, (by show j + 1 < j + 1 + 1; omega), _, on_next hp on, hq.2⟩
    · have fc : ∀ f ∈ oCeq, f.holds QR (vb b g z) := facts_cons ⟨(by show (0 : Int) ≤ (b 47).i - (b 4).i; omega), (by show (b 47).i - (b 4).i ≤ 0; omega)⟩ facts_nil
      refine (Tri.run (codeO _ _) (envR_ok (facts_app base (facts_app hd fc))) oRun_eq (ren_nb (by decide))).post fun e a w hq => .inr ⟨by rw [hq.1]; exact fun h => (nomatch h), .inl ⟨hq.1, nb b oR_eq, n, ?_, hrow, hq.2⟩⟩
      rw [hl]
      show (if slotD Y n = s then some (n - 1) else _) = _
      rw [if_pos (by omega)]
    · have on : ON Y s ns j b := ⟨hb.toOI, hb.q, by omega, by rw [hl]; show (if slotD Y n = s then _ else _) = _; rw [if_neg (by omega)]⟩
      have fc : ∀ f ∈ oCgt, f.holds QR (vb b g z) := facts_cons ⟨(by show (1 : Int) ≤ (b 47).i - (b 4).i; omega), (by show (b 47).i - (b 4).i ≤ 4000; omega)⟩ facts_nil
      cases j with
      | zero => exact (Tri.run (codeO _ _) (envR_ok (facts_app base (facts_app (oFE_ok on) (facts_app hd fc)))) oRun_gtE (ren_nb (by decide))).post fun e a w hq => .inl ⟨hq.1, none, (by show (0 : Nat) < 0 + 1; decide), _, ⟨hb.y, hb.d0, hb.d1, hb.sv⟩, on_none on, hq.2⟩
      | succ j => exact (Tri.run (codeO _ _) (envR_ok (facts_app base (facts_app (oFN_ok hp on) (facts_app hd fc)))) oRun_gtN (ren_nb (by decide))).post fun e a w hq => .inl ⟨hq.1, some j, (by show j + 1 < j + 1 + 1; omega), _, on_next hp on, hq.2⟩
theorem of_tri (hp : Pend Y ns) (hs : ∀ n ∈ ns, -3000 ≤ slotD Y n - s ∧ slotD Y n - s ≤ 3000) (h : ON Y s ns ns.length b) : Tri Tryz.prog N oBody (At w0 N (vb b g z) oS0) fun e a w => e = .ret ∧ ((∃ b n, lastIx Y s ns.reverse = some (n - 1) ∧ Y[(n - 1).toNat]? = some (rowB b) ∧ At w0 N (vb b g z) oSE a w) ∨ (∃ b, lastIx Y s ns.reverse = none ∧ At w0 N (vb b g z) oSF a w)) := by
  have base := oF_ok (g := g) (z := z) hp.jv h.toOI
  refine Tri.pre_run (codeO _ _) (envR_ok base) oCut oRun_p (ren_nb (by decide)) ?_
  have h' : ON Y s ns ns.length (nb b oR_p) := ⟨⟨h.y, h.d0, h.d1, h.sv⟩, h.q, h.jl, h.e⟩
  have base' := oF_ok (g := g) (z := z) hp.jv h'.toOI
  rw [oX_eq]
  refine Tri.seq (Mid := fun a w => ∃ b, OI Y s b ∧ lastIx Y s ns.reverse = none ∧ At w0 N (vb b g z) oSX a w) ?_ ?_
  · refine Tri.seq (Mid := fun a w => ∃ x, OAt Y s ns w0 N g z x a w) ?_ ?_
    · generalize hnl : ns.length = m at h'
      cases m with
      | zero => exact (Tri.run (codeO _ _) (envR_ok (facts_app base' (oFE_ok h'))) oRun_rE (ren_nb (by decide))).post fun e a w hq => .inl ⟨hq.1, none, _, ⟨h'.y, h'.d0, h'.d1, h'.sv⟩, on_none h', hq.2⟩
      | succ m => exact (Tri.run (codeO _ _) (envR_ok (facts_app base' (oFN_ok hp h'))) oRun_rN (ren_nb (by decide))).post fun e a w hq => .inl ⟨hq.1, some m, _, on_next hp h', hq.2⟩
    · refine (Tri.block (Post := fun e a w => (e = .normal ∧ ∃ b, OI Y s b ∧ lastIx Y s ns.reverse = none ∧ At w0 N (vb b g z) oSX a w) ∨ (e = .ret ∧ ∃ b n, lastIx Y s ns.reverse = some (n - 1) ∧ Y[(n - 1).toNat]? = some (rowB b) ∧ At w0 N (vb b g z) oSE a w)) ?_).post fun e a w hq => ?_
      · refine (Tri.loop oM (OAt Y s ns w0 N g z) fun x => o_round hp hs x).post fun e a w hq => ?_
        rcases hq with ⟨h1, h2⟩ | ⟨h1, h2⟩
        · exact .inr ⟨by rw [h1]; exact fun h => (nomatch h), by rw [h1]; exact fun h => (nomatch h), .inr ⟨h1, h2⟩⟩
        · exact .inl ⟨.inr h1, .inl ⟨rfl, h2⟩⟩
      · rcases hq with ⟨h1, h2⟩ | ⟨h1, h2⟩
        · exact .inl ⟨h1, h2⟩
        · exact .inr ⟨by rw [h1]; exact fun h => (nomatch h), h1, .inl h2⟩
  · refine Tri.ex fun b' => Tri.imp fun hb' => Tri.imp fun hn => ?_
    exact (Tri.run (codeO _ _) (envR_ok (oF_ok hp.jv hb')) oRun_f (ren_nb (by decide))).post fun e a w hq => ⟨hq.1, .inr ⟨_, hn, hq.2⟩⟩
end
end Go.Proofs.YtnofmmceafkkoaaGreat
