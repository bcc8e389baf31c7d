/-
  page.Encode of a page whose cells are only named: no error (printed by a program).
-/
import Derived.Test.YtnofmmceafkkoaaGreatSt
import Derived.Test.YtnofmmceafkkoaaGreatRcC
import Derived.Test.YtnofmmceafkkoaaGreatMB0
set_option linter.unusedSimpArgs false
set_option linter.unusedVariables false
set_option maxRecDepth 100000
namespace Go.Proofs.YtnofmmceafkkoaaGreat
open Go.RowKit
noncomputable def tblN (F : List Fc) : Tab := tabOf [(B097, .nat (natCs F)), (B0a0, .nat (natPutS F)), (B0a2, .nat (natRepS F)), (B0a3, .nat (natSumS F)), (B096, c150), (B0a1, c161), (B0c2, c194)]
theorem tblN_ok (F : List Fc) : TabOk Tryz.prog (envR F) (tblN F) := tab_cons (tab_cons (tab_cons (tab_cons (tab_cons (tab_cons (tab_cons tab_nil e194) e161) e150) (nat_ok (fun args w => enter_run Tryz.func163 (by kernel_rfl) rfl args w) (natSumS_ok F))) (nat_ok (fun args w => enter_run Tryz.func162 (by kernel_rfl) rfl args w) (natRepS_ok F))) (nat_ok (fun args w => enter_run Tryz.func160 (by kernel_rfl) rfl args w) (natPutS_ok F))) (nat_ok (fun args w => enter_run Tryz.func151 (by kernel_rfl) rfl args w) (natCs_ok F))
theorem codeN (F : List Fc) (n : Nat) : CodeOk Tryz.prog (envR F) (tblN F) n := code_ok (tblN_ok F) (draw_ok mixedR) n
def nS0 : Lit := ⟨[(.x0, .x0, (.a [.si .i64 (.v M1), .si .i64 (.v M2), .sb (.v M10), .ss (.v M11), .sb (.v M12), .ss (.v M13), .sb (.v M14), .ss (.v M15), .sb (.v M16), .ss (.v M17), .sb (.v M18), .ss (.v M19), .sb (.v M20), .ss (.v M21), .sb (.v M22), .ss (.v M23), .sb (.v M24), .ss (.v M25), .sb (.v M26), .ss (.v M27), .sb (.v M28), .ss (.v M29), .sb (.v M30), .ss (.v M31), .sb (.v M32), .ss (.v M33), .sb (.v M34), .ss (.v M35), .sb (.v M36), .ss (.v M37), .sb (.v M38), .ss (.v M39), .sb (.v M40), .ss (.v M41)]))], [], B000⟩
def nS1 : Lit := ⟨[(.x0, .x1, (.c (.p B000 M0))), (.x0, .x4, (.c (.p B001 M0))), (.x0, .x5, (.c (.fn B0a1 [(B001, M0)] [])))], [(B000, (.cells [.si .i64 (.v M1), .si .i64 (.v M2), .sb (.v M10), .ss (.v M11), .sb (.v M12), .ss (.v M13), .sb (.v M14), .ss (.v M15), .sb (.v M16), .ss (.v M17), .sb (.v M18), .ss (.v M19), .sb (.v M20), .ss (.v M21), .sb (.v M22), .ss (.v M23), .sb (.v M24), .ss (.v M25), .sb (.v M26), .ss (.v M27), .sb (.v M28), .ss (.v M29), .sb (.v M30), .ss (.v M31), .sb (.v M32), .ss (.v M33), .sb (.v M34), .ss (.v M35), .sb (.v M36), .ss (.v M37), .sb (.v M38), .ss (.v M39), .sb (.v M40), .ss (.v M41)])), (B001, (.cells [.ss (.v M0)]))], B002⟩
def nH (i : Int) : Lit := ⟨[(.x0, .x1, (.c (.p B000 M0))), (.x0, .x4, (.c (.p B001 M0))), (.x0, .x5, (.c (.fn B0a1 [(B001, M0)] []))), (.x1, .xc, (.a [.sb (.v M10), .ss (.v M11), .sb (.v M12), .ss (.v M13), .sb (.v M14), .ss (.v M15), .sb (.v M16), .ss (.v M17), .sb (.v M18), .ss (.v M19), .sb (.v M20), .ss (.v M21), .sb (.v M22), .ss (.v M23), .sb (.v M24), .ss (.v M25), .sb (.v M26), .ss (.v M27), .sb (.v M28), .ss (.v M29), .sb (.v M30), .ss (.v M31), .sb (.v M32), .ss (.v M33), .sb (.v M34), .ss (.v M35), .sb (.v M36), .ss (.v M37), .sb (.v M38), .ss (.v M39), .sb (.v M40), .ss (.v M41)])), (.x1, .xd, (.c (.i .i64 i)))], [(B000, (.cells [.si .i64 (.v M1), .si .i64 (.v M2), .sb (.v M10), .ss (.v M11), .sb (.v M12), .ss (.v M13), .sb (.v M14), .ss (.v M15), .sb (.v M16), .ss (.v M17), .sb (.v M18), .ss (.v M19), .sb (.v M20), .ss (.v M21), .sb (.v M22), .ss (.v M23), .sb (.v M24), .ss (.v M25), .sb (.v M26), .ss (.v M27), .sb (.v M28), .ss (.v M29), .sb (.v M30), .ss (.v M31), .sb (.v M32), .ss (.v M33), .sb (.v M34), .ss (.v M35), .sb (.v M36), .ss (.v M37), .sb (.v M38), .ss (.v M39), .sb (.v M40), .ss (.v M41)])), (B001, (.cells [.ss (.v M0)]))], B002⟩
def nFb : List Fc := [.rng (.v M1) J0 J63, .rng (.v M2) J1 J1099511627776, .pr M2 [(.v M10), (.v M11)], .pr M2 [(.v M12), (.v M13)], .pr M2 [(.v M14), (.v M15)], .pr M2 [(.v M16), (.v M17)], .pr M2 [(.v M18), (.v M19)], .pr M2 [(.v M20), (.v M21)], .pr M2 [(.v M22), (.v M23)], .pr M2 [(.v M24), (.v M25)], .pr M2 [(.v M26), (.v M27)], .pr M2 [(.v M28), (.v M29)], .pr M2 [(.v M30), (.v M31)], .pr M2 [(.v M32), (.v M33)], .pr M2 [(.v M34), (.v M35)], .pr M2 [(.v M36), (.v M37)], .pr M2 [(.v M38), (.v M39)], .pr M2 [(.v M40), (.v M41)]]
def nFp : List Fc := nFb ++ [.rng (.f1 M6 (.f2 M2001 (.lit []) (.f2 M2002 (.v M2) (.num J8)))) J8 J8, .rng (.f1 M6 (.f2 M2001 (.f2 M2001 (.lit []) (.f2 M2002 (.v M2) (.num J8))) (.f2 M2002 (.v M1) (.num J4)))) J12 J12]
def nR1 : Rn := ⟨[(M1, (.v M1)), (M2, (.v M2))], [(M0, (.f2 M2001 (.f2 M2001 (.lit []) (.f2 M2002 (.v M2) (.num J8))) (.f2 M2002 (.v M1) (.num J4)))), (M11, (.v M11)), (M13, (.v M13)), (M15, (.v M15)), (M17, (.v M17)), (M19, (.v M19)), (M21, (.v M21)), (M23, (.v M23)), (M25, (.v M25)), (M27, (.v M27)), (M29, (.v M29)), (M31, (.v M31)), (M33, (.v M33)), (M35, (.v M35)), (M37, (.v M37)), (M39, (.v M39)), (M41, (.v M41))], [(M10, (.v M10)), (M12, (.v M12)), (M14, (.v M14)), (M16, (.v M16)), (M18, (.v M18)), (M20, (.v M20)), (M22, (.v M22)), (M24, (.v M24)), (M26, (.v M26)), (M28, (.v M28)), (M30, (.v M30)), (M32, (.v M32)), (M34, (.v M34)), (M36, (.v M36)), (M38, (.v M38)), (M40, (.v M40))], [], []⟩
def nBody : ACd := bodyA c110
def nRes : List AR := resA c110
def nX : ACd := cutR 4 nBody
def nRi : ACd := fstA (fstA nX)
def nB : ACd := innA (innA (sndA (fstA nX)))
def nRe : ACd := sndA nX
theorem nX_eq : nX = .seq (.seq nRi (.block M1 (.loop nB))) nRe := by kernel_rfl
theorem nCut : cutA 4 nBody = some (cutL 4 nBody, nX) := by kernel_rfl
theorem nRun1 : endsAt .nrm [(B000, B000), (B002, B001)] nR1.nms nS1 (runL Tryz.prog (envR nFp) (tblN nFp) M60 (cutL 4 nBody) nS0.frame nS0.hp) = true := by kernel_rfl
def nR2 : Rn := ⟨[(M1, (.v M1)), (M2, (.v M2))], [(M0, (.v M0)), (M11, (.v M11)), (M13, (.v M13)), (M15, (.v M15)), (M17, (.v M17)), (M19, (.v M19)), (M21, (.v M21)), (M23, (.v M23)), (M25, (.v M25)), (M27, (.v M27)), (M29, (.v M29)), (M31, (.v M31)), (M33, (.v M33)), (M35, (.v M35)), (M37, (.v M37)), (M39, (.v M39)), (M41, (.v M41))], [(M10, (.v M10)), (M12, (.v M12)), (M14, (.v M14)), (M16, (.v M16)), (M18, (.v M18)), (M20, (.v M20)), (M22, (.v M22)), (M24, (.v M24)), (M26, (.v M26)), (M28, (.v M28)), (M30, (.v M30)), (M32, (.v M32)), (M34, (.v M34)), (M36, (.v M36)), (M38, (.v M38)), (M40, (.v M40))], [], []⟩
theorem nRun2 : endsAt .nrm [(B000, B000), (B001, B001)] nR2.nms (nH (.ofNat M0)) (aev Tryz.prog (envR nFb) (tblN nFb) M60 nRi nS1.frame nS1.hp) = true := by kernel_rfl
def nGT (s : Nm) (n : Nat) : List Fc := [.rng (.f1 M6 (.v M0)) (.ofNat n) (.ofNat n), .rng (.f1 M6 s) (.ofNat M0) (.ofNat M12), .rng (.f2 M1 (.num (.ofNat M12)) (.f1 M6 s)) (.ofNat M0) (.ofNat M12),
  .rng (.f1 M6 (.f2 M2001 (.v M0) (.f2 M2002 (.f1 M6 s) (.num (.ofNat M1))))) (.ofNat (n + 1)) (.ofNat (n + 1)), .rng (.f1 M6 (.f2 M1430 (.f2 M2001 (.v M0) (.f2 M2002 (.f1 M6 s) (.num (.ofNat M1)))) s)) (.ofNat (n + 1)) (.ofNat (n + 13)),
  .rng (.f1 M6 (.f1 M2003 (.f2 M1 (.num (.ofNat M12)) (.f1 M6 s)))) (.ofNat M0) (.ofNat M12)]
def nGF (s : Nm) (n : Nat) : List Fc := [.rng (.f1 M6 (.v M0)) (.ofNat n) (.ofNat n), .rng (.f1 M6 s) (.ofNat M0) (.ofNat M0),
  .rng (.f1 M6 (.f2 M2001 (.v M0) (.f2 M2002 (.num (.ofNat M255)) (.num (.ofNat M1))))) (.ofNat (n + 1)) (.ofNat (n + 1)), .rng (.f1 M6 (.f2 M1430 (.f2 M2001 (.v M0) (.f2 M2002 (.num (.ofNat M255)) (.num (.ofNat M1)))) s)) (.ofNat (n + 1)) (.ofNat (n + 1)),
  .rng (.f1 M6 (.f1 M2003 (.num (.ofNat M12)))) (.ofNat M12) (.ofNat M12)]
def nR0t : Rn := ⟨[(M1, (.v M1)), (M2, (.v M2))], [(M0, (.f2 M1430 (.f2 M1430 (.f2 M2001 (.v M0) (.f2 M2002 (.f1 M6 (.v M11)) (.num J1))) (.v M11)) (.f1 M2003 (.f2 M1 (.num J12) (.f1 M6 (.v M11)))))), (M11, (.v M11)), (M13, (.v M13)), (M15, (.v M15)), (M17, (.v M17)), (M19, (.v M19)), (M21, (.v M21)), (M23, (.v M23)), (M25, (.v M25)), (M27, (.v M27)), (M29, (.v M29)), (M31, (.v M31)), (M33, (.v M33)), (M35, (.v M35)), (M37, (.v M37)), (M39, (.v M39)), (M41, (.v M41))], [(M10, (.f1 M9 (.num J1))), (M12, (.v M12)), (M14, (.v M14)), (M16, (.v M16)), (M18, (.v M18)), (M20, (.v M20)), (M22, (.v M22)), (M24, (.v M24)), (M26, (.v M26)), (M28, (.v M28)), (M30, (.v M30)), (M32, (.v M32)), (M34, (.v M34)), (M36, (.v M36)), (M38, (.v M38)), (M40, (.v M40))], [], []⟩
theorem nRun0t : endsAt .nrm [(B000, B000), (B001, B001)] nR0t.nms (nH (.ofNat M1)) (aev Tryz.prog (envR (nGT (.v M11) M12)) (tblN (nGT (.v M11) M12)) M60 nB ((nH (.ofNat M0)).map (subB (.v M10) true)).frame ((nH (.ofNat M0)).map (subB (.v M10) true)).hp) = true := by kernel_rfl
def nR0f : Rn := ⟨[(M1, (.v M1)), (M2, (.v M2))], [(M0, (.f2 M1430 (.f2 M1430 (.f2 M2001 (.v M0) (.f2 M2002 (.num J255) (.num J1))) (.v M11)) (.f1 M2003 (.num J12)))), (M11, (.v M11)), (M13, (.v M13)), (M15, (.v M15)), (M17, (.v M17)), (M19, (.v M19)), (M21, (.v M21)), (M23, (.v M23)), (M25, (.v M25)), (M27, (.v M27)), (M29, (.v M29)), (M31, (.v M31)), (M33, (.v M33)), (M35, (.v M35)), (M37, (.v M37)), (M39, (.v M39)), (M41, (.v M41))], [(M10, (.f1 M9 (.num J0))), (M12, (.v M12)), (M14, (.v M14)), (M16, (.v M16)), (M18, (.v M18)), (M20, (.v M20)), (M22, (.v M22)), (M24, (.v M24)), (M26, (.v M26)), (M28, (.v M28)), (M30, (.v M30)), (M32, (.v M32)), (M34, (.v M34)), (M36, (.v M36)), (M38, (.v M38)), (M40, (.v M40))], [], []⟩
theorem nRun0f : endsAt .nrm [(B000, B000), (B001, B001)] nR0f.nms (nH (.ofNat M1)) (aev Tryz.prog (envR (nGF (.v M11) M12)) (tblN (nGF (.v M11) M12)) M60 nB ((nH (.ofNat M0)).map (subB (.v M10) false)).frame ((nH (.ofNat M0)).map (subB (.v M10) false)).hp) = true := by kernel_rfl
def nR1t : Rn := ⟨[(M1, (.v M1)), (M2, (.v M2))], [(M0, (.f2 M1430 (.f2 M1430 (.f2 M2001 (.v M0) (.f2 M2002 (.f1 M6 (.v M13)) (.num J1))) (.v M13)) (.f1 M2003 (.f2 M1 (.num J12) (.f1 M6 (.v M13)))))), (M11, (.v M11)), (M13, (.v M13)), (M15, (.v M15)), (M17, (.v M17)), (M19, (.v M19)), (M21, (.v M21)), (M23, (.v M23)), (M25, (.v M25)), (M27, (.v M27)), (M29, (.v M29)), (M31, (.v M31)), (M33, (.v M33)), (M35, (.v M35)), (M37, (.v M37)), (M39, (.v M39)), (M41, (.v M41))], [(M10, (.v M10)), (M12, (.f1 M9 (.num J1))), (M14, (.v M14)), (M16, (.v M16)), (M18, (.v M18)), (M20, (.v M20)), (M22, (.v M22)), (M24, (.v M24)), (M26, (.v M26)), (M28, (.v M28)), (M30, (.v M30)), (M32, (.v M32)), (M34, (.v M34)), (M36, (.v M36)), (M38, (.v M38)), (M40, (.v M40))], [], []⟩
theorem nRun1t : endsAt .nrm [(B000, B000), (B001, B001)] nR1t.nms (nH (.ofNat M2)) (aev Tryz.prog (envR (nGT (.v M13) M25)) (tblN (nGT (.v M13) M25)) M60 nB ((nH (.ofNat M1)).map (subB (.v M12) true)).frame ((nH (.ofNat M1)).map (subB (.v M12) true)).hp) = true := by kernel_rfl
def nR1f : Rn := ⟨[(M1, (.v M1)), (M2, (.v M2))], [(M0, (.f2 M1430 (.f2 M1430 (.f2 M2001 (.v M0) (.f2 M2002 (.num J255) (.num J1))) (.v M13)) (.f1 M2003 (.num J12)))), (M11, (.v M11)), (M13, (.v M13)), (M15, (.v M15)), (M17, (.v M17)), (M19, (.v M19)), (M21, (.v M21)), (M23, (.v M23)), (M25, (.v M25)), (M27, (.v M27)), (M29, (.v M29)), (M31, (.v M31)), (M33, (.v M33)), (M35, (.v M35)), (M37, (.v M37)), (M39, (.v M39)), (M41, (.v M41))], [(M10, (.v M10)), (M12, (.f1 M9 (.num J0))), (M14, (.v M14)), (M16, (.v M16)), (M18, (.v M18)), (M20, (.v M20)), (M22, (.v M22)), (M24, (.v M24)), (M26, (.v M26)), (M28, (.v M28)), (M30, (.v M30)), (M32, (.v M32)), (M34, (.v M34)), (M36, (.v M36)), (M38, (.v M38)), (M40, (.v M40))], [], []⟩
theorem nRun1f : endsAt .nrm [(B000, B000), (B001, B001)] nR1f.nms (nH (.ofNat M2)) (aev Tryz.prog (envR (nGF (.v M13) M25)) (tblN (nGF (.v M13) M25)) M60 nB ((nH (.ofNat M1)).map (subB (.v M12) false)).frame ((nH (.ofNat M1)).map (subB (.v M12) false)).hp) = true := by kernel_rfl
def nR2t : Rn := ⟨[(M1, (.v M1)), (M2, (.v M2))], [(M0, (.f2 M1430 (.f2 M1430 (.f2 M2001 (.v M0) (.f2 M2002 (.f1 M6 (.v M15)) (.num J1))) (.v M15)) (.f1 M2003 (.f2 M1 (.num J12) (.f1 M6 (.v M15)))))), (M11, (.v M11)), (M13, (.v M13)), (M15, (.v M15)), (M17, (.v M17)), (M19, (.v M19)), (M21, (.v M21)), (M23, (.v M23)), (M25, (.v M25)), (M27, (.v M27)), (M29, (.v M29)), (M31, (.v M31)), (M33, (.v M33)), (M35, (.v M35)), (M37, (.v M37)), (M39, (.v M39)), (M41, (.v M41))], [(M10, (.v M10)), (M12, (.v M12)), (M14, (.f1 M9 (.num J1))), (M16, (.v M16)), (M18, (.v M18)), (M20, (.v M20)), (M22, (.v M22)), (M24, (.v M24)), (M26, (.v M26)), (M28, (.v M28)), (M30, (.v M30)), (M32, (.v M32)), (M34, (.v M34)), (M36, (.v M36)), (M38, (.v M38)), (M40, (.v M40))], [], []⟩
theorem nRun2t : endsAt .nrm [(B000, B000), (B001, B001)] nR2t.nms (nH (.ofNat M3)) (aev Tryz.prog (envR (nGT (.v M15) M38)) (tblN (nGT (.v M15) M38)) M60 nB ((nH (.ofNat M2)).map (subB (.v M14) true)).frame ((nH (.ofNat M2)).map (subB (.v M14) true)).hp) = true := by kernel_rfl
def nR2f : Rn := ⟨[(M1, (.v M1)), (M2, (.v M2))], [(M0, (.f2 M1430 (.f2 M1430 (.f2 M2001 (.v M0) (.f2 M2002 (.num J255) (.num J1))) (.v M15)) (.f1 M2003 (.num J12)))), (M11, (.v M11)), (M13, (.v M13)), (M15, (.v M15)), (M17, (.v M17)), (M19, (.v M19)), (M21, (.v M21)), (M23, (.v M23)), (M25, (.v M25)), (M27, (.v M27)), (M29, (.v M29)), (M31, (.v M31)), (M33, (.v M33)), (M35, (.v M35)), (M37, (.v M37)), (M39, (.v M39)), (M41, (.v M41))], [(M10, (.v M10)), (M12, (.v M12)), (M14, (.f1 M9 (.num J0))), (M16, (.v M16)), (M18, (.v M18)), (M20, (.v M20)), (M22, (.v M22)), (M24, (.v M24)), (M26, (.v M26)), (M28, (.v M28)), (M30, (.v M30)), (M32, (.v M32)), (M34, (.v M34)), (M36, (.v M36)), (M38, (.v M38)), (M40, (.v M40))], [], []⟩
theorem nRun2f : endsAt .nrm [(B000, B000), (B001, B001)] nR2f.nms (nH (.ofNat M3)) (aev Tryz.prog (envR (nGF (.v M15) M38)) (tblN (nGF (.v M15) M38)) M60 nB ((nH (.ofNat M2)).map (subB (.v M14) false)).frame ((nH (.ofNat M2)).map (subB (.v M14) false)).hp) = true := by kernel_rfl
def nR3t : Rn := ⟨[(M1, (.v M1)), (M2, (.v M2))], [(M0, (.f2 M1430 (.f2 M1430 (.f2 M2001 (.v M0) (.f2 M2002 (.f1 M6 (.v M17)) (.num J1))) (.v M17)) (.f1 M2003 (.f2 M1 (.num J12) (.f1 M6 (.v M17)))))), (M11, (.v M11)), (M13, (.v M13)), (M15, (.v M15)), (M17, (.v M17)), (M19, (.v M19)), (M21, (.v M21)), (M23, (.v M23)), (M25, (.v M25)), (M27, (.v M27)), (M29, (.v M29)), (M31, (.v M31)), (M33, (.v M33)), (M35, (.v M35)), (M37, (.v M37)), (M39, (.v M39)), (M41, (.v M41))], [(M10, (.v M10)), (M12, (.v M12)), (M14, (.v M14)), (M16, (.f1 M9 (.num J1))), (M18, (.v M18)), (M20, (.v M20)), (M22, (.v M22)), (M24, (.v M24)), (M26, (.v M26)), (M28, (.v M28)), (M30, (.v M30)), (M32, (.v M32)), (M34, (.v M34)), (M36, (.v M36)), (M38, (.v M38)), (M40, (.v M40))], [], []⟩
theorem nRun3t : endsAt .nrm [(B000, B000), (B001, B001)] nR3t.nms (nH (.ofNat M4)) (aev Tryz.prog (envR (nGT (.v M17) M51)) (tblN (nGT (.v M17) M51)) M60 nB ((nH (.ofNat M3)).map (subB (.v M16) true)).frame ((nH (.ofNat M3)).map (subB (.v M16) true)).hp) = true := by kernel_rfl
def nR3f : Rn := ⟨[(M1, (.v M1)), (M2, (.v M2))], [(M0, (.f2 M1430 (.f2 M1430 (.f2 M2001 (.v M0) (.f2 M2002 (.num J255) (.num J1))) (.v M17)) (.f1 M2003 (.num J12)))), (M11, (.v M11)), (M13, (.v M13)), (M15, (.v M15)), (M17, (.v M17)), (M19, (.v M19)), (M21, (.v M21)), (M23, (.v M23)), (M25, (.v M25)), (M27, (.v M27)), (M29, (.v M29)), (M31, (.v M31)), (M33, (.v M33)), (M35, (.v M35)), (M37, (.v M37)), (M39, (.v M39)), (M41, (.v M41))], [(M10, (.v M10)), (M12, (.v M12)), (M14, (.v M14)), (M16, (.f1 M9 (.num J0))), (M18, (.v M18)), (M20, (.v M20)), (M22, (.v M22)), (M24, (.v M24)), (M26, (.v M26)), (M28, (.v M28)), (M30, (.v M30)), (M32, (.v M32)), (M34, (.v M34)), (M36, (.v M36)), (M38, (.v M38)), (M40, (.v M40))], [], []⟩
theorem nRun3f : endsAt .nrm [(B000, B000), (B001, B001)] nR3f.nms (nH (.ofNat M4)) (aev Tryz.prog (envR (nGF (.v M17) M51)) (tblN (nGF (.v M17) M51)) M60 nB ((nH (.ofNat M3)).map (subB (.v M16) false)).frame ((nH (.ofNat M3)).map (subB (.v M16) false)).hp) = true := by kernel_rfl
def nR4t : Rn := ⟨[(M1, (.v M1)), (M2, (.v M2))], [(M0, (.f2 M1430 (.f2 M1430 (.f2 M2001 (.v M0) (.f2 M2002 (.f1 M6 (.v M19)) (.num J1))) (.v M19)) (.f1 M2003 (.f2 M1 (.num J12) (.f1 M6 (.v M19)))))), (M11, (.v M11)), (M13, (.v M13)), (M15, (.v M15)), (M17, (.v M17)), (M19, (.v M19)), (M21, (.v M21)), (M23, (.v M23)), (M25, (.v M25)), (M27, (.v M27)), (M29, (.v M29)), (M31, (.v M31)), (M33, (.v M33)), (M35, (.v M35)), (M37, (.v M37)), (M39, (.v M39)), (M41, (.v M41))], [(M10, (.v M10)), (M12, (.v M12)), (M14, (.v M14)), (M16, (.v M16)), (M18, (.f1 M9 (.num J1))), (M20, (.v M20)), (M22, (.v M22)), (M24, (.v M24)), (M26, (.v M26)), (M28, (.v M28)), (M30, (.v M30)), (M32, (.v M32)), (M34, (.v M34)), (M36, (.v M36)), (M38, (.v M38)), (M40, (.v M40))], [], []⟩
theorem nRun4t : endsAt .nrm [(B000, B000), (B001, B001)] nR4t.nms (nH (.ofNat M5)) (aev Tryz.prog (envR (nGT (.v M19) M64)) (tblN (nGT (.v M19) M64)) M60 nB ((nH (.ofNat M4)).map (subB (.v M18) true)).frame ((nH (.ofNat M4)).map (subB (.v M18) true)).hp) = true := by kernel_rfl
def nR4f : Rn := ⟨[(M1, (.v M1)), (M2, (.v M2))], [(M0, (.f2 M1430 (.f2 M1430 (.f2 M2001 (.v M0) (.f2 M2002 (.num J255) (.num J1))) (.v M19)) (.f1 M2003 (.num J12)))), (M11, (.v M11)), (M13, (.v M13)), (M15, (.v M15)), (M17, (.v M17)), (M19, (.v M19)), (M21, (.v M21)), (M23, (.v M23)), (M25, (.v M25)), (M27, (.v M27)), (M29, (.v M29)), (M31, (.v M31)), (M33, (.v M33)), (M35, (.v M35)), (M37, (.v M37)), (M39, (.v M39)), (M41, (.v M41))], [(M10, (.v M10)), (M12, (.v M12)), (M14, (.v M14)), (M16, (.v M16)), (M18, (.f1 M9 (.num J0))), (M20, (.v M20)), (M22, (.v M22)), (M24, (.v M24)), (M26, (.v M26)), (M28, (.v M28)), (M30, (.v M30)), (M32, (.v M32)), (M34, (.v M34)), (M36, (.v M36)), (M38, (.v M38)), (M40, (.v M40))], [], []⟩
theorem nRun4f : endsAt .nrm [(B000, B000), (B001, B001)] nR4f.nms (nH (.ofNat M5)) (aev Tryz.prog (envR (nGF (.v M19) M64)) (tblN (nGF (.v M19) M64)) M60 nB ((nH (.ofNat M4)).map (subB (.v M18) false)).frame ((nH (.ofNat M4)).map (subB (.v M18) false)).hp) = true := by kernel_rfl
def nR5t : Rn := ⟨[(M1, (.v M1)), (M2, (.v M2))], [(M0, (.f2 M1430 (.f2 M1430 (.f2 M2001 (.v M0) (.f2 M2002 (.f1 M6 (.v M21)) (.num J1))) (.v M21)) (.f1 M2003 (.f2 M1 (.num J12) (.f1 M6 (.v M21)))))), (M11, (.v M11)), (M13, (.v M13)), (M15, (.v M15)), (M17, (.v M17)), (M19, (.v M19)), (M21, (.v M21)), (M23, (.v M23)), (M25, (.v M25)), (M27, (.v M27)), (M29, (.v M29)), (M31, (.v M31)), (M33, (.v M33)), (M35, (.v M35)), (M37, (.v M37)), (M39, (.v M39)), (M41, (.v M41))], [(M10, (.v M10)), (M12, (.v M12)), (M14, (.v M14)), (M16, (.v M16)), (M18, (.v M18)), (M20, (.f1 M9 (.num J1))), (M22, (.v M22)), (M24, (.v M24)), (M26, (.v M26)), (M28, (.v M28)), (M30, (.v M30)), (M32, (.v M32)), (M34, (.v M34)), (M36, (.v M36)), (M38, (.v M38)), (M40, (.v M40))], [], []⟩
theorem nRun5t : endsAt .nrm [(B000, B000), (B001, B001)] nR5t.nms (nH (.ofNat M6)) (aev Tryz.prog (envR (nGT (.v M21) M77)) (tblN (nGT (.v M21) M77)) M60 nB ((nH (.ofNat M5)).map (subB (.v M20) true)).frame ((nH (.ofNat M5)).map (subB (.v M20) true)).hp) = true := by kernel_rfl
def nR5f : Rn := ⟨[(M1, (.v M1)), (M2, (.v M2))], [(M0, (.f2 M1430 (.f2 M1430 (.f2 M2001 (.v M0) (.f2 M2002 (.num J255) (.num J1))) (.v M21)) (.f1 M2003 (.num J12)))), (M11, (.v M11)), (M13, (.v M13)), (M15, (.v M15)), (M17, (.v M17)), (M19, (.v M19)), (M21, (.v M21)), (M23, (.v M23)), (M25, (.v M25)), (M27, (.v M27)), (M29, (.v M29)), (M31, (.v M31)), (M33, (.v M33)), (M35, (.v M35)), (M37, (.v M37)), (M39, (.v M39)), (M41, (.v M41))], [(M10, (.v M10)), (M12, (.v M12)), (M14, (.v M14)), (M16, (.v M16)), (M18, (.v M18)), (M20, (.f1 M9 (.num J0))), (M22, (.v M22)), (M24, (.v M24)), (M26, (.v M26)), (M28, (.v M28)), (M30, (.v M30)), (M32, (.v M32)), (M34, (.v M34)), (M36, (.v M36)), (M38, (.v M38)), (M40, (.v M40))], [], []⟩
theorem nRun5f : endsAt .nrm [(B000, B000), (B001, B001)] nR5f.nms (nH (.ofNat M6)) (aev Tryz.prog (envR (nGF (.v M21) M77)) (tblN (nGF (.v M21) M77)) M60 nB ((nH (.ofNat M5)).map (subB (.v M20) false)).frame ((nH (.ofNat M5)).map (subB (.v M20) false)).hp) = true := by kernel_rfl
def nR6t : Rn := ⟨[(M1, (.v M1)), (M2, (.v M2))], [(M0, (.f2 M1430 (.f2 M1430 (.f2 M2001 (.v M0) (.f2 M2002 (.f1 M6 (.v M23)) (.num J1))) (.v M23)) (.f1 M2003 (.f2 M1 (.num J12) (.f1 M6 (.v M23)))))), (M11, (.v M11)), (M13, (.v M13)), (M15, (.v M15)), (M17, (.v M17)), (M19, (.v M19)), (M21, (.v M21)), (M23, (.v M23)), (M25, (.v M25)), (M27, (.v M27)), (M29, (.v M29)), (M31, (.v M31)), (M33, (.v M33)), (M35, (.v M35)), (M37, (.v M37)), (M39, (.v M39)), (M41, (.v M41))], [(M10, (.v M10)), (M12, (.v M12)), (M14, (.v M14)), (M16, (.v M16)), (M18, (.v M18)), (M20, (.v M20)), (M22, (.f1 M9 (.num J1))), (M24, (.v M24)), (M26, (.v M26)), (M28, (.v M28)), (M30, (.v M30)), (M32, (.v M32)), (M34, (.v M34)), (M36, (.v M36)), (M38, (.v M38)), (M40, (.v M40))], [], []⟩
theorem nRun6t : endsAt .nrm [(B000, B000), (B001, B001)] nR6t.nms (nH (.ofNat M7)) (aev Tryz.prog (envR (nGT (.v M23) M90)) (tblN (nGT (.v M23) M90)) M60 nB ((nH (.ofNat M6)).map (subB (.v M22) true)).frame ((nH (.ofNat M6)).map (subB (.v M22) true)).hp) = true := by kernel_rfl
def nR6f : Rn := ⟨[(M1, (.v M1)), (M2, (.v M2))], [(M0, (.f2 M1430 (.f2 M1430 (.f2 M2001 (.v M0) (.f2 M2002 (.num J255) (.num J1))) (.v M23)) (.f1 M2003 (.num J12)))), (M11, (.v M11)), (M13, (.v M13)), (M15, (.v M15)), (M17, (.v M17)), (M19, (.v M19)), (M21, (.v M21)), (M23, (.v M23)), (M25, (.v M25)), (M27, (.v M27)), (M29, (.v M29)), (M31, (.v M31)), (M33, (.v M33)), (M35, (.v M35)), (M37, (.v M37)), (M39, (.v M39)), (M41, (.v M41))], [(M10, (.v M10)), (M12, (.v M12)), (M14, (.v M14)), (M16, (.v M16)), (M18, (.v M18)), (M20, (.v M20)), (M22, (.f1 M9 (.num J0))), (M24, (.v M24)), (M26, (.v M26)), (M28, (.v M28)), (M30, (.v M30)), (M32, (.v M32)), (M34, (.v M34)), (M36, (.v M36)), (M38, (.v M38)), (M40, (.v M40))], [], []⟩
theorem nRun6f : endsAt .nrm [(B000, B000), (B001, B001)] nR6f.nms (nH (.ofNat M7)) (aev Tryz.prog (envR (nGF (.v M23) M90)) (tblN (nGF (.v M23) M90)) M60 nB ((nH (.ofNat M6)).map (subB (.v M22) false)).frame ((nH (.ofNat M6)).map (subB (.v M22) false)).hp) = true := by kernel_rfl
def nR7t : Rn := ⟨[(M1, (.v M1)), (M2, (.v M2))], [(M0, (.f2 M1430 (.f2 M1430 (.f2 M2001 (.v M0) (.f2 M2002 (.f1 M6 (.v M25)) (.num J1))) (.v M25)) (.f1 M2003 (.f2 M1 (.num J12) (.f1 M6 (.v M25)))))), (M11, (.v M11)), (M13, (.v M13)), (M15, (.v M15)), (M17, (.v M17)), (M19, (.v M19)), (M21, (.v M21)), (M23, (.v M23)), (M25, (.v M25)), (M27, (.v M27)), (M29, (.v M29)), (M31, (.v M31)), (M33, (.v M33)), (M35, (.v M35)), (M37, (.v M37)), (M39, (.v M39)), (M41, (.v M41))], [(M10, (.v M10)), (M12, (.v M12)), (M14, (.v M14)), (M16, (.v M16)), (M18, (.v M18)), (M20, (.v M20)), (M22, (.v M22)), (M24, (.f1 M9 (.num J1))), (M26, (.v M26)), (M28, (.v M28)), (M30, (.v M30)), (M32, (.v M32)), (M34, (.v M34)), (M36, (.v M36)), (M38, (.v M38)), (M40, (.v M40))], [], []⟩
theorem nRun7t : endsAt .nrm [(B000, B000), (B001, B001)] nR7t.nms (nH (.ofNat M8)) (aev Tryz.prog (envR (nGT (.v M25) M103)) (tblN (nGT (.v M25) M103)) M60 nB ((nH (.ofNat M7)).map (subB (.v M24) true)).frame ((nH (.ofNat M7)).map (subB (.v M24) true)).hp) = true := by kernel_rfl
def nR7f : Rn := ⟨[(M1, (.v M1)), (M2, (.v M2))], [(M0, (.f2 M1430 (.f2 M1430 (.f2 M2001 (.v M0) (.f2 M2002 (.num J255) (.num J1))) (.v M25)) (.f1 M2003 (.num J12)))), (M11, (.v M11)), (M13, (.v M13)), (M15, (.v M15)), (M17, (.v M17)), (M19, (.v M19)), (M21, (.v M21)), (M23, (.v M23)), (M25, (.v M25)), (M27, (.v M27)), (M29, (.v M29)), (M31, (.v M31)), (M33, (.v M33)), (M35, (.v M35)), (M37, (.v M37)), (M39, (.v M39)), (M41, (.v M41))], [(M10, (.v M10)), (M12, (.v M12)), (M14, (.v M14)), (M16, (.v M16)), (M18, (.v M18)), (M20, (.v M20)), (M22, (.v M22)), (M24, (.f1 M9 (.num J0))), (M26, (.v M26)), (M28, (.v M28)), (M30, (.v M30)), (M32, (.v M32)), (M34, (.v M34)), (M36, (.v M36)), (M38, (.v M38)), (M40, (.v M40))], [], []⟩
theorem nRun7f : endsAt .nrm [(B000, B000), (B001, B001)] nR7f.nms (nH (.ofNat M8)) (aev Tryz.prog (envR (nGF (.v M25) M103)) (tblN (nGF (.v M25) M103)) M60 nB ((nH (.ofNat M7)).map (subB (.v M24) false)).frame ((nH (.ofNat M7)).map (subB (.v M24) false)).hp) = true := by kernel_rfl
def nR8t : Rn := ⟨[(M1, (.v M1)), (M2, (.v M2))], [(M0, (.f2 M1430 (.f2 M1430 (.f2 M2001 (.v M0) (.f2 M2002 (.f1 M6 (.v M27)) (.num J1))) (.v M27)) (.f1 M2003 (.f2 M1 (.num J12) (.f1 M6 (.v M27)))))), (M11, (.v M11)), (M13, (.v M13)), (M15, (.v M15)), (M17, (.v M17)), (M19, (.v M19)), (M21, (.v M21)), (M23, (.v M23)), (M25, (.v M25)), (M27, (.v M27)), (M29, (.v M29)), (M31, (.v M31)), (M33, (.v M33)), (M35, (.v M35)), (M37, (.v M37)), (M39, (.v M39)), (M41, (.v M41))], [(M10, (.v M10)), (M12, (.v M12)), (M14, (.v M14)), (M16, (.v M16)), (M18, (.v M18)), (M20, (.v M20)), (M22, (.v M22)), (M24, (.v M24)), (M26, (.f1 M9 (.num J1))), (M28, (.v M28)), (M30, (.v M30)), (M32, (.v M32)), (M34, (.v M34)), (M36, (.v M36)), (M38, (.v M38)), (M40, (.v M40))], [], []⟩
theorem nRun8t : endsAt .nrm [(B000, B000), (B001, B001)] nR8t.nms (nH (.ofNat M9)) (aev Tryz.prog (envR (nGT (.v M27) M116)) (tblN (nGT (.v M27) M116)) M60 nB ((nH (.ofNat M8)).map (subB (.v M26) true)).frame ((nH (.ofNat M8)).map (subB (.v M26) true)).hp) = true := by kernel_rfl
def nR8f : Rn := ⟨[(M1, (.v M1)), (M2, (.v M2))], [(M0, (.f2 M1430 (.f2 M1430 (.f2 M2001 (.v M0) (.f2 M2002 (.num J255) (.num J1))) (.v M27)) (.f1 M2003 (.num J12)))), (M11, (.v M11)), (M13, (.v M13)), (M15, (.v M15)), (M17, (.v M17)), (M19, (.v M19)), (M21, (.v M21)), (M23, (.v M23)), (M25, (.v M25)), (M27, (.v M27)), (M29, (.v M29)), (M31, (.v M31)), (M33, (.v M33)), (M35, (.v M35)), (M37, (.v M37)), (M39, (.v M39)), (M41, (.v M41))], [(M10, (.v M10)), (M12, (.v M12)), (M14, (.v M14)), (M16, (.v M16)), (M18, (.v M18)), (M20, (.v M20)), (M22, (.v M22)), (M24, (.v M24)), (M26, (.f1 M9 (.num J0))), (M28, (.v M28)), (M30, (.v M30)), (M32, (.v M32)), (M34, (.v M34)), (M36, (.v M36)), (M38, (.v M38)), (M40, (.v M40))], [], []⟩
theorem nRun8f : endsAt .nrm [(B000, B000), (B001, B001)] nR8f.nms (nH (.ofNat M9)) (aev Tryz.prog (envR (nGF (.v M27) M116)) (tblN (nGF (.v M27) M116)) M60 nB ((nH (.ofNat M8)).map (subB (.v M26) false)).frame ((nH (.ofNat M8)).map (subB (.v M26) false)).hp) = true := by kernel_rfl
def nR9t : Rn := ⟨[(M1, (.v M1)), (M2, (.v M2))], [(M0, (.f2 M1430 (.f2 M1430 (.f2 M2001 (.v M0) (.f2 M2002 (.f1 M6 (.v M29)) (.num J1))) (.v M29)) (.f1 M2003 (.f2 M1 (.num J12) (.f1 M6 (.v M29)))))), (M11, (.v M11)), (M13, (.v M13)), (M15, (.v M15)), (M17, (.v M17)), (M19, (.v M19)), (M21, (.v M21)), (M23, (.v M23)), (M25, (.v M25)), (M27, (.v M27)), (M29, (.v M29)), (M31, (.v M31)), (M33, (.v M33)), (M35, (.v M35)), (M37, (.v M37)), (M39, (.v M39)), (M41, (.v M41))], [(M10, (.v M10)), (M12, (.v M12)), (M14, (.v M14)), (M16, (.v M16)), (M18, (.v M18)), (M20, (.v M20)), (M22, (.v M22)), (M24, (.v M24)), (M26, (.v M26)), (M28, (.f1 M9 (.num J1))), (M30, (.v M30)), (M32, (.v M32)), (M34, (.v M34)), (M36, (.v M36)), (M38, (.v M38)), (M40, (.v M40))], [], []⟩
theorem nRun9t : endsAt .nrm [(B000, B000), (B001, B001)] nR9t.nms (nH (.ofNat M10)) (aev Tryz.prog (envR (nGT (.v M29) M129)) (tblN (nGT (.v M29) M129)) M60 nB ((nH (.ofNat M9)).map (subB (.v M28) true)).frame ((nH (.ofNat M9)).map (subB (.v M28) true)).hp) = true := by kernel_rfl
def nR9f : Rn := ⟨[(M1, (.v M1)), (M2, (.v M2))], [(M0, (.f2 M1430 (.f2 M1430 (.f2 M2001 (.v M0) (.f2 M2002 (.num J255) (.num J1))) (.v M29)) (.f1 M2003 (.num J12)))), (M11, (.v M11)), (M13, (.v M13)), (M15, (.v M15)), (M17, (.v M17)), (M19, (.v M19)), (M21, (.v M21)), (M23, (.v M23)), (M25, (.v M25)), (M27, (.v M27)), (M29, (.v M29)), (M31, (.v M31)), (M33, (.v M33)), (M35, (.v M35)), (M37, (.v M37)), (M39, (.v M39)), (M41, (.v M41))], [(M10, (.v M10)), (M12, (.v M12)), (M14, (.v M14)), (M16, (.v M16)), (M18, (.v M18)), (M20, (.v M20)), (M22, (.v M22)), (M24, (.v M24)), (M26, (.v M26)), (M28, (.f1 M9 (.num J0))), (M30, (.v M30)), (M32, (.v M32)), (M34, (.v M34)), (M36, (.v M36)), (M38, (.v M38)), (M40, (.v M40))], [], []⟩
theorem nRun9f : endsAt .nrm [(B000, B000), (B001, B001)] nR9f.nms (nH (.ofNat M10)) (aev Tryz.prog (envR (nGF (.v M29) M129)) (tblN (nGF (.v M29) M129)) M60 nB ((nH (.ofNat M9)).map (subB (.v M28) false)).frame ((nH (.ofNat M9)).map (subB (.v M28) false)).hp) = true := by kernel_rfl
def nR10t : Rn := ⟨[(M1, (.v M1)), (M2, (.v M2))], [(M0, (.f2 M1430 (.f2 M1430 (.f2 M2001 (.v M0) (.f2 M2002 (.f1 M6 (.v M31)) (.num J1))) (.v M31)) (.f1 M2003 (.f2 M1 (.num J12) (.f1 M6 (.v M31)))))), (M11, (.v M11)), (M13, (.v M13)), (M15, (.v M15)), (M17, (.v M17)), (M19, (.v M19)), (M21, (.v M21)), (M23, (.v M23)), (M25, (.v M25)), (M27, (.v M27)), (M29, (.v M29)), (M31, (.v M31)), (M33, (.v M33)), (M35, (.v M35)), (M37, (.v M37)), (M39, (.v M39)), (M41, (.v M41))], [(M10, (.v M10)), (M12, (.v M12)), (M14, (.v M14)), (M16, (.v M16)), (M18, (.v M18)), (M20, (.v M20)), (M22, (.v M22)), (M24, (.v M24)), (M26, (.v M26)), (M28, (.v M28)), (M30, (.f1 M9 (.num J1))), (M32, (.v M32)), (M34, (.v M34)), (M36, (.v M36)), (M38, (.v M38)), (M40, (.v M40))], [], []⟩
theorem nRun10t : endsAt .nrm [(B000, B000), (B001, B001)] nR10t.nms (nH (.ofNat M11)) (aev Tryz.prog (envR (nGT (.v M31) M142)) (tblN (nGT (.v M31) M142)) M60 nB ((nH (.ofNat M10)).map (subB (.v M30) true)).frame ((nH (.ofNat M10)).map (subB (.v M30) true)).hp) = true := by kernel_rfl
def nR10f : Rn := ⟨[(M1, (.v M1)), (M2, (.v M2))], [(M0, (.f2 M1430 (.f2 M1430 (.f2 M2001 (.v M0) (.f2 M2002 (.num J255) (.num J1))) (.v M31)) (.f1 M2003 (.num J12)))), (M11, (.v M11)), (M13, (.v M13)), (M15, (.v M15)), (M17, (.v M17)), (M19, (.v M19)), (M21, (.v M21)), (M23, (.v M23)), (M25, (.v M25)), (M27, (.v M27)), (M29, (.v M29)), (M31, (.v M31)), (M33, (.v M33)), (M35, (.v M35)), (M37, (.v M37)), (M39, (.v M39)), (M41, (.v M41))], [(M10, (.v M10)), (M12, (.v M12)), (M14, (.v M14)), (M16, (.v M16)), (M18, (.v M18)), (M20, (.v M20)), (M22, (.v M22)), (M24, (.v M24)), (M26, (.v M26)), (M28, (.v M28)), (M30, (.f1 M9 (.num J0))), (M32, (.v M32)), (M34, (.v M34)), (M36, (.v M36)), (M38, (.v M38)), (M40, (.v M40))], [], []⟩
theorem nRun10f : endsAt .nrm [(B000, B000), (B001, B001)] nR10f.nms (nH (.ofNat M11)) (aev Tryz.prog (envR (nGF (.v M31) M142)) (tblN (nGF (.v M31) M142)) M60 nB ((nH (.ofNat M10)).map (subB (.v M30) false)).frame ((nH (.ofNat M10)).map (subB (.v M30) false)).hp) = true := by kernel_rfl
def nR11t : Rn := ⟨[(M1, (.v M1)), (M2, (.v M2))], [(M0, (.f2 M1430 (.f2 M1430 (.f2 M2001 (.v M0) (.f2 M2002 (.f1 M6 (.v M33)) (.num J1))) (.v M33)) (.f1 M2003 (.f2 M1 (.num J12) (.f1 M6 (.v M33)))))), (M11, (.v M11)), (M13, (.v M13)), (M15, (.v M15)), (M17, (.v M17)), (M19, (.v M19)), (M21, (.v M21)), (M23, (.v M23)), (M25, (.v M25)), (M27, (.v M27)), (M29, (.v M29)), (M31, (.v M31)), (M33, (.v M33)), (M35, (.v M35)), (M37, (.v M37)), (M39, (.v M39)), (M41, (.v M41))], [(M10, (.v M10)), (M12, (.v M12)), (M14, (.v M14)), (M16, (.v M16)), (M18, (.v M18)), (M20, (.v M20)), (M22, (.v M22)), (M24, (.v M24)), (M26, (.v M26)), (M28, (.v M28)), (M30, (.v M30)), (M32, (.f1 M9 (.num J1))), (M34, (.v M34)), (M36, (.v M36)), (M38, (.v M38)), (M40, (.v M40))], [], []⟩
theorem nRun11t : endsAt .nrm [(B000, B000), (B001, B001)] nR11t.nms (nH (.ofNat M12)) (aev Tryz.prog (envR (nGT (.v M33) M155)) (tblN (nGT (.v M33) M155)) M60 nB ((nH (.ofNat M11)).map (subB (.v M32) true)).frame ((nH (.ofNat M11)).map (subB (.v M32) true)).hp) = true := by kernel_rfl
def nR11f : Rn := ⟨[(M1, (.v M1)), (M2, (.v M2))], [(M0, (.f2 M1430 (.f2 M1430 (.f2 M2001 (.v M0) (.f2 M2002 (.num J255) (.num J1))) (.v M33)) (.f1 M2003 (.num J12)))), (M11, (.v M11)), (M13, (.v M13)), (M15, (.v M15)), (M17, (.v M17)), (M19, (.v M19)), (M21, (.v M21)), (M23, (.v M23)), (M25, (.v M25)), (M27, (.v M27)), (M29, (.v M29)), (M31, (.v M31)), (M33, (.v M33)), (M35, (.v M35)), (M37, (.v M37)), (M39, (.v M39)), (M41, (.v M41))], [(M10, (.v M10)), (M12, (.v M12)), (M14, (.v M14)), (M16, (.v M16)), (M18, (.v M18)), (M20, (.v M20)), (M22, (.v M22)), (M24, (.v M24)), (M26, (.v M26)), (M28, (.v M28)), (M30, (.v M30)), (M32, (.f1 M9 (.num J0))), (M34, (.v M34)), (M36, (.v M36)), (M38, (.v M38)), (M40, (.v M40))], [], []⟩
theorem nRun11f : endsAt .nrm [(B000, B000), (B001, B001)] nR11f.nms (nH (.ofNat M12)) (aev Tryz.prog (envR (nGF (.v M33) M155)) (tblN (nGF (.v M33) M155)) M60 nB ((nH (.ofNat M11)).map (subB (.v M32) false)).frame ((nH (.ofNat M11)).map (subB (.v M32) false)).hp) = true := by kernel_rfl
def nR12t : Rn := ⟨[(M1, (.v M1)), (M2, (.v M2))], [(M0, (.f2 M1430 (.f2 M1430 (.f2 M2001 (.v M0) (.f2 M2002 (.f1 M6 (.v M35)) (.num J1))) (.v M35)) (.f1 M2003 (.f2 M1 (.num J12) (.f1 M6 (.v M35)))))), (M11, (.v M11)), (M13, (.v M13)), (M15, (.v M15)), (M17, (.v M17)), (M19, (.v M19)), (M21, (.v M21)), (M23, (.v M23)), (M25, (.v M25)), (M27, (.v M27)), (M29, (.v M29)), (M31, (.v M31)), (M33, (.v M33)), (M35, (.v M35)), (M37, (.v M37)), (M39, (.v M39)), (M41, (.v M41))], [(M10, (.v M10)), (M12, (.v M12)), (M14, (.v M14)), (M16, (.v M16)), (M18, (.v M18)), (M20, (.v M20)), (M22, (.v M22)), (M24, (.v M24)), (M26, (.v M26)), (M28, (.v M28)), (M30, (.v M30)), (M32, (.v M32)), (M34, (.f1 M9 (.num J1))), (M36, (.v M36)), (M38, (.v M38)), (M40, (.v M40))], [], []⟩
theorem nRun12t : endsAt .nrm [(B000, B000), (B001, B001)] nR12t.nms (nH (.ofNat M13)) (aev Tryz.prog (envR (nGT (.v M35) M168)) (tblN (nGT (.v M35) M168)) M60 nB ((nH (.ofNat M12)).map (subB (.v M34) true)).frame ((nH (.ofNat M12)).map (subB (.v M34) true)).hp) = true := by kernel_rfl
def nR12f : Rn := ⟨[(M1, (.v M1)), (M2, (.v M2))], [(M0, (.f2 M1430 (.f2 M1430 (.f2 M2001 (.v M0) (.f2 M2002 (.num J255) (.num J1))) (.v M35)) (.f1 M2003 (.num J12)))), (M11, (.v M11)), (M13, (.v M13)), (M15, (.v M15)), (M17, (.v M17)), (M19, (.v M19)), (M21, (.v M21)), (M23, (.v M23)), (M25, (.v M25)), (M27, (.v M27)), (M29, (.v M29)), (M31, (.v M31)), (M33, (.v M33)), (M35, (.v M35)), (M37, (.v M37)), (M39, (.v M39)), (M41, (.v M41))], [(M10, (.v M10)), (M12, (.v M12)), (M14, (.v M14)), (M16, (.v M16)), (M18, (.v M18)), (M20, (.v M20)), (M22, (.v M22)), (M24, (.v M24)), (M26, (.v M26)), (M28, (.v M28)), (M30, (.v M30)), (M32, (.v M32)), (M34, (.f1 M9 (.num J0))), (M36, (.v M36)), (M38, (.v M38)), (M40, (.v M40))], [], []⟩
theorem nRun12f : endsAt .nrm [(B000, B000), (B001, B001)] nR12f.nms (nH (.ofNat M13)) (aev Tryz.prog (envR (nGF (.v M35) M168)) (tblN (nGF (.v M35) M168)) M60 nB ((nH (.ofNat M12)).map (subB (.v M34) false)).frame ((nH (.ofNat M12)).map (subB (.v M34) false)).hp) = true := by kernel_rfl
def nR13t : Rn := ⟨[(M1, (.v M1)), (M2, (.v M2))], [(M0, (.f2 M1430 (.f2 M1430 (.f2 M2001 (.v M0) (.f2 M2002 (.f1 M6 (.v M37)) (.num J1))) (.v M37)) (.f1 M2003 (.f2 M1 (.num J12) (.f1 M6 (.v M37)))))), (M11, (.v M11)), (M13, (.v M13)), (M15, (.v M15)), (M17, (.v M17)), (M19, (.v M19)), (M21, (.v M21)), (M23, (.v M23)), (M25, (.v M25)), (M27, (.v M27)), (M29, (.v M29)), (M31, (.v M31)), (M33, (.v M33)), (M35, (.v M35)), (M37, (.v M37)), (M39, (.v M39)), (M41, (.v M41))], [(M10, (.v M10)), (M12, (.v M12)), (M14, (.v M14)), (M16, (.v M16)), (M18, (.v M18)), (M20, (.v M20)), (M22, (.v M22)), (M24, (.v M24)), (M26, (.v M26)), (M28, (.v M28)), (M30, (.v M30)), (M32, (.v M32)), (M34, (.v M34)), (M36, (.f1 M9 (.num J1))), (M38, (.v M38)), (M40, (.v M40))], [], []⟩
theorem nRun13t : endsAt .nrm [(B000, B000), (B001, B001)] nR13t.nms (nH (.ofNat M14)) (aev Tryz.prog (envR (nGT (.v M37) M181)) (tblN (nGT (.v M37) M181)) M60 nB ((nH (.ofNat M13)).map (subB (.v M36) true)).frame ((nH (.ofNat M13)).map (subB (.v M36) true)).hp) = true := by kernel_rfl
def nR13f : Rn := ⟨[(M1, (.v M1)), (M2, (.v M2))], [(M0, (.f2 M1430 (.f2 M1430 (.f2 M2001 (.v M0) (.f2 M2002 (.num J255) (.num J1))) (.v M37)) (.f1 M2003 (.num J12)))), (M11, (.v M11)), (M13, (.v M13)), (M15, (.v M15)), (M17, (.v M17)), (M19, (.v M19)), (M21, (.v M21)), (M23, (.v M23)), (M25, (.v M25)), (M27, (.v M27)), (M29, (.v M29)), (M31, (.v M31)), (M33, (.v M33)), (M35, (.v M35)), (M37, (.v M37)), (M39, (.v M39)), (M41, (.v M41))], [(M10, (.v M10)), (M12, (.v M12)), (M14, (.v M14)), (M16, (.v M16)), (M18, (.v M18)), (M20, (.v M20)), (M22, (.v M22)), (M24, (.v M24)), (M26, (.v M26)), (M28, (.v M28)), (M30, (.v M30)), (M32, (.v M32)), (M34, (.v M34)), (M36, (.f1 M9 (.num J0))), (M38, (.v M38)), (M40, (.v M40))], [], []⟩
theorem nRun13f : endsAt .nrm [(B000, B000), (B001, B001)] nR13f.nms (nH (.ofNat M14)) (aev Tryz.prog (envR (nGF (.v M37) M181)) (tblN (nGF (.v M37) M181)) M60 nB ((nH (.ofNat M13)).map (subB (.v M36) false)).frame ((nH (.ofNat M13)).map (subB (.v M36) false)).hp) = true := by kernel_rfl
def nR14t : Rn := ⟨[(M1, (.v M1)), (M2, (.v M2))], [(M0, (.f2 M1430 (.f2 M1430 (.f2 M2001 (.v M0) (.f2 M2002 (.f1 M6 (.v M39)) (.num J1))) (.v M39)) (.f1 M2003 (.f2 M1 (.num J12) (.f1 M6 (.v M39)))))), (M11, (.v M11)), (M13, (.v M13)), (M15, (.v M15)), (M17, (.v M17)), (M19, (.v M19)), (M21, (.v M21)), (M23, (.v M23)), (M25, (.v M25)), (M27, (.v M27)), (M29, (.v M29)), (M31, (.v M31)), (M33, (.v M33)), (M35, (.v M35)), (M37, (.v M37)), (M39, (.v M39)), (M41, (.v M41))], [(M10, (.v M10)), (M12, (.v M12)), (M14, (.v M14)), (M16, (.v M16)), (M18, (.v M18)), (M20, (.v M20)), (M22, (.v M22)), (M24, (.v M24)), (M26, (.v M26)), (M28, (.v M28)), (M30, (.v M30)), (M32, (.v M32)), (M34, (.v M34)), (M36, (.v M36)), (M38, (.f1 M9 (.num J1))), (M40, (.v M40))], [], []⟩
theorem nRun14t : endsAt .nrm [(B000, B000), (B001, B001)] nR14t.nms (nH (.ofNat M15)) (aev Tryz.prog (envR (nGT (.v M39) M194)) (tblN (nGT (.v M39) M194)) M60 nB ((nH (.ofNat M14)).map (subB (.v M38) true)).frame ((nH (.ofNat M14)).map (subB (.v M38) true)).hp) = true := by kernel_rfl
def nR14f : Rn := ⟨[(M1, (.v M1)), (M2, (.v M2))], [(M0, (.f2 M1430 (.f2 M1430 (.f2 M2001 (.v M0) (.f2 M2002 (.num J255) (.num J1))) (.v M39)) (.f1 M2003 (.num J12)))), (M11, (.v M11)), (M13, (.v M13)), (M15, (.v M15)), (M17, (.v M17)), (M19, (.v M19)), (M21, (.v M21)), (M23, (.v M23)), (M25, (.v M25)), (M27, (.v M27)), (M29, (.v M29)), (M31, (.v M31)), (M33, (.v M33)), (M35, (.v M35)), (M37, (.v M37)), (M39, (.v M39)), (M41, (.v M41))], [(M10, (.v M10)), (M12, (.v M12)), (M14, (.v M14)), (M16, (.v M16)), (M18, (.v M18)), (M20, (.v M20)), (M22, (.v M22)), (M24, (.v M24)), (M26, (.v M26)), (M28, (.v M28)), (M30, (.v M30)), (M32, (.v M32)), (M34, (.v M34)), (M36, (.v M36)), (M38, (.f1 M9 (.num J0))), (M40, (.v M40))], [], []⟩
theorem nRun14f : endsAt .nrm [(B000, B000), (B001, B001)] nR14f.nms (nH (.ofNat M15)) (aev Tryz.prog (envR (nGF (.v M39) M194)) (tblN (nGF (.v M39) M194)) M60 nB ((nH (.ofNat M14)).map (subB (.v M38) false)).frame ((nH (.ofNat M14)).map (subB (.v M38) false)).hp) = true := by kernel_rfl
def nR15t : Rn := ⟨[(M1, (.v M1)), (M2, (.v M2))], [(M0, (.f2 M1430 (.f2 M1430 (.f2 M2001 (.v M0) (.f2 M2002 (.f1 M6 (.v M41)) (.num J1))) (.v M41)) (.f1 M2003 (.f2 M1 (.num J12) (.f1 M6 (.v M41)))))), (M11, (.v M11)), (M13, (.v M13)), (M15, (.v M15)), (M17, (.v M17)), (M19, (.v M19)), (M21, (.v M21)), (M23, (.v M23)), (M25, (.v M25)), (M27, (.v M27)), (M29, (.v M29)), (M31, (.v M31)), (M33, (.v M33)), (M35, (.v M35)), (M37, (.v M37)), (M39, (.v M39)), (M41, (.v M41))], [(M10, (.v M10)), (M12, (.v M12)), (M14, (.v M14)), (M16, (.v M16)), (M18, (.v M18)), (M20, (.v M20)), (M22, (.v M22)), (M24, (.v M24)), (M26, (.v M26)), (M28, (.v M28)), (M30, (.v M30)), (M32, (.v M32)), (M34, (.v M34)), (M36, (.v M36)), (M38, (.v M38)), (M40, (.f1 M9 (.num J1)))], [], []⟩
theorem nRun15t : endsAt .nrm [(B000, B000), (B001, B001)] nR15t.nms (nH (.ofNat M16)) (aev Tryz.prog (envR (nGT (.v M41) M207)) (tblN (nGT (.v M41) M207)) M60 nB ((nH (.ofNat M15)).map (subB (.v M40) true)).frame ((nH (.ofNat M15)).map (subB (.v M40) true)).hp) = true := by kernel_rfl
def nR15f : Rn := ⟨[(M1, (.v M1)), (M2, (.v M2))], [(M0, (.f2 M1430 (.f2 M1430 (.f2 M2001 (.v M0) (.f2 M2002 (.num J255) (.num J1))) (.v M41)) (.f1 M2003 (.num J12)))), (M11, (.v M11)), (M13, (.v M13)), (M15, (.v M15)), (M17, (.v M17)), (M19, (.v M19)), (M21, (.v M21)), (M23, (.v M23)), (M25, (.v M25)), (M27, (.v M27)), (M29, (.v M29)), (M31, (.v M31)), (M33, (.v M33)), (M35, (.v M35)), (M37, (.v M37)), (M39, (.v M39)), (M41, (.v M41))], [(M10, (.v M10)), (M12, (.v M12)), (M14, (.v M14)), (M16, (.v M16)), (M18, (.v M18)), (M20, (.v M20)), (M22, (.v M22)), (M24, (.v M24)), (M26, (.v M26)), (M28, (.v M28)), (M30, (.v M30)), (M32, (.v M32)), (M34, (.v M34)), (M36, (.v M36)), (M38, (.v M38)), (M40, (.f1 M9 (.num J0)))], [], []⟩
theorem nRun15f : endsAt .nrm [(B000, B000), (B001, B001)] nR15f.nms (nH (.ofNat M16)) (aev Tryz.prog (envR (nGF (.v M41) M207)) (tblN (nGF (.v M41) M207)) M60 nB ((nH (.ofNat M15)).map (subB (.v M40) false)).frame ((nH (.ofNat M15)).map (subB (.v M40) false)).hp) = true := by kernel_rfl
def nSX : Lit := ⟨[(.x0, .x1, (.c (.p B000 M0))), (.x0, .x4, (.c (.p B001 M0)))], [(B000, (.cells [.si .i64 (.v M1), .si .i64 (.v M2), .sb (.v M10), .ss (.v M11), .sb (.v M12), .ss (.v M13), .sb (.v M14), .ss (.v M15), .sb (.v M16), .ss (.v M17), .sb (.v M18), .ss (.v M19), .sb (.v M20), .ss (.v M21), .sb (.v M22), .ss (.v M23), .sb (.v M24), .ss (.v M25), .sb (.v M26), .ss (.v M27), .sb (.v M28), .ss (.v M29), .sb (.v M30), .ss (.v M31), .sb (.v M32), .ss (.v M33), .sb (.v M34), .ss (.v M35), .sb (.v M36), .ss (.v M37), .sb (.v M38), .ss (.v M39), .sb (.v M40), .ss (.v M41)])), (B001, (.cells [.ss (.v M0)]))], B002⟩
def nRx : Rn := ⟨[(M1, (.v M1)), (M2, (.v M2))], [(M0, (.v M0)), (M11, (.v M11)), (M13, (.v M13)), (M15, (.v M15)), (M17, (.v M17)), (M19, (.v M19)), (M21, (.v M21)), (M23, (.v M23)), (M25, (.v M25)), (M27, (.v M27)), (M29, (.v M29)), (M31, (.v M31)), (M33, (.v M33)), (M35, (.v M35)), (M37, (.v M37)), (M39, (.v M39)), (M41, (.v M41))], [(M10, (.v M10)), (M12, (.v M12)), (M14, (.v M14)), (M16, (.v M16)), (M18, (.v M18)), (M20, (.v M20)), (M22, (.v M22)), (M24, (.v M24)), (M26, (.v M26)), (M28, (.v M28)), (M30, (.v M30)), (M32, (.v M32)), (M34, (.v M34)), (M36, (.v M36)), (M38, (.v M38)), (M40, (.v M40))], [], []⟩
theorem nRunX : endsAt (.ex M1) [(B000, B000), (B001, B001)] nRx.nms nSX (aev Tryz.prog (envR []) (tblN []) M60 nB (nH (.ofNat M16)).frame (nH (.ofNat M16)).hp) = true := by kernel_rfl
def nGe : List Fc := [.rng (.f1 M6 (.v M0)) J220 J220, .rng (.f1 M6 (.f1 M2003 (.num J24))) J24 J24, .rng (.f1 M6 (.f2 M1430 (.v M0) (.f1 M2003 (.num J24)))) J244 J244, .rng (.f1 M2004 (.f2 M1430 (.v M0) (.f1 M2003 (.num J24)))) J0 J4294967295, .rng (.f1 M6 (.f2 M2001 (.f2 M1430 (.v M0) (.f1 M2003 (.num J24))) (.f2 M2002 (.f1 M2004 (.f2 M1430 (.v M0) (.f1 M2003 (.num J24)))) (.num J4)))) J248 J248]
def nSE : Lit := ⟨[(.x0, .x2, (.c (.top))), (.x0, .x3, (.c Z0))], [], B000⟩
def nRe_ : Rn := ⟨[], [], [], [], []⟩
theorem nRunE : endsAt .ret [] nRe_.nms nSE (aev Tryz.prog (envR nGe) (tblN nGe) M60 nRe nSX.frame nSX.hp) = true := by kernel_rfl
section
variable {w0 : World} {N : Nat} {g : Nm → Value} {z : Nat → Option Obj} {b : Nat → MV}
structure PgB (b : Nat → MV) : Prop where
  id0 : 0 ≤ (b 1).i
  id1 : (b 1).i ≤ 63
  l0 : 1 ≤ (b 2).i
  l1 : (b 2).i ≤ 1099511627776
  c : ∀ j, j < 16 → VCell (b (10 + 2 * j)).b (b (11 + 2 * j)).s
theorem nFb_ok (h : PgB b) : ∀ f ∈ nFb, f.holds QR (vb b g z) :=
  facts_cons ⟨h.id0, h.id1⟩ (facts_cons ⟨h.l0, h.l1⟩ (facts_cons (h.c 0 (by decide)) (facts_cons (h.c 1 (by decide)) (facts_cons (h.c 2 (by decide)) (facts_cons (h.c 3 (by decide)) (facts_cons (h.c 4 (by decide)) (facts_cons (h.c 5 (by decide)) (facts_cons (h.c 6 (by decide)) (facts_cons (h.c 7 (by decide)) (facts_cons (h.c 8 (by decide)) (facts_cons (h.c 9 (by decide)) (facts_cons (h.c 10 (by decide)) (facts_cons (h.c 11 (by decide)) (facts_cons (h.c 12 (by decide)) (facts_cons (h.c 13 (by decide)) (facts_cons (h.c 14 (by decide)) (facts_cons (h.c 15 (by decide)) facts_nil)))))))))))))))))
theorem eqN {x : Nat} {n : Nat} (h : x = n) : (Int.ofNat n ≤ (x : Int)) ∧ (x : Int) ≤ Int.ofNat n := by subst h; exact ⟨Int.le_refl _, Int.le_refl _⟩
theorem nGT_ok {s n : Nat} (hs : (b 0).s.size = n) (hl : (b s).s.size ≤ 12) : ∀ f ∈ nGT (.v s) n, f.holds QR (vb b g z) := by
  have hd : (vb b g z).i (.f2 1 (.num (.ofNat 12)) (.f1 6 (.v s))) = 12 - (((b s).s.size : Nat) : Int) := by
    rw [(vb_std b g z).sub]
    show IntKind.i64.wrap (12 - (((b s).s.size : Nat) : Int)) = _
    exact IntWalk.i64_in _ (by omega)
  have h1 : ((vb b g z).s (.f2 2001 (.v 0) (.f2 2002 (.f1 6 (.v s)) (.num (.ofNat 1))))).size = n + 1 := by
    rw [sz_put (vb_pp b g z)]
    show (b 0).s.size + 1 = _
    omega
  have h2 : ((vb b g z).s (.f2 1430 (.f2 2001 (.v 0) (.f2 2002 (.f1 6 (.v s)) (.num (.ofNat 1)))) (.v s))).size = n + 1 + (b s).s.size := by
    rw [sz_cat (vb_std b g z), h1]; rfl
  have h3 : ((vb b g z).s (.f1 2003 (.f2 1 (.num (.ofNat 12)) (.f1 6 (.v s))))).size = 12 - (b s).s.size := by
    rw [sz_rep (vb_pp b g z), hd]; omega
  refine facts_cons (eqN hs) (facts_cons ⟨Int.natCast_nonneg _, (by show (((b s).s.size : Nat) : Int) ≤ 12; omega)⟩ (facts_cons ?_ (facts_cons ?_ (facts_cons ?_ (facts_cons ?_ facts_nil)))))
  · show (0 : Int) ≤ (vb b g z).i (.f2 1 (.num (.ofNat 12)) (.f1 6 (.v s))) ∧ (vb b g z).i (.f2 1 (.num (.ofNat 12)) (.f1 6 (.v s))) ≤ 12
    rw [hd]; omega
  · exact eqN h1
  · show Int.ofNat (n + 1) ≤ ((((vb b g z).s (.f2 1430 (.f2 2001 (.v 0) (.f2 2002 (.f1 6 (.v s)) (.num (.ofNat 1)))) (.v s))).size : Nat) : Int) ∧ ((((vb b g z).s (.f2 1430 (.f2 2001 (.v 0) (.f2 2002 (.f1 6 (.v s)) (.num (.ofNat 1)))) (.v s))).size : Nat) : Int) ≤ Int.ofNat (n + 13)
    rw [h2]
    exact ⟨Int.ofNat_le.2 (by omega), Int.ofNat_le.2 (by omega)⟩
  · refine ⟨Int.natCast_nonneg _, ?_⟩
    show ((((vb b g z).s (.f1 2003 (.f2 1 (.num (.ofNat 12)) (.f1 6 (.v s))))).size : Nat) : Int) ≤ 12
    rw [h3]; omega
theorem nGF_ok {s n : Nat} (hs : (b 0).s.size = n) (hl : (b s).s.size = 0) : ∀ f ∈ nGF (.v s) n, f.holds QR (vb b g z) := by
  have h1 : ((vb b g z).s (.f2 2001 (.v 0) (.f2 2002 (.num (.ofNat 255)) (.num (.ofNat 1))))).size = n + 1 := by
    rw [sz_put (vb_pp b g z)]
    show (b 0).s.size + 1 = _
    omega
  have h2 : ((vb b g z).s (.f2 1430 (.f2 2001 (.v 0) (.f2 2002 (.num (.ofNat 255)) (.num (.ofNat 1)))) (.v s))).size = n + 1 := by
    rw [sz_cat (vb_std b g z), h1]
    show n + 1 + (b s).s.size = _
    omega
  have h3 : ((vb b g z).s (.f1 2003 (.num (.ofNat 12)))).size = 12 := by
    rw [sz_rep (vb_pp b g z)]; rfl
  exact facts_cons (eqN hs) (facts_cons (eqN hl) (facts_cons (eqN h1) (facts_cons (eqN h2) (facts_cons (eqN h3) facts_nil))))
theorem nStep {i : Nat} (hi : i < 16) {rt rf : Rn} (runT : endsAt .nrm [(B000, B000), (B001, B001)] rt.nms (nH (.ofNat (i + 1))) (aev Tryz.prog (envR (nGT (.v (11 + 2 * i)) (12 + 13 * i))) (tblN (nGT (.v (11 + 2 * i)) (12 + 13 * i))) M60 nB ((nH (.ofNat i)).map (subB (.v (10 + 2 * i)) true)).frame ((nH (.ofNat i)).map (subB (.v (10 + 2 * i)) true)).hp) = true)
    (runF : endsAt .nrm [(B000, B000), (B001, B001)] rf.nms (nH (.ofNat (i + 1))) (aev Tryz.prog (envR (nGF (.v (11 + 2 * i)) (12 + 13 * i))) (tblN (nGF (.v (11 + 2 * i)) (12 + 13 * i))) M60 nB ((nH (.ofNat i)).map (subB (.v (10 + 2 * i)) false)).frame ((nH (.ofNat i)).map (subB (.v (10 + 2 * i)) false)).hp) = true)
    (hok : rt.ok = true) (hid : rt.idEx [0, 10 + 2 * i] = true) (hok2 : rf.ok = true) (hid2 : rf.idEx [0, 10 + 2 * i] = true) (hbt : (nb b rt (10 + 2 * i)).b = true) (hbf : (nb b rf (10 + 2 * i)).b = false) (h : PgB b) (hs : (b 0).s.size = 12 + 13 * i)
    (hst : ((vb b g z).s (.f2 1430 (.f2 1430 (.f2 2001 (.v 0) (.f2 2002 (.f1 6 (.v (11 + 2 * i))) (.num (.ofNat 1)))) (.v (11 + 2 * i))) (.f1 2003 (.f2 1 (.num (.ofNat 12)) (.f1 6 (.v (11 + 2 * i))))))).size = 12 + 13 * (i + 1) → (nb b rt 0).s.size = 12 + 13 * (i + 1))
    (hsf : ((vb b g z).s (.f2 1430 (.f2 1430 (.f2 2001 (.v 0) (.f2 2002 (.num (.ofNat 255)) (.num (.ofNat 1)))) (.v (11 + 2 * i))) (.f1 2003 (.num (.ofNat 12))))).size = 12 + 13 * (i + 1) → (nb b rf 0).s.size = 12 + 13 * (i + 1)) :
    Tri Tryz.prog N nB (At w0 N (vb b g z) (nH (.ofNat i))) fun e a w => e = .normal ∧ ∃ b', (PgB b' ∧ (b' 0).s.size = 12 + 13 * (i + 1)) ∧ At w0 N (vb b' g z) (nH (.ofNat (i + 1))) a w := by
  have hc := h.c i hi
  have con : ∀ {n : Nat}, n ≠ 0 → n ≠ 10 + 2 * i → [0, 10 + 2 * i].contains n = false := fun {n} h1 h2 => by simp [h1, h2]
  have nxt : ∀ {r : Rn}, r.idEx [0, 10 + 2 * i] = true → (nb b r (10 + 2 * i)).b = (b (10 + 2 * i)).b → PgB (nb b r) := fun {r} hid hb => by
    refine ⟨by rw [nb_id hid (con (by omega) (by omega))]; exact h.id0, by rw [nb_id hid (con (by omega) (by omega))]; exact h.id1, by rw [nb_id hid (con (by omega) (by omega))]; exact h.l0, by rw [nb_id hid (con (by omega) (by omega))]; exact h.l1, fun j hj => ?_⟩
    rw [nb_id (n := 11 + 2 * j) hid (con (by omega) (by omega))]
    by_cases hji : j = i
    · subst hji; rw [hb]; exact h.c j hj
    · rw [nb_id (n := 10 + 2 * j) hid (con (by omega) (by omega))]; exact h.c j hj
  cases hb : (b (10 + 2 * i)).b with
  | true =>
    refine ((Tri.run (codeN _ _) (envR_ok (nGT_ok hs hc.1)) runT (ren_nb hok)).pre fun a w hat => At.map hat (subB_ok (show (vb b g z).b (.v (10 + 2 * i)) = true from hb))).post fun e a w hq => ⟨hq.1, nb b rt, ⟨nxt hid (by rw [hbt, hb]), hst ?_⟩, hq.2⟩
    have hd : (vb b g z).i (.f2 1 (.num (.ofNat 12)) (.f1 6 (.v (11 + 2 * i)))) = 12 - (((b (11 + 2 * i)).s.size : Nat) : Int) := by
      rw [(vb_std b g z).sub]
      show IntKind.i64.wrap (12 - (((b (11 + 2 * i)).s.size : Nat) : Int)) = _
      exact IntWalk.i64_in _ (by have := hc.1; omega)
    rw [sz_cat (vb_std b g z), sz_cat (vb_std b g z), sz_put (vb_pp b g z), sz_rep (vb_pp b g z), hd]
    show (b 0).s.size + 1 + (b (11 + 2 * i)).s.size + _ = _
    have := hc.1
    omega
  | false =>
    have hz : (b (11 + 2 * i)).s.size = 0 := by rw [hc.2 hb]; rfl
    refine ((Tri.run (codeN _ _) (envR_ok (nGF_ok hs hz)) runF (ren_nb hok2)).pre fun a w hat => At.map hat (subB_ok (show (vb b g z).b (.v (10 + 2 * i)) = false from hb))).post fun e a w hq => ⟨hq.1, nb b rf, ⟨nxt hid2 (by rw [hbf, hb]), hsf ?_⟩, hq.2⟩
    rw [sz_cat (vb_std b g z), sz_cat (vb_std b g z), sz_put (vb_pp b g z), sz_rep (vb_pp b g z)]
    show (b 0).s.size + 1 + (b (11 + 2 * i)).s.size + 12 = _
    omega
theorem nRounds : ∀ i, i < 16 → ∀ b, (PgB b ∧ (b 0).s.size = 12 + 13 * i) → Tri Tryz.prog N nB (At w0 N (vb b g z) (nH (.ofNat i))) fun e a w => e = .normal ∧ ∃ b', (PgB b' ∧ (b' 0).s.size = 12 + 13 * (i + 1)) ∧ At w0 N (vb b' g z) (nH (.ofNat (i + 1))) a w := by
  intro i hi b h
  exact match i, hi with
  | 0, _ => nStep (by decide) nRun0t nRun0f (by decide) (by decide) (by decide) (by decide) rfl rfl h.1 h.2 (fun e => e) (fun e => e)
  | 1, _ => nStep (by decide) nRun1t nRun1f (by decide) (by decide) (by decide) (by decide) rfl rfl h.1 h.2 (fun e => e) (fun e => e)
  | 2, _ => nStep (by decide) nRun2t nRun2f (by decide) (by decide) (by decide) (by decide) rfl rfl h.1 h.2 (fun e => e) (fun e => e)
  | 3, _ => nStep (by decide) nRun3t nRun3f (by decide) (by decide) (by decide) (by decide) rfl rfl h.1 h.2 (fun e => e) (fun e => e)
  | 4, _ => nStep (by decide) nRun4t nRun4f (by decide) (by decide) (by decide) (by decide) rfl rfl h.1 h.2 (fun e => e) (fun e => e)
  | 5, _ => nStep (by decide) nRun5t nRun5f (by decide) (by decide) (by decide) (by decide) rfl rfl h.1 h.2 (fun e => e) (fun e => e)
  | 6, _ => nStep (by decide) nRun6t nRun6f (by decide) (by decide) (by decide) (by decide) rfl rfl h.1 h.2 (fun e => e) (fun e => e)
  | 7, _ => nStep (by decide) nRun7t nRun7f (by decide) (by decide) (by decide) (by decide) rfl rfl h.1 h.2 (fun e => e) (fun e => e)
  | 8, _ => nStep (by decide) nRun8t nRun8f (by decide) (by decide) (by decide) (by decide) rfl rfl h.1 h.2 (fun e => e) (fun e => e)
  | 9, _ => nStep (by decide) nRun9t nRun9f (by decide) (by decide) (by decide) (by decide) rfl rfl h.1 h.2 (fun e => e) (fun e => e)
  | 10, _ => nStep (by decide) nRun10t nRun10f (by decide) (by decide) (by decide) (by decide) rfl rfl h.1 h.2 (fun e => e) (fun e => e)
  | 11, _ => nStep (by decide) nRun11t nRun11f (by decide) (by decide) (by decide) (by decide) rfl rfl h.1 h.2 (fun e => e) (fun e => e)
  | 12, _ => nStep (by decide) nRun12t nRun12f (by decide) (by decide) (by decide) (by decide) rfl rfl h.1 h.2 (fun e => e) (fun e => e)
  | 13, _ => nStep (by decide) nRun13t nRun13f (by decide) (by decide) (by decide) (by decide) rfl rfl h.1 h.2 (fun e => e) (fun e => e)
  | 14, _ => nStep (by decide) nRun14t nRun14f (by decide) (by decide) (by decide) (by decide) rfl rfl h.1 h.2 (fun e => e) (fun e => e)
  | 15, _ => nStep (by decide) nRun15t nRun15f (by decide) (by decide) (by decide) (by decide) rfl rfl h.1 h.2 (fun e => e) (fun e => e)
  | i + 16, h => absurd h (by omega)
theorem nLoop : Tri Tryz.prog N (.block 1 (.loop nB)) (fun a w => ∃ b, (PgB b ∧ (b 0).s.size = 12) ∧ At w0 N (vb b g z) (nH (.ofNat 0)) a w) fun e a w => e = .normal ∧ ∃ b, (b 0).s.size = 220 ∧ At w0 N (vb b g z) nSX a w := by
  refine Tri.block ?_
  refine ((Tri.loop (Post := fun e a w => e = .exit 1 ∧ ∃ b, (b 0).s.size = 220 ∧ At w0 N (vb b g z) nSX a w) (fun k : Nat => 16 - k) (fun k a w => k ≤ 16 ∧ ∃ b, (PgB b ∧ (b 0).s.size = 12 + 13 * k) ∧ At w0 N (vb b g z) (nH (.ofNat k)) a w) fun k => Tri.imp fun hk => Tri.ex fun b => Tri.imp fun hb => ?_).pre fun a w h => ⟨0, by omega, h⟩).post fun e a w h => .inl ⟨.inr h.1, rfl, h.2⟩
  by_cases hlt : k < 16
  · exact (nRounds k hlt b hb).post fun e a w hq => .inl ⟨hq.1, k + 1, by omega, by omega, hq.2⟩
  · have hk16 : k = 16 := by omega
    subst hk16
    refine (Tri.run (codeN _ _) (envR_ok facts_nil) nRunX (ren_nb (by decide))).post fun e a w hq => .inr ⟨by rw [hq.1]; exact fun h => (nomatch h), hq.1, nb b nRx, ?_, hq.2⟩
    exact hb.2
theorem enc_tri (h : PgB b) : Tri Tryz.prog N nBody (At w0 N (vb b g z) nS0) fun e a w => e = .ret ∧ ∃ ρ' s' hh, retOf nRes s'.frame s'.hp = .ok (.t [.c .top, .c (.i .i64 0)]) hh ∧ At w0 N ρ' s' a w := by
  have h1 : ((vb b g z).s (.f2 2001 (.lit []) (.f2 2002 (.v 2) (.num (.ofNat 8))))).size = 8 := by
    rw [sz_put (vb_pp b g z)]; rfl
  have h2 : ((vb b g z).s (.f2 2001 (.f2 2001 (.lit []) (.f2 2002 (.v 2) (.num (.ofNat 8)))) (.f2 2002 (.v 1) (.num (.ofNat 4))))).size = 12 := by
    rw [sz_put (vb_pp b g z), h1]; rfl
  have base : ∀ f ∈ nFp, f.holds QR (vb b g z) := facts_app (nFb_ok h) (facts_cons (eqN h1) (facts_cons (eqN h2) facts_nil))
  refine Tri.pre_run (codeN _ _) (envR_ok base) nCut nRun1 (ren_nb (by decide)) ?_
  have hid : nR1.idEx [0] = true := by decide
  have con : ∀ {n : Nat}, n ≠ 0 → [0].contains n = false := fun {n} h1 => by simp [h1]
  have hp : PgB (nb b nR1) := ⟨by rw [nb_id hid (con (by omega))]; exact h.id0, by rw [nb_id hid (con (by omega))]; exact h.id1, by rw [nb_id hid (con (by omega))]; exact h.l0, by rw [nb_id hid (con (by omega))]; exact h.l1, fun j hj => by rw [nb_id hid (con (by omega)), nb_id hid (con (by omega))]; exact h.c j hj⟩
  have hs : (nb b nR1 0).s.size = 12 := h2
  rw [nX_eq]
  refine Tri.seq (Mid := fun a w => ∃ b, (b 0).s.size = 220 ∧ At w0 N (vb b g z) nSX a w) ?_ ?_
  · refine Tri.seq (Mid := fun a w => ∃ b, (PgB b ∧ (b 0).s.size = 12) ∧ At w0 N (vb b g z) (nH (.ofNat 0)) a w) ?_ (nLoop.post fun e a w h => .inl h)
    refine (Tri.run (codeN _ _) (envR_ok (nFb_ok hp)) nRun2 (ren_nb (by decide))).post fun e a w hq => .inl ⟨hq.1, nb (nb b nR1) nR2, ⟨?_, ?_⟩, hq.2⟩
    · have hid2 : nR2.idEx [] = true := by decide
      have con2 : ∀ {n : Nat}, ([] : List Nat).contains n = false := fun {n} => rfl
      exact ⟨by rw [nb_id hid2 con2]; exact hp.id0, by rw [nb_id hid2 con2]; exact hp.id1, by rw [nb_id hid2 con2]; exact hp.l0, by rw [nb_id hid2 con2]; exact hp.l1, fun j hj => by rw [nb_id hid2 con2, nb_id hid2 con2]; exact hp.c j hj⟩
    · exact hs
  · refine Tri.ex fun b' => Tri.imp fun hb' => ?_
    have k1 : ((vb b' g z).s (.f1 2003 (.num (.ofNat 24)))).size = 24 := by rw [sz_rep (vb_pp b' g z)]; rfl
    have k2 : ((vb b' g z).s (.f2 1430 (.v 0) (.f1 2003 (.num (.ofNat 24))))).size = 244 := by
      rw [sz_cat (vb_std b' g z), k1]
      show (b' 0).s.size + 24 = _
      omega
    have k3 : ((vb b' g z).s (.f2 2001 (.f2 1430 (.v 0) (.f1 2003 (.num (.ofNat 24)))) (.f2 2002 (.f1 2004 (.f2 1430 (.v 0) (.f1 2003 (.num (.ofNat 24))))) (.num (.ofNat 4))))).size = 248 := by
      rw [sz_put (vb_pp b' g z), k2]; rfl
    have k4 : (vb b' g z).i (.f1 2004 (.f2 1430 (.v 0) (.f1 2003 (.num (.ofNat 24))))) ≤ 4294967295 := by
      rw [(vb_pp b' g z).sum]
      have : crcF ((vb b' g z).s (.f2 1430 (.v 0) (.f1 2003 (.num (.ofNat 24))))).data.toList < 4294967296 := xor_lt (by decide) (crcL_lt _ (by decide))
      omega
    have k5 : 0 ≤ (vb b' g z).i (.f1 2004 (.f2 1430 (.v 0) (.f1 2003 (.num (.ofNat 24))))) := by
      rw [(vb_pp b' g z).sum]; exact Int.natCast_nonneg _
    have fe : ∀ f ∈ nGe, f.holds QR (vb b' g z) := facts_cons (eqN hb') (facts_cons (eqN k1) (facts_cons (eqN k2) (facts_cons ⟨k5, k4⟩ (facts_cons (eqN k3) facts_nil))))
    exact (Tri.run (codeN _ _) (envR_ok fe) nRunE (ren_nb (by decide))).post fun e a w hq => ⟨hq.1, _, _, nSE.hp, (by kernel_rfl), hq.2⟩
end
def pgBase (id lsn : Int) (cs : List (Bool × ByteArray)) (n : Nat) : MV :=
  if n = 1 then { i := id } else if n = 2 then { i := lsn } else if n < 10 then {} else { b := ((cs[(n - 10) / 2]?).getD (false, ⟨#[]⟩)).1, s := ((cs[(n - 10) / 2]?).getD (false, ⟨#[]⟩)).2 }
theorem pg_args {id lsn : Int} {cs : List (Bool × ByteArray)} (hl : cs.length = 16) (g : Nm → Value) (z : Nat → Option Obj) : ∃ l, nS0.fr = [(.x0, .x0, .a l)] ∧ All2 (VC (vb (pgBase id lsn cs) g z) (Emb.nil z)) l (pgLst id lsn cs) := by
  match cs, hl with
  | [c0, c1, c2, c3, c4, c5, c6, c7, c8, c9, c10, c11, c12, c13, c14, c15], _ =>
    refine ⟨_, rfl, ?_⟩
    refine .cons rfl (.cons rfl ?_)
    exact .cons rfl (.cons rfl (.cons rfl (.cons rfl (.cons rfl (.cons rfl (.cons rfl (.cons rfl (.cons rfl (.cons rfl (.cons rfl (.cons rfl (.cons rfl (.cons rfl (.cons rfl (.cons rfl (.cons rfl (.cons rfl (.cons rfl (.cons rfl (.cons rfl (.cons rfl (.cons rfl (.cons rfl (.cons rfl (.cons rfl (.cons rfl (.cons rfl (.cons rfl (.cons rfl (.cons rfl (.cons rfl .nil)))))))))))))))))))))))))))))))
def natEn (F : List Fc) : List AV → Option AV
  | [.a (c0 :: c1 :: l)] => bif pageB F c0 c1 l && numIn F c1 1 1099511627776 then some (.t [.c .top, .c (.i .i64 0)]) else none
  | _ => none
theorem natEn_ok (F : List Fc) : NatOk Tryz.prog (envR F) 110 (natEn F) := by
  intro vs v hv ρ φ h w us he hr hu
  have hp := envR_prop he
  unfold natEn at hv
  split at hv
  · rename_i c0 c1 l
    cases hc : (pageB F c0 c1 l && numIn F c1 1 1099511627776) with
    | false => rw [hc] at hv; cases hv
    | true =>
      rw [hc] at hv
      cases hv
      rw [Bool.and_eq_true] at hc
      cases hu with
      | cons a1 t1 =>
        cases t1
        obtain ⟨xs, rfl, hx⟩ := a1
        cases hx with
        | cons x1 t2 =>
          cases t2 with
          | cons x2 t3 =>
            obtain ⟨id, lsn, cs, e, g1, g2, g3, g4, g5, g6⟩ := pageB_ok hp.1 hp.2 hc.1 x1 x2 t3
            obtain ⟨n, hn, q1, q2⟩ := numIn_ok hp.1 hp.2 hc.2 x2
            have hln : n = lsn := by
              rw [hn] at e
              injection e with e1 e2
              injection e2 with e3 e4
              injection e3
            subst hln
            rw [e]
            obtain ⟨L, hL1, hL2⟩ := pg_args (id := id) (lsn := n) g5 (fun _ => .bool false) φ.z
            refine (law_val (s0 := nS0) (ac := nBody) (res := nRes) (args := [.a L]) (ρ := vb (pgBase id n cs) (fun _ => .bool false) φ.z) Tryz.func110 (by kernel_rfl) ⟨_, rfl, (by unfold Lit.frame; rw [hL1])⟩ rfl (.cons ⟨_, rfl, hL2⟩ .nil) w (fun b x hb => (hr.frz.at_ b x hb).1) (enc_tri ⟨g1, (by show id ≤ 63; omega), q1, q2, fun j hj => ?_⟩)).mono ?_
            · obtain ⟨c, hc⟩ := list_cases (d := cs) (i := j) (by omega)
              have e1 : pgBase id n cs (10 + 2 * j) = { b := c.1, s := c.2 } := by
                unfold pgBase
                rw [if_neg (by omega), if_neg (by omega), if_neg (by omega), show (10 + 2 * j - 10) / 2 = j by omega, hc]; rfl
              have e2 : pgBase id n cs (11 + 2 * j) = { b := c.1, s := c.2 } := by
                unfold pgBase
                rw [if_neg (by omega), if_neg (by omega), if_neg (by omega), show (11 + 2 * j - 10) / 2 = j by omega, hc]; rfl
              rw [e1, e2]
              have := g6 c (List.mem_of_getElem? hc)
              exact ⟨this.1, this.2.1⟩
            · rintro en w' ⟨⟨u, ρ', φ', rfl, us', rfl, hv⟩, b⟩
              cases hv with
              | cons v1 t4 =>
                cases t4 with
                | cons v2 t5 =>
                  cases t5
                  exact ⟨_, φ, rfl, ⟨_, rfl, .cons (show VT ρ φ (.c .top) _ from v1) (.cons (show VT ρ φ (.c (.i .i64 0)) _ from v2) .nil)⟩, hr.keepS b⟩
  · cases hv
end Go.Proofs.YtnofmmceafkkoaaGreat
