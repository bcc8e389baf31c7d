/-
  KernelFlushes: the runs around the loop.
-/
import Derived.Test.YtpnlcoolbimmjaaGreatSg
import Derived.Test.YtpnlcoolbimmjaaGreatFS
import Derived.Test.YtpnlcoolbimmjaaGreatFrRow
import Derived.KernelRfl
namespace Go.Proofs.YtpnlcoolbimmjaaGreat
open Go.RowKit
set_option maxRecDepth 100000
set_option linter.unusedVariables false
def l1N : List AOp := (regA kNew).take M1
def l2N : List AOp := (regA kNew).drop M2
theorem kN_eq : kN = .seq kNew kRest := by kernel_rfl
theorem kL_eq : kL = .seq kLs kEnd := by kernel_rfl
theorem kLs_eq : kLs = .seq kIni kBlk := by kernel_rfl
theorem kBlk_eq : kBlk = .block M0 (.loop kBody) := by kernel_rfl
theorem kNew_eq : kNew = .reg (l1N ++ ⟨some (.x1, .x7), .call B005 [.t .x1 .x6, .k (.c Z60)], none⟩ :: l2N) := by kernel_rfl
theorem cut1 : cutA M2 bodyF = some (cutL M2 bodyF, kN) := by kernel_rfl
theorem cut2 : cutA M5 kRest = some (cutL M5 kRest, kL) := by kernel_rfl
def s0 : Lit := ⟨[(.x0, .x0, (.c (.gv (.v M7)))), (.x0, .x1, (.c (.sb (.v M3))))], [], B000⟩
def s1N : Lit := ⟨[(.x0, .x1, (.c (.sb (.v M3)))), (.x1, .x6, (.c (.gv (.v M7))))], [], B000⟩
def s2G : Lit := ⟨[(.x0, .x1, (.c (.sb (.v M3)))), (.x0, .x5, (.c (.gv (.v M8))))], [], B000⟩
def SI : Lit := ⟨[(.x0, .x1, (.c (.sb (.v M3)))), (.x0, .x5, (.c (.p B000 M0))), (.x0, .x6, (.c (.p B001 M0))), (.x0, .x8, (.c Z1)), (.x0, .xb, (.c (.si .i64 (.v M1))))], [(B000, (.cells [.ds (.i .u8 .nil) (.v M9), .si .i64 (.v M2)])), (B001, (.cells [Z1, Z2, Z1, .sn, Z0, Z1, .su B002 M0 M1 M1 M37, Z0, .sn, .sn, .su B003 M0 M1 M1 M6, .sl B004 M0 M1 M1, .sn])), (B002, (.cells [Z0, Z0, .b false, .s [], .b false, .s [], .b false, .s [], .b false, .s [], .b false, .s [], .b false, .s [], .b false, .s [], .b false, .s [], .b false, .s [], .b false, .s [], .b false, .s [], .b false, .s [], .b false, .s [], .b false, .s [], .b false, .s [], .b false, .s [], .b false, Z0, .b true])), (B003, (.cells [Z1, Z1, Z0, Z0, .sn, .sn])), (B004, (.cells [Z0, Z0, Z0]))], B005⟩
def s2O : Lit := ⟨(.x0, .x5, .c (.p B000 M0)) :: s2G.fr, [(B000, .cells [.ds shP (.v M9), .si .i64 (.v M2)])], B001⟩
def sEnd : Lit := ⟨[(.x0, .x4, .c (.b true))], [], B000⟩
def nmG : Nms := ⟨[], [], [(.v M3, .v M3)], [], [(.v M7, .v M7), (.v M8, .v M8)]⟩
noncomputable abbrev envG : Env := envA ([] ++ (FB ++ F0))
noncomputable abbrev cl0 : CallF := callBy tbl (aev Tryz.prog envG tbl M3)
theorem runA : endsAt .nrm [] nmG s0 (runL Tryz.prog envG tbl M60 (cutL M2 bodyF) s0.frame s0.hp) = true := by kernel_rfl
theorem runN1 : endsR [] nmG s1N (aregion Tryz.prog envG cl0 l1N s0.frame s0.hp) = true := by kernel_rfl
theorem runN2 : endsR [] nmG s2G (aregion Tryz.prog envG cl0 l2N (s1N.put P17 (.c (.gv (.v M8)))).frame (s1N.put P17 (.c (.gv (.v M8)))).hp) = true := by kernel_rfl
def gIE : List Fact := [.cmp .geq (.v M2) (.f1 M5 (.v M9)) true]
def nIE : Nms := ⟨[((.num J1), (.v M1)), ((.v M2), (.v M2))], [], [(.v M3, .v M3)], [(.v M9, .v M9)], []⟩
theorem runIE : endsAt .nrm [(B000, B000), (B008, B001), (B06c, B002), (B017, B003), (B003, B004)] nIE SI (runL Tryz.prog (envA (gIE ++ (FB ++ F0))) tbl M8000 (cutL M5 kRest) s2O.frame s2O.hp) = true := by kernel_rfl
def gID : List Fact := [.cmp .geq (.v M2) (.f1 M5 (.v M9)) false, .cmp .lss (.v M2) (.f1 M5 (.v M9)) true, .rng (.f2 M0 (.v M2) (.num J1)) J0 J60, .rng (.f2 M100 (.v M9) (.v M2)) J0 J255, .rng (.f2 M3 (.f2 M100 (.v M9) (.v M2)) (.num J5)) J0 J4, .rng (.f2 M0 (.num J1) (.f2 M3 (.f2 M100 (.v M9) (.v M2)) (.num J5))) J1 J5]
def nID : Nms := ⟨[((.f2 M0 (.num J1) (.f2 M3 (.f2 M100 (.v M9) (.v M2)) (.num J5))), (.v M1)), ((.f2 M0 (.v M2) (.num J1)), (.v M2))], [], [(.v M3, .v M3)], [(.v M9, .v M9)], []⟩
theorem runID : endsAt .nrm [(B000, B000), (B008, B001), (B06c, B002), (B017, B003), (B003, B004)] nID SI (runL Tryz.prog (envA (gID ++ (FB ++ F0))) tbl M8000 (cutL M5 kRest) s2O.frame s2O.hp) = true := by kernel_rfl
def nX0 : Nms := ⟨[((.v M1), (.v M1)), ((.v M2), (.v M2))], [], [(.v M3, .v M3)], [(.v M9, .v M9)], []⟩
def gX0 : List Fact := [.cmp .lss (.num J0) (.v M1) false]
def nX1 : Nms := ⟨[((.v M1), (.v M1)), ((.v M2), (.v M2)), ((.v M10), (.v M10))], [], [(.v M3, .v M3)], [(.v M9, .v M9)], []⟩
def gX1 : List Fact := [.cmp .lss (.num J1) (.v M1) false]
def nX2 : Nms := ⟨[((.v M1), (.v M1)), ((.v M2), (.v M2)), ((.v M10), (.v M10)), ((.v M11), (.v M11))], [], [(.v M3, .v M3)], [(.v M9, .v M9)], []⟩
def gX2 : List Fact := [.cmp .lss (.num J2) (.v M1) false]
def nX3 : Nms := ⟨[((.v M1), (.v M1)), ((.v M2), (.v M2)), ((.v M10), (.v M10)), ((.v M11), (.v M11)), ((.v M12), (.v M12))], [], [(.v M3, .v M3)], [(.v M9, .v M9)], []⟩
def gX3 : List Fact := [.cmp .lss (.num J3) (.v M1) false]
def nX4 : Nms := ⟨[((.v M1), (.v M1)), ((.v M2), (.v M2)), ((.v M10), (.v M10)), ((.v M11), (.v M11)), ((.v M12), (.v M12)), ((.v M13), (.v M13))], [], [(.v M3, .v M3)], [(.v M9, .v M9)], []⟩
def gX4 : List Fact := [.cmp .lss (.num J4) (.v M1) false]
def nX5 : Nms := ⟨[((.v M1), (.v M1)), ((.v M2), (.v M2)), ((.v M10), (.v M10)), ((.v M11), (.v M11)), ((.v M12), (.v M12)), ((.v M13), (.v M13)), ((.v M14), (.v M14))], [], [(.v M3, .v M3)], [(.v M9, .v M9)], []⟩
def gX5 : List Fact := [.cmp .lss (.num J5) (.v M1) false]
theorem runH : endsAt .nrm [(B000, B000), (B001, B001), (B002, B002), (B003, B003), (B004, B004)] nX0 SS0 (aev Tryz.prog envG tbl M60 kIni SI.frame SI.hp) = true := by kernel_rfl
def iq0 : List (Bid × Bid) := [(B000, B000), (B001, B001), (B002, B002), (B003, B003), (B004, B004)]
def iq1 : List (Bid × Bid) := [(B000, B000), (B001, B001), (B002, B002), (B003, B003), (B004, B004), (B005, B005), (B006, B006), (B007, B007), (B008, B008)]
noncomputable abbrev RunX (m : List (Bid × Bid)) (nm : Nms) (s : Lit) (G : List Fact) : Prop := endsAt (.ex M0) m nm s (aev Tryz.prog (envA (G ++ (FB ++ F0))) tbl M60 kBody s.frame s.hp) = true
theorem runX0 : RunX iq0 nX0 SS0 gX0 := by unfold RunX; kernel_rfl
theorem runX1 : RunX iq1 nX1 SS1 gX1 := by unfold RunX; kernel_rfl
theorem runX2 : RunX iq1 nX1 SS2 gX1 := by unfold RunX; kernel_rfl
theorem runX3 : RunX iq1 nX1 SS3 gX1 := by unfold RunX; kernel_rfl
theorem runX4 : RunX iq1 nX1 SS4 gX1 := by unfold RunX; kernel_rfl
theorem runX5 : RunX iq1 nX2 SS5 gX2 := by unfold RunX; kernel_rfl
theorem runX6 : RunX iq1 nX2 SS6 gX2 := by unfold RunX; kernel_rfl
theorem runX7 : RunX iq1 nX2 SS7 gX2 := by unfold RunX; kernel_rfl
theorem runX8 : RunX iq1 nX2 SS8 gX2 := by unfold RunX; kernel_rfl
theorem runX9 : RunX iq1 nX2 SS9 gX2 := by unfold RunX; kernel_rfl
theorem runX10 : RunX iq1 nX2 SS10 gX2 := by unfold RunX; kernel_rfl
theorem runX11 : RunX iq1 nX2 SS11 gX2 := by unfold RunX; kernel_rfl
theorem runX12 : RunX iq1 nX2 SS12 gX2 := by unfold RunX; kernel_rfl
theorem runX13 : RunX iq1 nX2 SS13 gX2 := by unfold RunX; kernel_rfl
theorem runX14 : RunX iq1 nX2 SS14 gX2 := by unfold RunX; kernel_rfl
theorem runX15 : RunX iq1 nX3 SS15 gX3 := by unfold RunX; kernel_rfl
theorem runX16 : RunX iq1 nX3 SS16 gX3 := by unfold RunX; kernel_rfl
theorem runX17 : RunX iq1 nX3 SS17 gX3 := by unfold RunX; kernel_rfl
theorem runX18 : RunX iq1 nX3 SS18 gX3 := by unfold RunX; kernel_rfl
theorem runX19 : RunX iq1 nX3 SS19 gX3 := by unfold RunX; kernel_rfl
theorem runX20 : RunX iq1 nX3 SS20 gX3 := by unfold RunX; kernel_rfl
theorem runX21 : RunX iq1 nX3 SS21 gX3 := by unfold RunX; kernel_rfl
theorem runX22 : RunX iq1 nX3 SS22 gX3 := by unfold RunX; kernel_rfl
theorem runX23 : RunX iq1 nX3 SS23 gX3 := by unfold RunX; kernel_rfl
theorem runX24 : RunX iq1 nX3 SS24 gX3 := by unfold RunX; kernel_rfl
theorem runX25 : RunX iq1 nX3 SS25 gX3 := by unfold RunX; kernel_rfl
theorem runX26 : RunX iq1 nX3 SS26 gX3 := by unfold RunX; kernel_rfl
theorem runX27 : RunX iq1 nX3 SS27 gX3 := by unfold RunX; kernel_rfl
theorem runX28 : RunX iq1 nX3 SS28 gX3 := by unfold RunX; kernel_rfl
theorem runX29 : RunX iq1 nX3 SS29 gX3 := by unfold RunX; kernel_rfl
theorem runX30 : RunX iq1 nX3 SS30 gX3 := by unfold RunX; kernel_rfl
theorem runX31 : RunX iq1 nX3 SS31 gX3 := by unfold RunX; kernel_rfl
theorem runX32 : RunX iq1 nX3 SS32 gX3 := by unfold RunX; kernel_rfl
theorem runX33 : RunX iq1 nX3 SS33 gX3 := by unfold RunX; kernel_rfl
theorem runX34 : RunX iq1 nX3 SS34 gX3 := by unfold RunX; kernel_rfl
theorem runX35 : RunX iq1 nX4 SS35 gX4 := by unfold RunX; kernel_rfl
theorem runX36 : RunX iq1 nX4 SS36 gX4 := by unfold RunX; kernel_rfl
theorem runX37 : RunX iq1 nX4 SS37 gX4 := by unfold RunX; kernel_rfl
theorem runX38 : RunX iq1 nX4 SS38 gX4 := by unfold RunX; kernel_rfl
theorem runX39 : RunX iq1 nX4 SS39 gX4 := by unfold RunX; kernel_rfl
theorem runX40 : RunX iq1 nX4 SS40 gX4 := by unfold RunX; kernel_rfl
theorem runX41 : RunX iq1 nX4 SS41 gX4 := by unfold RunX; kernel_rfl
theorem runX42 : RunX iq1 nX4 SS42 gX4 := by unfold RunX; kernel_rfl
theorem runX43 : RunX iq1 nX4 SS43 gX4 := by unfold RunX; kernel_rfl
theorem runX44 : RunX iq1 nX4 SS44 gX4 := by unfold RunX; kernel_rfl
theorem runX45 : RunX iq1 nX4 SS45 gX4 := by unfold RunX; kernel_rfl
theorem runX46 : RunX iq1 nX4 SS46 gX4 := by unfold RunX; kernel_rfl
theorem runX47 : RunX iq1 nX4 SS47 gX4 := by unfold RunX; kernel_rfl
theorem runX48 : RunX iq1 nX4 SS48 gX4 := by unfold RunX; kernel_rfl
theorem runX49 : RunX iq1 nX4 SS49 gX4 := by unfold RunX; kernel_rfl
theorem runX50 : RunX iq1 nX4 SS50 gX4 := by unfold RunX; kernel_rfl
theorem runX51 : RunX iq1 nX4 SS51 gX4 := by unfold RunX; kernel_rfl
theorem runX52 : RunX iq1 nX4 SS52 gX4 := by unfold RunX; kernel_rfl
theorem runX53 : RunX iq1 nX4 SS53 gX4 := by unfold RunX; kernel_rfl
theorem runX54 : RunX iq1 nX4 SS54 gX4 := by unfold RunX; kernel_rfl
theorem runX55 : RunX iq1 nX4 SS55 gX4 := by unfold RunX; kernel_rfl
theorem runX56 : RunX iq1 nX4 SS56 gX4 := by unfold RunX; kernel_rfl
theorem runX57 : RunX iq1 nX4 SS57 gX4 := by unfold RunX; kernel_rfl
theorem runX58 : RunX iq1 nX4 SS58 gX4 := by unfold RunX; kernel_rfl
theorem runX59 : RunX iq1 nX4 SS59 gX4 := by unfold RunX; kernel_rfl
theorem runX60 : RunX iq1 nX4 SS60 gX4 := by unfold RunX; kernel_rfl
theorem runX61 : RunX iq1 nX4 SS61 gX4 := by unfold RunX; kernel_rfl
theorem runX62 : RunX iq1 nX4 SS62 gX4 := by unfold RunX; kernel_rfl
theorem runX63 : RunX iq1 nX4 SS63 gX4 := by unfold RunX; kernel_rfl
theorem runX64 : RunX iq1 nX4 SS64 gX4 := by unfold RunX; kernel_rfl
theorem runX65 : RunX iq1 nX4 SS65 gX4 := by unfold RunX; kernel_rfl
theorem runX66 : RunX iq1 nX4 SS66 gX4 := by unfold RunX; kernel_rfl
theorem runX67 : RunX iq1 nX4 SS67 gX4 := by unfold RunX; kernel_rfl
theorem runX68 : RunX iq1 nX4 SS68 gX4 := by unfold RunX; kernel_rfl
theorem runX69 : RunX iq1 nX4 SS69 gX4 := by unfold RunX; kernel_rfl
theorem runX70 : RunX iq1 nX5 SS70 gX5 := by unfold RunX; kernel_rfl
theorem runX71 : RunX iq1 nX5 SS71 gX5 := by unfold RunX; kernel_rfl
theorem runX72 : RunX iq1 nX5 SS72 gX5 := by unfold RunX; kernel_rfl
theorem runX73 : RunX iq1 nX5 SS73 gX5 := by unfold RunX; kernel_rfl
theorem runX74 : RunX iq1 nX5 SS74 gX5 := by unfold RunX; kernel_rfl
theorem runX75 : RunX iq1 nX5 SS75 gX5 := by unfold RunX; kernel_rfl
theorem runX76 : RunX iq1 nX5 SS76 gX5 := by unfold RunX; kernel_rfl
theorem runX77 : RunX iq1 nX5 SS77 gX5 := by unfold RunX; kernel_rfl
theorem runX78 : RunX iq1 nX5 SS78 gX5 := by unfold RunX; kernel_rfl
theorem runX79 : RunX iq1 nX5 SS79 gX5 := by unfold RunX; kernel_rfl
theorem runX80 : RunX iq1 nX5 SS80 gX5 := by unfold RunX; kernel_rfl
theorem runX81 : RunX iq1 nX5 SS81 gX5 := by unfold RunX; kernel_rfl
theorem runX82 : RunX iq1 nX5 SS82 gX5 := by unfold RunX; kernel_rfl
theorem runX83 : RunX iq1 nX5 SS83 gX5 := by unfold RunX; kernel_rfl
theorem runX84 : RunX iq1 nX5 SS84 gX5 := by unfold RunX; kernel_rfl
theorem runX85 : RunX iq1 nX5 SS85 gX5 := by unfold RunX; kernel_rfl
theorem runX86 : RunX iq1 nX5 SS86 gX5 := by unfold RunX; kernel_rfl
theorem runX87 : RunX iq1 nX5 SS87 gX5 := by unfold RunX; kernel_rfl
theorem runX88 : RunX iq1 nX5 SS88 gX5 := by unfold RunX; kernel_rfl
theorem runX89 : RunX iq1 nX5 SS89 gX5 := by unfold RunX; kernel_rfl
theorem runX90 : RunX iq1 nX5 SS90 gX5 := by unfold RunX; kernel_rfl
theorem runX91 : RunX iq1 nX5 SS91 gX5 := by unfold RunX; kernel_rfl
theorem runX92 : RunX iq1 nX5 SS92 gX5 := by unfold RunX; kernel_rfl
theorem runX93 : RunX iq1 nX5 SS93 gX5 := by unfold RunX; kernel_rfl
theorem runX94 : RunX iq1 nX5 SS94 gX5 := by unfold RunX; kernel_rfl
theorem runX95 : RunX iq1 nX5 SS95 gX5 := by unfold RunX; kernel_rfl
theorem runX96 : RunX iq1 nX5 SS96 gX5 := by unfold RunX; kernel_rfl
theorem runX97 : RunX iq1 nX5 SS97 gX5 := by unfold RunX; kernel_rfl
theorem runX98 : RunX iq1 nX5 SS98 gX5 := by unfold RunX; kernel_rfl
theorem runX99 : RunX iq1 nX5 SS99 gX5 := by unfold RunX; kernel_rfl
theorem runX100 : RunX iq1 nX5 SS100 gX5 := by unfold RunX; kernel_rfl
theorem runX101 : RunX iq1 nX5 SS101 gX5 := by unfold RunX; kernel_rfl
theorem runX102 : RunX iq1 nX5 SS102 gX5 := by unfold RunX; kernel_rfl
theorem runX103 : RunX iq1 nX5 SS103 gX5 := by unfold RunX; kernel_rfl
theorem runX104 : RunX iq1 nX5 SS104 gX5 := by unfold RunX; kernel_rfl
theorem runX105 : RunX iq1 nX5 SS105 gX5 := by unfold RunX; kernel_rfl
theorem runX106 : RunX iq1 nX5 SS106 gX5 := by unfold RunX; kernel_rfl
theorem runX107 : RunX iq1 nX5 SS107 gX5 := by unfold RunX; kernel_rfl
theorem runX108 : RunX iq1 nX5 SS108 gX5 := by unfold RunX; kernel_rfl
theorem runX109 : RunX iq1 nX5 SS109 gX5 := by unfold RunX; kernel_rfl
theorem runX110 : RunX iq1 nX5 SS110 gX5 := by unfold RunX; kernel_rfl
theorem runX111 : RunX iq1 nX5 SS111 gX5 := by unfold RunX; kernel_rfl
theorem runX112 : RunX iq1 nX5 SS112 gX5 := by unfold RunX; kernel_rfl
theorem runX113 : RunX iq1 nX5 SS113 gX5 := by unfold RunX; kernel_rfl
theorem runX114 : RunX iq1 nX5 SS114 gX5 := by unfold RunX; kernel_rfl
theorem runX115 : RunX iq1 nX5 SS115 gX5 := by unfold RunX; kernel_rfl
theorem runX116 : RunX iq1 nX5 SS116 gX5 := by unfold RunX; kernel_rfl
theorem runX117 : RunX iq1 nX5 SS117 gX5 := by unfold RunX; kernel_rfl
theorem runX118 : RunX iq1 nX5 SS118 gX5 := by unfold RunX; kernel_rfl
theorem runX119 : RunX iq1 nX5 SS119 gX5 := by unfold RunX; kernel_rfl
theorem runX120 : RunX iq1 nX5 SS120 gX5 := by unfold RunX; kernel_rfl
theorem runX121 : RunX iq1 nX5 SS121 gX5 := by unfold RunX; kernel_rfl
theorem runX122 : RunX iq1 nX5 SS122 gX5 := by unfold RunX; kernel_rfl
theorem runX123 : RunX iq1 nX5 SS123 gX5 := by unfold RunX; kernel_rfl
theorem runX124 : RunX iq1 nX5 SS124 gX5 := by unfold RunX; kernel_rfl
theorem runX125 : RunX iq1 nX5 SS125 gX5 := by unfold RunX; kernel_rfl
end Go.Proofs.YtpnlcoolbimmjaaGreat
