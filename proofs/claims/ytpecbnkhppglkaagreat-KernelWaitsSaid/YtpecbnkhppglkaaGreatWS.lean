/-
  KernelWaits: its parts, the states between them, and the runs that are no cases.
-/
import Derived.Test.YtpecbnkhppglkaaGreatWB
import Derived.Test.YtpecbnkhppglkaaGreatSymA
import Derived.Test.YtpecbnkhppglkaaGreatTriC
import Derived.KernelRfl
namespace Go.Proofs.YtpecbnkhppglkaaGreat
open Go.RowKit
set_option maxRecDepth 100000
set_option linter.unusedVariables false
def bodyW : ACd := bodyA c5
def resW : List AR := resA c5
def wN : ACd := cutR (nat_lit 2) bodyW
def wNew : ACd := fstA wN
def wRest : ACd := sndA wN
def wL : ACd := cutR (nat_lit 8) wRest
def wLs : ACd := fstA wL
def wEnd : ACd := sndA wL
def wInit : ACd := fstA wLs
def wBlk : ACd := sndA wLs
def wBody : ACd := innA (innA wBlk)
def wC : ACd := fstA wBody
def wB1 : ACd := fstA (sndA wBody)
def wInc : ACd := sndA (sndA wBody)
def wAct : ACd := fstA (innA wB1)
def wRst : ACd := sndA (innA wB1)
def l1N : List AOp := (regA wNew).take (nat_lit 1)
def l2N : List AOp := (regA wNew).drop (nat_lit 2)
def l1A : List AOp := (regA wAct).take (nat_lit 1)
def l2A : List AOp := (regA wAct).drop (nat_lit 2)
theorem wN_eq : wN = .seq wNew wRest := by kernel_rfl
theorem wL_eq : wL = .seq wLs wEnd := by kernel_rfl
theorem wLs_eq : wLs = .seq wInit wBlk := by kernel_rfl
theorem wBlk_eq : wBlk = .block (nat_lit 0) (.loop wBody) := by kernel_rfl
theorem wBody_eq : wBody = .seq wC (.seq wB1 wInc) := by kernel_rfl
theorem wB1_eq : wB1 = .block (nat_lit 1) (.seq wAct wRst) := by kernel_rfl
theorem wNew_eq : wNew = .reg (l1N ++ ⟨some (.x1, .x5), .call ⟨.x0, .x1, .x3⟩ [.t .x1 .x4, .k (.c (.i .i64 (Int.ofNat (nat_lit 100))))], none⟩ :: l2N) := by kernel_rfl
theorem wAct_eq : wAct = .reg (l1A ++ ⟨some (.x5, .x5), .call ⟨.x0, .x2, .x5⟩ [.t .x5 .x4, .k (.c (.i .i64 (Int.ofNat (nat_lit 1))))], none⟩ :: l2A) := by kernel_rfl
theorem cut1 : cutA (nat_lit 2) bodyW = some (cutL (nat_lit 2) bodyW, wN) := by kernel_rfl
theorem cut2 : cutA (nat_lit 8) wRest = some (cutL (nat_lit 8) wRest, wL) := by kernel_rfl
def s0 : Lit := ⟨[(.x0, .x0, (.c (.gv (.v (nat_lit 9)))))], [], ⟨.x0, .x0, .x0⟩⟩
def sA : Lit := ⟨[(.x0, .x0, (.c (.gv (.v (nat_lit 9)))))], [], ⟨.x0, .x0, .x0⟩⟩
def s1N : Lit := ⟨[(.x1, .x4, (.c (.gv (.v (nat_lit 9)))))], [], ⟨.x0, .x0, .x0⟩⟩
def s2N : Lit := ⟨[(.x0, .x3, (.c (.gv (.v (nat_lit 8)))))], [], ⟨.x0, .x0, .x0⟩⟩
def sI : Lit := ⟨[(.x0, .x3, (.c (.gv (.v (nat_lit 8))))), (.x0, .x4, (.c (.p ⟨.x0, .x0, .x0⟩ (nat_lit 0)))), (.x0, .x8, (.c (.i .i64 (Int.ofNat (nat_lit 2)))))], [(⟨.x0, .x0, .x0⟩, (.cells [.i .i64 (Int.ofNat (nat_lit 1)), .i .i64 (Int.ofNat (nat_lit 3)), .i .i64 (Int.ofNat (nat_lit 1)), .su ⟨.x0, .x0, .x1⟩ (nat_lit 0) (nat_lit 1) (nat_lit 1) (nat_lit 13), .i .i64 (Int.ofNat (nat_lit 0)), .i .i64 (Int.ofNat (nat_lit 1)), .su ⟨.x0, .x0, .x2⟩ (nat_lit 0) (nat_lit 1) (nat_lit 1) (nat_lit 37), .i .i64 (Int.ofNat (nat_lit 0)), .su ⟨.x0, .x0, .x3⟩ (nat_lit 0) (nat_lit 1) (nat_lit 1) (nat_lit 4), .su ⟨.x0, .x0, .x4⟩ (nat_lit 0) (nat_lit 1) (nat_lit 1) (nat_lit 4), .su ⟨.x0, .x0, .x5⟩ (nat_lit 0) (nat_lit 2) (nat_lit 2) (nat_lit 6), .sl ⟨.x0, .x0, .x6⟩ (nat_lit 0) (nat_lit 1) (nat_lit 1), .sn])), (⟨.x0, .x0, .x1⟩, (.cells [.i .i64 (Int.ofNat (nat_lit 1)), .i .i64 (Int.ofNat (nat_lit 1)), .i .i64 (Int.ofNat (nat_lit 1)), .i .i64 (Int.ofNat (nat_lit 0)), .i .i64 (Int.ofNat (nat_lit 0)), .i .i64 (Int.ofNat (nat_lit 0)), .i .i64 (Int.ofNat (nat_lit 0)), .i .i64 (Int.ofNat (nat_lit 1)), .b false, .s [], .b true, .s [], .s []])), (⟨.x0, .x0, .x2⟩, (.cells [.i .i64 (Int.ofNat (nat_lit 0)), .i .i64 (Int.ofNat (nat_lit 1)), .b false, .s [], .b true, .s [], .b false, .s [], .b false, .s [], .b false, .s [], .b false, .s [], .b false, .s [], .b false, .s [], .b false, .s [], .b false, .s [], .b false, .s [], .b false, .s [], .b false, .s [], .b false, .s [], .b false, .s [], .b false, .s [], .b true, .i .i64 (Int.ofNat (nat_lit 1)), .b true])), (⟨.x0, .x0, .x3⟩, (.cells [.i .i64 (Int.ofNat (nat_lit 1)), .i .i64 (Int.ofNat (nat_lit 0)), .i .i64 (Int.ofNat (nat_lit 1)), .i .i64 (Int.ofNat (nat_lit 2))])), (⟨.x0, .x0, .x4⟩, (.cells [.i .i64 (Int.ofNat (nat_lit 2)), .i .i64 (Int.ofNat (nat_lit 0)), .i .i64 (Int.ofNat (nat_lit 1)), .i .i64 (Int.ofNat (nat_lit 1))])), (⟨.x0, .x0, .x5⟩, (.cells [.i .i64 (Int.ofNat (nat_lit 1)), .i .i64 (Int.ofNat (nat_lit 1)), .i .i64 (Int.ofNat (nat_lit 1)), .i .i64 (Int.ofNat (nat_lit 0)), .su ⟨.x0, .x0, .x7⟩ (nat_lit 0) (nat_lit 1) (nat_lit 1) (nat_lit 1), .sn, .i .i64 (Int.ofNat (nat_lit 2)), .i .i64 (Int.ofNat (nat_lit 1)), .i .i64 (Int.ofNat (nat_lit 0)), .i .i64 (Int.ofNat (nat_lit 0)), .sn, .sn])), (⟨.x0, .x0, .x6⟩, (.cells [.i .i64 (Int.ofNat (nat_lit 0)), .i .i64 (Int.ofNat (nat_lit 0)), .i .i64 (Int.ofNat (nat_lit 0))])), (⟨.x0, .x0, .x7⟩, (.cells [.i .i64 (Int.ofNat (nat_lit 1))]))], ⟨.x0, .x0, .x8⟩⟩
def SH : Lit := ⟨[(.x0, .x3, (.c (.gv (.v (nat_lit 8))))), (.x0, .x4, (.c (.p ⟨.x0, .x0, .x0⟩ (nat_lit 0)))), (.x0, .x8, (.c (.i .i64 (Int.ofNat (nat_lit 2))))), (.x0, .xd, (.c (.si .i64 (.v (nat_lit 1)))))], [(⟨.x0, .x0, .x0⟩, (.cells [.i .i64 (Int.ofNat (nat_lit 1)), .i .i64 (Int.ofNat (nat_lit 3)), .i .i64 (Int.ofNat (nat_lit 1)), .su ⟨.x0, .x0, .x1⟩ (nat_lit 0) (nat_lit 1) (nat_lit 1) (nat_lit 13), .i .i64 (Int.ofNat (nat_lit 0)), .i .i64 (Int.ofNat (nat_lit 1)), .su ⟨.x0, .x0, .x2⟩ (nat_lit 0) (nat_lit 1) (nat_lit 1) (nat_lit 37), .i .i64 (Int.ofNat (nat_lit 0)), .su ⟨.x0, .x0, .x3⟩ (nat_lit 0) (nat_lit 1) (nat_lit 1) (nat_lit 4), .su ⟨.x0, .x0, .x4⟩ (nat_lit 0) (nat_lit 1) (nat_lit 1) (nat_lit 4), .su ⟨.x0, .x0, .x5⟩ (nat_lit 0) (nat_lit 2) (nat_lit 2) (nat_lit 6), .sl ⟨.x0, .x0, .x6⟩ (nat_lit 0) (nat_lit 1) (nat_lit 1), .sn])), (⟨.x0, .x0, .x1⟩, (.cells [.i .i64 (Int.ofNat (nat_lit 1)), .i .i64 (Int.ofNat (nat_lit 1)), .i .i64 (Int.ofNat (nat_lit 1)), .i .i64 (Int.ofNat (nat_lit 0)), .i .i64 (Int.ofNat (nat_lit 0)), .i .i64 (Int.ofNat (nat_lit 0)), .i .i64 (Int.ofNat (nat_lit 0)), .i .i64 (Int.ofNat (nat_lit 1)), .b false, .s [], .b true, .s [], .s []])), (⟨.x0, .x0, .x2⟩, (.cells [.i .i64 (Int.ofNat (nat_lit 0)), .i .i64 (Int.ofNat (nat_lit 1)), .b false, .s [], .b true, .s [], .b false, .s [], .b false, .s [], .b false, .s [], .b false, .s [], .b false, .s [], .b false, .s [], .b false, .s [], .b false, .s [], .b false, .s [], .b false, .s [], .b false, .s [], .b false, .s [], .b false, .s [], .b false, .s [], .b true, .i .i64 (Int.ofNat (nat_lit 1)), .b true])), (⟨.x0, .x0, .x3⟩, (.cells [.i .i64 (Int.ofNat (nat_lit 1)), .i .i64 (Int.ofNat (nat_lit 0)), .i .i64 (Int.ofNat (nat_lit 1)), .i .i64 (Int.ofNat (nat_lit 2))])), (⟨.x0, .x0, .x4⟩, (.cells [.i .i64 (Int.ofNat (nat_lit 2)), .i .i64 (Int.ofNat (nat_lit 0)), .i .i64 (Int.ofNat (nat_lit 1)), .i .i64 (Int.ofNat (nat_lit 1))])), (⟨.x0, .x0, .x5⟩, (.cells [.i .i64 (Int.ofNat (nat_lit 1)), .i .i64 (Int.ofNat (nat_lit 1)), .i .i64 (Int.ofNat (nat_lit 1)), .i .i64 (Int.ofNat (nat_lit 0)), .su ⟨.x0, .x0, .x7⟩ (nat_lit 0) (nat_lit 1) (nat_lit 1) (nat_lit 1), .sn, .i .i64 (Int.ofNat (nat_lit 2)), .i .i64 (Int.ofNat (nat_lit 1)), .i .i64 (Int.ofNat (nat_lit 0)), .i .i64 (Int.ofNat (nat_lit 0)), .sn, .sn])), (⟨.x0, .x0, .x6⟩, (.cells [.i .i64 (Int.ofNat (nat_lit 0)), .i .i64 (Int.ofNat (nat_lit 0)), .i .i64 (Int.ofNat (nat_lit 0))])), (⟨.x0, .x0, .x7⟩, (.cells [.i .i64 (Int.ofNat (nat_lit 1))]))], ⟨.x0, .x0, .x8⟩⟩
def s1A : Lit := ⟨[(.x0, .x3, (.c (.gv (.v (nat_lit 8))))), (.x0, .x4, (.c (.p ⟨.x0, .x0, .x0⟩ (nat_lit 0)))), (.x0, .x8, (.c (.i .i64 (Int.ofNat (nat_lit 2))))), (.x0, .xd, (.c (.si .i64 (.v (nat_lit 1))))), (.x5, .x4, (.c (.gv (.v (nat_lit 8)))))], [(⟨.x0, .x0, .x0⟩, (.cells [.i .i64 (Int.ofNat (nat_lit 1)), .i .i64 (Int.ofNat (nat_lit 3)), .i .i64 (Int.ofNat (nat_lit 1)), .su ⟨.x0, .x0, .x1⟩ (nat_lit 0) (nat_lit 1) (nat_lit 1) (nat_lit 13), .i .i64 (Int.ofNat (nat_lit 0)), .i .i64 (Int.ofNat (nat_lit 1)), .su ⟨.x0, .x0, .x2⟩ (nat_lit 0) (nat_lit 1) (nat_lit 1) (nat_lit 37), .i .i64 (Int.ofNat (nat_lit 0)), .su ⟨.x0, .x0, .x3⟩ (nat_lit 0) (nat_lit 1) (nat_lit 1) (nat_lit 4), .su ⟨.x0, .x0, .x4⟩ (nat_lit 0) (nat_lit 1) (nat_lit 1) (nat_lit 4), .su ⟨.x0, .x0, .x5⟩ (nat_lit 0) (nat_lit 2) (nat_lit 2) (nat_lit 6), .sl ⟨.x0, .x0, .x6⟩ (nat_lit 0) (nat_lit 1) (nat_lit 1), .sn])), (⟨.x0, .x0, .x1⟩, (.cells [.i .i64 (Int.ofNat (nat_lit 1)), .i .i64 (Int.ofNat (nat_lit 1)), .i .i64 (Int.ofNat (nat_lit 1)), .i .i64 (Int.ofNat (nat_lit 0)), .i .i64 (Int.ofNat (nat_lit 0)), .i .i64 (Int.ofNat (nat_lit 0)), .i .i64 (Int.ofNat (nat_lit 0)), .i .i64 (Int.ofNat (nat_lit 1)), .b false, .s [], .b true, .s [], .s []])), (⟨.x0, .x0, .x2⟩, (.cells [.i .i64 (Int.ofNat (nat_lit 0)), .i .i64 (Int.ofNat (nat_lit 1)), .b false, .s [], .b true, .s [], .b false, .s [], .b false, .s [], .b false, .s [], .b false, .s [], .b false, .s [], .b false, .s [], .b false, .s [], .b false, .s [], .b false, .s [], .b false, .s [], .b false, .s [], .b false, .s [], .b false, .s [], .b false, .s [], .b true, .i .i64 (Int.ofNat (nat_lit 1)), .b true])), (⟨.x0, .x0, .x3⟩, (.cells [.i .i64 (Int.ofNat (nat_lit 1)), .i .i64 (Int.ofNat (nat_lit 0)), .i .i64 (Int.ofNat (nat_lit 1)), .i .i64 (Int.ofNat (nat_lit 2))])), (⟨.x0, .x0, .x4⟩, (.cells [.i .i64 (Int.ofNat (nat_lit 2)), .i .i64 (Int.ofNat (nat_lit 0)), .i .i64 (Int.ofNat (nat_lit 1)), .i .i64 (Int.ofNat (nat_lit 1))])), (⟨.x0, .x0, .x5⟩, (.cells [.i .i64 (Int.ofNat (nat_lit 1)), .i .i64 (Int.ofNat (nat_lit 1)), .i .i64 (Int.ofNat (nat_lit 1)), .i .i64 (Int.ofNat (nat_lit 0)), .su ⟨.x0, .x0, .x7⟩ (nat_lit 0) (nat_lit 1) (nat_lit 1) (nat_lit 1), .sn, .i .i64 (Int.ofNat (nat_lit 2)), .i .i64 (Int.ofNat (nat_lit 1)), .i .i64 (Int.ofNat (nat_lit 0)), .i .i64 (Int.ofNat (nat_lit 0)), .sn, .sn])), (⟨.x0, .x0, .x6⟩, (.cells [.i .i64 (Int.ofNat (nat_lit 0)), .i .i64 (Int.ofNat (nat_lit 0)), .i .i64 (Int.ofNat (nat_lit 0))])), (⟨.x0, .x0, .x7⟩, (.cells [.i .i64 (Int.ofNat (nat_lit 1))]))], ⟨.x0, .x0, .x8⟩⟩
def nmG : Nms := ⟨[], [], [], [], [(.v (nat_lit 8), .v (nat_lit 8)), (.v (nat_lit 9), .v (nat_lit 9))]⟩
def nmId : Nms := ⟨[(.v (nat_lit 1), .v (nat_lit 1)), (.v (nat_lit 2), .v (nat_lit 2)), (.v (nat_lit 3), .v (nat_lit 3))], [(.v (nat_lit 4), .v (nat_lit 4))], [], [], [(.v (nat_lit 8), .v (nat_lit 8))]⟩
def nmH : Nms := ⟨[(.v (nat_lit 1), .v (nat_lit 1))], [], [], [], [(.v (nat_lit 8), .v (nat_lit 8))]⟩
def nmSu : Nms := ⟨[(.f2 (nat_lit 0) (.v (nat_lit 1)) (.num (Int.ofNat (nat_lit 1))), .v (nat_lit 1))], [], [], [], [(.v (nat_lit 8), .v (nat_lit 8))]⟩
def nm0 : Nms := ⟨[(.num (Int.ofNat (nat_lit 0)), .v (nat_lit 1))], [], [], [], [(.v (nat_lit 8), .v (nat_lit 8))]⟩
def idm : List (Bid × Bid) := [(⟨.x0, .x0, .x0⟩, ⟨.x0, .x0, .x0⟩), (⟨.x0, .x0, .x1⟩, ⟨.x0, .x0, .x1⟩), (⟨.x0, .x0, .x2⟩, ⟨.x0, .x0, .x2⟩), (⟨.x0, .x0, .x3⟩, ⟨.x0, .x0, .x3⟩), (⟨.x0, .x0, .x4⟩, ⟨.x0, .x0, .x4⟩), (⟨.x0, .x0, .x5⟩, ⟨.x0, .x0, .x5⟩), (⟨.x0, .x0, .x6⟩, ⟨.x0, .x0, .x6⟩), (⟨.x0, .x0, .x7⟩, ⟨.x0, .x0, .x7⟩)]
noncomputable abbrev cl0 : CallF := callBy tbl (aev Tryz.prog (envA []) tbl (nat_lit 3))
theorem runA : endsAt .nrm [] nmG sA (runL Tryz.prog (envA []) tbl (nat_lit 30) (cutL (nat_lit 2) bodyW) s0.frame s0.hp) = true := by kernel_rfl
theorem runN1 : endsR [] nmG s1N (aregion Tryz.prog (envA []) cl0 l1N sA.frame sA.hp) = true := by kernel_rfl
theorem runN2 : endsR [] nmG s2N (aregion Tryz.prog (envA []) cl0 l2N (s1N.put (some (.x1, .x5)) (.c (.gv (.v (nat_lit 8))))).frame (s1N.put (some (.x1, .x5)) (.c (.gv (.v (nat_lit 8))))).hp) = true := by kernel_rfl
theorem runI : endsAt .nrm [(⟨.x0, .x0, .x7⟩, ⟨.x0, .x0, .x0⟩), (⟨.x1, .x8, .xb⟩, ⟨.x0, .x0, .x1⟩), (⟨.x2, .x1, .x4⟩, ⟨.x0, .x0, .x2⟩), (⟨.x2, .x7, .x6⟩, ⟨.x0, .x0, .x3⟩), (⟨.x2, .x8, .x2⟩, ⟨.x0, .x0, .x4⟩), (⟨.x1, .xa, .x5⟩, ⟨.x0, .x0, .x5⟩), (⟨.x0, .x0, .x2⟩, ⟨.x0, .x0, .x6⟩), (⟨.x1, .xa, .x2⟩, ⟨.x0, .x0, .x7⟩)] nmG sI (runL Tryz.prog (envA []) tbl (nat_lit 8000) (cutL (nat_lit 8) wRest) s2N.frame s2N.hp) = true := by kernel_rfl
theorem runH : endsAt .nrm idm nm0 SH (aev Tryz.prog (envA []) tbl (nat_lit 30) wInit sI.frame sI.hp) = true := by kernel_rfl
theorem run8 : endsAt (.ex (nat_lit 0)) idm nmH SH (aev Tryz.prog (envA [.rng (.v (nat_lit 1)) (Int.ofNat (nat_lit 8)) (Int.ofNat (nat_lit 8))]) tbl (nat_lit 30) wBody SH.frame SH.hp) = true := by kernel_rfl
theorem runC : endsAt .nrm idm nmH SH (aev Tryz.prog (envA [.rng (.v (nat_lit 1)) (Int.ofNat (nat_lit 0)) (Int.ofNat (nat_lit 7))]) tbl (nat_lit 30) wC SH.frame SH.hp) = true := by kernel_rfl
theorem runS : endsAt .nrm idm nmSu SH (aev Tryz.prog (envA []) tbl (nat_lit 30) wInc SH.frame SH.hp) = true := by kernel_rfl
theorem runE : endsAt .ret [] ⟨[], [], [], [], []⟩ ⟨[(.x0, .x2, .c (.b true))], [], ⟨.x0, .x0, .x0⟩⟩ (aev Tryz.prog (envA []) tbl (nat_lit 30) wEnd SH.frame SH.hp) = true := by kernel_rfl
theorem runA1 : endsR idm nmId s1A (aregion Tryz.prog (envA []) cl0 l1A SH.frame SH.hp) = true := by kernel_rfl
theorem s1A_fits : fitsL idm nmH s1A s1A.frame s1A.hp = true := by kernel_rfl
theorem s1N_fits : fitsL [] ⟨[], [], [], [], [(.v (nat_lit 9), .v (nat_lit 9))]⟩ s1N s1N.frame s1N.hp = true := by kernel_rfl
end Go.Proofs.YtpecbnkhppglkaaGreat
