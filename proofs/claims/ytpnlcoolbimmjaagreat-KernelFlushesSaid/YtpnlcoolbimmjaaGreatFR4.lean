/-
  KernelFlushes: runs, part 4.
-/
import Derived.Test.YtpnlcoolbimmjaaGreatFS
import Derived.KernelRfl
namespace Go.Proofs.YtpnlcoolbimmjaaGreat
open Go.RowKit
set_option maxRecDepth 100000
set_option linter.unusedVariables false
theorem run176 : RunB mq20 nq21 SS70 gq21 SS35 := by unfold RunB; kernel_rfl
theorem run177 : RunB mq21 nq22 SS71 gq22 SS35 := by unfold RunB; kernel_rfl
theorem run178 : RunB mq21 nq23 SS72 gq23 SS35 := by unfold RunB; kernel_rfl
theorem run179 : RunB mq21 nq24 SS73 gq24 SS35 := by unfold RunB; kernel_rfl
theorem run180 : RunB mq22 nq20 SS74 gq20 SS36 := by unfold RunB; kernel_rfl
theorem run181 : RunB mq22 nq21 SS74 gq21 SS36 := by unfold RunB; kernel_rfl
theorem run182 : RunB mq22 nq22 SS74 gq22 SS36 := by unfold RunB; kernel_rfl
theorem run183 : RunB mq23 nq23 SS75 gq23 SS36 := by unfold RunB; kernel_rfl
theorem run184 : RunB mq23 nq24 SS76 gq24 SS36 := by unfold RunB; kernel_rfl
theorem run185 : RunB mq22 nq20 SS77 gq20 SS37 := by unfold RunB; kernel_rfl
theorem run186 : RunB mq22 nq21 SS77 gq21 SS37 := by unfold RunB; kernel_rfl
theorem run187 : RunB mq24 nq22 SS75 gq22 SS37 := by unfold RunB; kernel_rfl
theorem run188 : RunB mq22 nq23 SS77 gq23 SS37 := by unfold RunB; kernel_rfl
theorem run189 : RunB mq23 nq24 SS78 gq24 SS37 := by unfold RunB; kernel_rfl
theorem run190 : RunB mq22 nq20 SS79 gq20 SS38 := by unfold RunB; kernel_rfl
theorem run191 : RunB mq22 nq21 SS79 gq21 SS38 := by unfold RunB; kernel_rfl
theorem run192 : RunB mq24 nq22 SS76 gq22 SS38 := by unfold RunB; kernel_rfl
theorem run193 : RunB mq24 nq23 SS78 gq23 SS38 := by unfold RunB; kernel_rfl
theorem run194 : RunB mq22 nq24 SS79 gq24 SS38 := by unfold RunB; kernel_rfl
theorem run195 : RunB mq22 nq20 SS80 gq20 SS39 := by unfold RunB; kernel_rfl
theorem run196 : RunB mq22 nq21 SS80 gq21 SS39 := by unfold RunB; kernel_rfl
theorem run197 : RunB mq22 nq22 SS80 gq22 SS39 := by unfold RunB; kernel_rfl
theorem run198 : RunB mq23 nq23 SS81 gq23 SS39 := by unfold RunB; kernel_rfl
theorem run199 : RunB mq23 nq24 SS82 gq24 SS39 := by unfold RunB; kernel_rfl
theorem run200 : RunB mq25 nq20 SS83 gq20 SS40 := by unfold RunB; kernel_rfl
theorem run201 : RunB mq25 nq21 SS83 gq21 SS40 := by unfold RunB; kernel_rfl
theorem run202 : RunB mq25 nq22 SS83 gq22 SS40 := by unfold RunB; kernel_rfl
theorem run203 : RunB mq25 nq23 SS83 gq23 SS40 := by unfold RunB; kernel_rfl
theorem run204 : RunB mq26 nq24 SS84 gq24 SS40 := by unfold RunB; kernel_rfl
theorem run205 : RunB mq25 nq20 SS85 gq20 SS41 := by unfold RunB; kernel_rfl
theorem run206 : RunB mq25 nq21 SS85 gq21 SS41 := by unfold RunB; kernel_rfl
theorem run207 : RunB mq25 nq22 SS85 gq22 SS41 := by unfold RunB; kernel_rfl
theorem run208 : RunB mq27 nq23 SS84 gq23 SS41 := by unfold RunB; kernel_rfl
theorem run209 : RunB mq25 nq24 SS85 gq24 SS41 := by unfold RunB; kernel_rfl
theorem run210 : RunB mq22 nq20 SS86 gq20 SS42 := by unfold RunB; kernel_rfl
theorem run211 : RunB mq22 nq21 SS86 gq21 SS42 := by unfold RunB; kernel_rfl
theorem run212 : RunB mq24 nq22 SS81 gq22 SS42 := by unfold RunB; kernel_rfl
theorem run213 : RunB mq22 nq23 SS86 gq23 SS42 := by unfold RunB; kernel_rfl
theorem run214 : RunB mq23 nq24 SS87 gq24 SS42 := by unfold RunB; kernel_rfl
theorem run215 : RunB mq25 nq20 SS88 gq20 SS43 := by unfold RunB; kernel_rfl
theorem run216 : RunB mq25 nq21 SS88 gq21 SS43 := by unfold RunB; kernel_rfl
theorem run217 : RunB mq28 nq22 SS84 gq22 SS43 := by unfold RunB; kernel_rfl
theorem run218 : RunB mq25 nq23 SS88 gq23 SS43 := by unfold RunB; kernel_rfl
theorem run219 : RunB mq25 nq24 SS88 gq24 SS43 := by unfold RunB; kernel_rfl
end Go.Proofs.YtpnlcoolbimmjaaGreat
