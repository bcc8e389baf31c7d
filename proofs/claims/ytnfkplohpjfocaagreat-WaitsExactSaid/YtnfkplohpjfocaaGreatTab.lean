/-
  Closed facts on the types of this seat (printed by a program).
-/
import Derived.Test.YtnfkplohpjfocaaGreatRows
import Derived.Test.YtnfkplohpjfocaaGreatSxA
set_option linter.unusedVariables false
set_option linter.unusedSimpArgs false
namespace Go.Proofs.YtnfkplohpjfocaaGreat
theorem sh2 : shapeOf Tryz.prog 2 = some (false, 1) := by kernel_rfl
theorem zr2 : (Tryz.prog.info? 2).bind (·.zero) = some (.int .i64 0) := by kernel_rfl
theorem sh3 : shapeOf Tryz.prog 3 = some (false, 1) := by kernel_rfl
theorem zr3 : (Tryz.prog.info? 3).bind (·.zero) = some (.int .i64 0) := by kernel_rfl
theorem sh4 : shapeOf Tryz.prog 4 = some (false, 1) := by kernel_rfl
theorem zr4 : (Tryz.prog.info? 4).bind (·.zero) = some (.bool false) := by kernel_rfl
theorem sh5 : shapeOf Tryz.prog 5 = some (false, 1) := by kernel_rfl
theorem zr5 : (Tryz.prog.info? 5).bind (·.zero) = some (.int .u8 0) := by kernel_rfl
theorem sh6 : shapeOf Tryz.prog 6 = some (false, 1) := by kernel_rfl
theorem zr6 : (Tryz.prog.info? 6).bind (·.zero) = some (.int .u8 0) := by kernel_rfl
theorem sh7 : shapeOf Tryz.prog 7 = some (true, 4) := by kernel_rfl
theorem zr7 : (Tryz.prog.info? 7).bind (·.zero) = some (.agg #[.int .i64 0, .int .i64 0, .bool false, .int .u8 0]) := by kernel_rfl
theorem sh8 : shapeOf Tryz.prog 8 = some (true, 4) := by kernel_rfl
theorem zr8 : (Tryz.prog.info? 8).bind (·.zero) = some (.agg #[.int .i64 0, .int .i64 0, .bool false, .int .u8 0]) := by kernel_rfl
theorem sh9 : shapeOf Tryz.prog 9 = some (false, 1) := by kernel_rfl
theorem zr9 : (Tryz.prog.info? 9).bind (·.zero) = some (.string ⟨#[]⟩) := by kernel_rfl
theorem sh10 : shapeOf Tryz.prog 10 = some (false, 1) := by kernel_rfl
theorem zr10 : (Tryz.prog.info? 10).bind (·.zero) = some (.string ⟨#[]⟩) := by kernel_rfl
theorem sh11 : shapeOf Tryz.prog 11 = some (false, 1) := by kernel_rfl
theorem zr11 : (Tryz.prog.info? 11).bind (·.zero) = some (.string ⟨#[]⟩) := by kernel_rfl
theorem sh12 : shapeOf Tryz.prog 12 = some (false, 1) := by kernel_rfl
theorem zr12 : (Tryz.prog.info? 12).bind (·.zero) = some (.int .u64 0) := by kernel_rfl
theorem sh13 : shapeOf Tryz.prog 13 = some (true, 2) := by kernel_rfl
theorem zr13 : (Tryz.prog.info? 13).bind (·.zero) = some (.agg #[.string ⟨#[]⟩, .int .u64 0]) := by kernel_rfl
theorem sh14 : shapeOf Tryz.prog 14 = some (true, 2) := by kernel_rfl
theorem zr14 : (Tryz.prog.info? 14).bind (·.zero) = some (.agg #[.string ⟨#[]⟩, .int .u64 0]) := by kernel_rfl
theorem sh15 : shapeOf Tryz.prog 15 = some (false, 1) := by kernel_rfl
theorem zr15 : (Tryz.prog.info? 15).bind (·.zero) = some (.pointer none) := by kernel_rfl
theorem sh16 : shapeOf Tryz.prog 16 = some (false, 1) := by kernel_rfl
theorem zr16 : (Tryz.prog.info? 16).bind (·.zero) = some (.pointer none) := by kernel_rfl
theorem sh17 : shapeOf Tryz.prog 17 = some (false, 1) := by kernel_rfl
theorem zr17 : (Tryz.prog.info? 17).bind (·.zero) = some (.pointer none) := by kernel_rfl
theorem sh18 : shapeOf Tryz.prog 18 = some (true, 1) := by kernel_rfl
theorem zr18 : (Tryz.prog.info? 18).bind (·.zero) = some (.agg #[.pointer none]) := by kernel_rfl
theorem sh19 : shapeOf Tryz.prog 19 = some (true, 1) := by kernel_rfl
theorem zr19 : (Tryz.prog.info? 19).bind (·.zero) = some (.agg #[.pointer none]) := by kernel_rfl
theorem sh21 : shapeOf Tryz.prog 21 = some (false, 1) := by kernel_rfl
theorem zr21 : (Tryz.prog.info? 21).bind (·.zero) = some (.int .i32 0) := by kernel_rfl
theorem sh22 : shapeOf Tryz.prog 22 = some (false, 1) := by kernel_rfl
theorem zr22 : (Tryz.prog.info? 22).bind (·.zero) = some (.slice none 0 0) := by kernel_rfl
theorem sh23 : shapeOf Tryz.prog 23 = some (false, 1) := by kernel_rfl
theorem zr23 : (Tryz.prog.info? 23).bind (·.zero) = some (.slice none 0 0) := by kernel_rfl
theorem sh24 : shapeOf Tryz.prog 24 = some (true, 2) := by kernel_rfl
theorem zr24 : (Tryz.prog.info? 24).bind (·.zero) = some (.agg #[.slice none 0 0, .slice none 0 0]) := by kernel_rfl
theorem sh25 : shapeOf Tryz.prog 25 = some (true, 2) := by kernel_rfl
theorem zr25 : (Tryz.prog.info? 25).bind (·.zero) = some (.agg #[.slice none 0 0, .slice none 0 0]) := by kernel_rfl
theorem sh26 : shapeOf Tryz.prog 26 = some (true, 2) := by kernel_rfl
theorem zr26 : (Tryz.prog.info? 26).bind (·.zero) = some (.agg #[.int .i64 0, .int .i64 0]) := by kernel_rfl
theorem sh27 : shapeOf Tryz.prog 27 = some (true, 2) := by kernel_rfl
theorem zr27 : (Tryz.prog.info? 27).bind (·.zero) = some (.agg #[.int .i64 0, .int .i64 0]) := by kernel_rfl
theorem sh28 : shapeOf Tryz.prog 28 = some (true, 4) := by kernel_rfl
theorem zr28 : (Tryz.prog.info? 28).bind (·.zero) = some (.agg #[.int .i64 0, .int .i64 0, .int .i64 0, .int .i64 0]) := by kernel_rfl
theorem sh29 : shapeOf Tryz.prog 29 = some (true, 4) := by kernel_rfl
theorem zr29 : (Tryz.prog.info? 29).bind (·.zero) = some (.agg #[.int .i64 0, .int .i64 0, .int .i64 0, .int .i64 0]) := by kernel_rfl
theorem sh31 : shapeOf Tryz.prog 31 = some (false, 1) := by kernel_rfl
theorem zr31 : (Tryz.prog.info? 31).bind (·.zero) = some (.pointer none) := by kernel_rfl
theorem sh34 : shapeOf Tryz.prog 34 = some (false, 1) := by kernel_rfl
theorem zr34 : (Tryz.prog.info? 34).bind (·.zero) = some (.slice none 0 0) := by kernel_rfl
theorem sh35 : shapeOf Tryz.prog 35 = some (false, 1) := by kernel_rfl
theorem zr35 : (Tryz.prog.info? 35).bind (·.zero) = some (.slice none 0 0) := by kernel_rfl
theorem sh37 : shapeOf Tryz.prog 37 = some (true, 2) := by kernel_rfl
theorem zr37 : (Tryz.prog.info? 37).bind (·.zero) = some (.agg #[.int .i64 0, .int .i64 0]) := by kernel_rfl
theorem sh38 : shapeOf Tryz.prog 38 = some (false, 1) := by kernel_rfl
theorem zr38 : (Tryz.prog.info? 38).bind (·.zero) = some (.slice none 0 0) := by kernel_rfl
theorem sh42 : shapeOf Tryz.prog 42 = some (false, 1) := by kernel_rfl
theorem zr42 : (Tryz.prog.info? 42).bind (·.zero) = some (.int .i64 0) := by kernel_rfl
theorem sh46 : shapeOf Tryz.prog 46 = some (true, 2) := by kernel_rfl
theorem zr46 : (Tryz.prog.info? 46).bind (·.zero) = some (.agg #[.slice none 0 0, .int .i64 0]) := by kernel_rfl
theorem sh47 : shapeOf Tryz.prog 47 = some (true, 2) := by kernel_rfl
theorem zr47 : (Tryz.prog.info? 47).bind (·.zero) = some (.agg #[.slice none 0 0, .int .i64 0]) := by kernel_rfl
theorem sh61 : shapeOf Tryz.prog 61 = some (false, 1) := by kernel_rfl
theorem zr61 : (Tryz.prog.info? 61).bind (·.zero) = some (.map none) := by kernel_rfl
theorem sh62 : shapeOf Tryz.prog 62 = some (false, 1) := by kernel_rfl
theorem zr62 : (Tryz.prog.info? 62).bind (·.zero) = some (.slice none 0 0) := by kernel_rfl
theorem sh74 : shapeOf Tryz.prog 74 = some (false, 1) := by kernel_rfl
theorem zr74 : (Tryz.prog.info? 74).bind (·.zero) = some (.slice none 0 0) := by kernel_rfl
theorem sh78 : shapeOf Tryz.prog 78 = some (false, 1) := by kernel_rfl
theorem zr78 : (Tryz.prog.info? 78).bind (·.zero) = some (.int .u64 0) := by kernel_rfl
theorem sh89 : shapeOf Tryz.prog 89 = some (false, 1) := by kernel_rfl
theorem zr89 : (Tryz.prog.info? 89).bind (·.zero) = some (.int .i64 0) := by kernel_rfl
theorem sh96 : shapeOf Tryz.prog 96 = some (false, 1) := by kernel_rfl
theorem zr96 : (Tryz.prog.info? 96).bind (·.zero) = some (.int .u32 0) := by kernel_rfl
theorem sh98 : shapeOf Tryz.prog 98 = some (false, 1) := by kernel_rfl
theorem zr98 : (Tryz.prog.info? 98).bind (·.zero) = some (.int .u64 0) := by kernel_rfl
theorem sh111 : shapeOf Tryz.prog 111 = some (false, 1) := by kernel_rfl
theorem zr111 : (Tryz.prog.info? 111).bind (·.zero) = some (.int .u64 0) := by kernel_rfl
theorem sh115 : shapeOf Tryz.prog 115 = some (false, 1) := by kernel_rfl
theorem zr115 : (Tryz.prog.info? 115).bind (·.zero) = some (.pointer none) := by kernel_rfl
theorem sh119 : shapeOf Tryz.prog 119 = some (false, 1) := by kernel_rfl
theorem zr119 : (Tryz.prog.info? 119).bind (·.zero) = some (.pointer none) := by kernel_rfl
theorem sh125 : shapeOf Tryz.prog 125 = some (true, 4) := by kernel_rfl
theorem zr125 : (Tryz.prog.info? 125).bind (·.zero) = some (.agg #[.pointer none, .pointer none, .pointer none, .string ⟨#[]⟩]) := by kernel_rfl
theorem sh126 : shapeOf Tryz.prog 126 = some (true, 4) := by kernel_rfl
theorem zr126 : (Tryz.prog.info? 126).bind (·.zero) = some (.agg #[.pointer none, .pointer none, .pointer none, .string ⟨#[]⟩]) := by kernel_rfl
theorem sh127 : shapeOf Tryz.prog 127 = some (true, 0) := by kernel_rfl
theorem zr127 : (Tryz.prog.info? 127).bind (·.zero) = some (.agg #[]) := by kernel_rfl
theorem sh128 : shapeOf Tryz.prog 128 = some (true, 0) := by kernel_rfl
theorem zr128 : (Tryz.prog.info? 128).bind (·.zero) = some (.agg #[]) := by kernel_rfl
theorem sh129 : shapeOf Tryz.prog 129 = some (true, 0) := by kernel_rfl
theorem zr129 : (Tryz.prog.info? 129).bind (·.zero) = some (.agg #[]) := by kernel_rfl
theorem sh131 : shapeOf Tryz.prog 131 = some (false, 1) := by kernel_rfl
theorem zr131 : (Tryz.prog.info? 131).bind (·.zero) = some (.int .u8 0) := by kernel_rfl
theorem sh132 : shapeOf Tryz.prog 132 = some (false, 1) := by kernel_rfl
theorem zr132 : (Tryz.prog.info? 132).bind (·.zero) = some (.int .u8 0) := by kernel_rfl
theorem sh134 : shapeOf Tryz.prog 134 = some (false, 1) := by kernel_rfl
theorem zr134 : (Tryz.prog.info? 134).bind (·.zero) = some (.pointer none) := by kernel_rfl
theorem sh135 : shapeOf Tryz.prog 135 = some (false, 1) := by kernel_rfl
theorem zr135 : (Tryz.prog.info? 135).bind (·.zero) = some (.int .i32 0) := by kernel_rfl
theorem sh136 : shapeOf Tryz.prog 136 = some (false, 1) := by kernel_rfl
theorem zr136 : (Tryz.prog.info? 136).bind (·.zero) = some (.int .i32 0) := by kernel_rfl
theorem sh137 : shapeOf Tryz.prog 137 = some (true, 11) := by kernel_rfl
theorem zr137 : (Tryz.prog.info? 137).bind (·.zero) = some (.agg #[.int .u64 0, .int .u64 0, .int .u32 0, .int .u8 0, .int .u8 0, .int .u8 0, .int .u8 0, .nilFunc, .pointer none, .int .i32 0, .int .i32 0]) := by kernel_rfl
theorem sh138 : shapeOf Tryz.prog 138 = some (true, 11) := by kernel_rfl
theorem zr138 : (Tryz.prog.info? 138).bind (·.zero) = some (.agg #[.int .u64 0, .int .u64 0, .int .u32 0, .int .u8 0, .int .u8 0, .int .u8 0, .int .u8 0, .nilFunc, .pointer none, .int .i32 0, .int .i32 0]) := by kernel_rfl
theorem sh139 : shapeOf Tryz.prog 139 = some (false, 1) := by kernel_rfl
theorem zr139 : (Tryz.prog.info? 139).bind (·.zero) = some (.pointer none) := by kernel_rfl
end Go.Proofs.YtnfkplohpjfocaaGreat
