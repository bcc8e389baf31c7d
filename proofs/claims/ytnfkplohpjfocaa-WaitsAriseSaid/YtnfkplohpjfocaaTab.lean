/-
  Closed facts on the types of this seat (printed by a program).
-/
import Derived.Test.YtnfkplohpjfocaaRows
import Derived.Test.YtnfkplohpjfocaaSx
set_option linter.unusedVariables false
set_option linter.unusedSimpArgs false
namespace Go.Proofs.Ytnfkplohpjfocaa
theorem sh2 : shapeOf Try.prog 2 = some (false, 1) := by kernel_rfl
theorem zr2 : (Try.prog.info? 2).bind (·.zero) = some (.int .i64 0) := by kernel_rfl
theorem sh3 : shapeOf Try.prog 3 = some (false, 1) := by kernel_rfl
theorem zr3 : (Try.prog.info? 3).bind (·.zero) = some (.int .i64 0) := by kernel_rfl
theorem sh4 : shapeOf Try.prog 4 = some (false, 1) := by kernel_rfl
theorem zr4 : (Try.prog.info? 4).bind (·.zero) = some (.bool false) := by kernel_rfl
theorem sh5 : shapeOf Try.prog 5 = some (false, 1) := by kernel_rfl
theorem zr5 : (Try.prog.info? 5).bind (·.zero) = some (.int .u8 0) := by kernel_rfl
theorem sh6 : shapeOf Try.prog 6 = some (false, 1) := by kernel_rfl
theorem zr6 : (Try.prog.info? 6).bind (·.zero) = some (.int .u8 0) := by kernel_rfl
theorem sh7 : shapeOf Try.prog 7 = some (true, 4) := by kernel_rfl
theorem zr7 : (Try.prog.info? 7).bind (·.zero) = some (.agg #[.int .i64 0, .int .i64 0, .bool false, .int .u8 0]) := by kernel_rfl
theorem sh8 : shapeOf Try.prog 8 = some (true, 4) := by kernel_rfl
theorem zr8 : (Try.prog.info? 8).bind (·.zero) = some (.agg #[.int .i64 0, .int .i64 0, .bool false, .int .u8 0]) := by kernel_rfl
theorem sh9 : shapeOf Try.prog 9 = some (false, 1) := by kernel_rfl
theorem zr9 : (Try.prog.info? 9).bind (·.zero) = some (.string ⟨#[]⟩) := by kernel_rfl
theorem sh10 : shapeOf Try.prog 10 = some (false, 1) := by kernel_rfl
theorem zr10 : (Try.prog.info? 10).bind (·.zero) = some (.string ⟨#[]⟩) := by kernel_rfl
theorem sh11 : shapeOf Try.prog 11 = some (false, 1) := by kernel_rfl
theorem zr11 : (Try.prog.info? 11).bind (·.zero) = some (.string ⟨#[]⟩) := by kernel_rfl
theorem sh12 : shapeOf Try.prog 12 = some (false, 1) := by kernel_rfl
theorem zr12 : (Try.prog.info? 12).bind (·.zero) = some (.int .u64 0) := by kernel_rfl
theorem sh13 : shapeOf Try.prog 13 = some (true, 2) := by kernel_rfl
theorem zr13 : (Try.prog.info? 13).bind (·.zero) = some (.agg #[.string ⟨#[]⟩, .int .u64 0]) := by kernel_rfl
theorem sh14 : shapeOf Try.prog 14 = some (true, 2) := by kernel_rfl
theorem zr14 : (Try.prog.info? 14).bind (·.zero) = some (.agg #[.string ⟨#[]⟩, .int .u64 0]) := by kernel_rfl
theorem sh15 : shapeOf Try.prog 15 = some (false, 1) := by kernel_rfl
theorem zr15 : (Try.prog.info? 15).bind (·.zero) = some (.pointer none) := by kernel_rfl
theorem sh16 : shapeOf Try.prog 16 = some (false, 1) := by kernel_rfl
theorem zr16 : (Try.prog.info? 16).bind (·.zero) = some (.pointer none) := by kernel_rfl
theorem sh17 : shapeOf Try.prog 17 = some (false, 1) := by kernel_rfl
theorem zr17 : (Try.prog.info? 17).bind (·.zero) = some (.pointer none) := by kernel_rfl
theorem sh18 : shapeOf Try.prog 18 = some (true, 1) := by kernel_rfl
theorem zr18 : (Try.prog.info? 18).bind (·.zero) = some (.agg #[.pointer none]) := by kernel_rfl
theorem sh19 : shapeOf Try.prog 19 = some (true, 1) := by kernel_rfl
theorem zr19 : (Try.prog.info? 19).bind (·.zero) = some (.agg #[.pointer none]) := by kernel_rfl
theorem sh21 : shapeOf Try.prog 21 = some (false, 1) := by kernel_rfl
theorem zr21 : (Try.prog.info? 21).bind (·.zero) = some (.int .i32 0) := by kernel_rfl
theorem sh23 : shapeOf Try.prog 23 = some (false, 1) := by kernel_rfl
theorem zr23 : (Try.prog.info? 23).bind (·.zero) = some (.slice none 0 0) := by kernel_rfl
theorem sh24 : shapeOf Try.prog 24 = some (true, 2) := by kernel_rfl
theorem zr24 : (Try.prog.info? 24).bind (·.zero) = some (.agg #[.slice none 0 0, .slice none 0 0]) := by kernel_rfl
theorem sh25 : shapeOf Try.prog 25 = some (true, 2) := by kernel_rfl
theorem zr25 : (Try.prog.info? 25).bind (·.zero) = some (.agg #[.slice none 0 0, .slice none 0 0]) := by kernel_rfl
theorem sh26 : shapeOf Try.prog 26 = some (true, 2) := by kernel_rfl
theorem zr26 : (Try.prog.info? 26).bind (·.zero) = some (.agg #[.int .i64 0, .int .i64 0]) := by kernel_rfl
theorem sh27 : shapeOf Try.prog 27 = some (true, 2) := by kernel_rfl
theorem zr27 : (Try.prog.info? 27).bind (·.zero) = some (.agg #[.int .i64 0, .int .i64 0]) := by kernel_rfl
theorem sh28 : shapeOf Try.prog 28 = some (true, 4) := by kernel_rfl
theorem zr28 : (Try.prog.info? 28).bind (·.zero) = some (.agg #[.int .i64 0, .int .i64 0, .int .i64 0, .int .i64 0]) := by kernel_rfl
theorem sh29 : shapeOf Try.prog 29 = some (true, 4) := by kernel_rfl
theorem zr29 : (Try.prog.info? 29).bind (·.zero) = some (.agg #[.int .i64 0, .int .i64 0, .int .i64 0, .int .i64 0]) := by kernel_rfl
theorem sh30 : shapeOf Try.prog 30 = some (false, 1) := by kernel_rfl
theorem zr30 : (Try.prog.info? 30).bind (·.zero) = some (.slice none 0 0) := by kernel_rfl
theorem sh33 : shapeOf Try.prog 33 = some (false, 1) := by kernel_rfl
theorem zr33 : (Try.prog.info? 33).bind (·.zero) = some (.slice none 0 0) := by kernel_rfl
theorem sh34 : shapeOf Try.prog 34 = some (false, 1) := by kernel_rfl
theorem zr34 : (Try.prog.info? 34).bind (·.zero) = some (.pointer none) := by kernel_rfl
theorem sh41 : shapeOf Try.prog 41 = some (false, 1) := by kernel_rfl
theorem zr41 : (Try.prog.info? 41).bind (·.zero) = some (.int .i64 0) := by kernel_rfl
theorem sh49 : shapeOf Try.prog 49 = some (false, 1) := by kernel_rfl
theorem zr49 : (Try.prog.info? 49).bind (·.zero) = some (.map none) := by kernel_rfl
theorem sh50 : shapeOf Try.prog 50 = some (false, 1) := by kernel_rfl
theorem zr50 : (Try.prog.info? 50).bind (·.zero) = some (.slice none 0 0) := by kernel_rfl
theorem sh53 : shapeOf Try.prog 53 = some (true, 2) := by kernel_rfl
theorem zr53 : (Try.prog.info? 53).bind (·.zero) = some (.agg #[.slice none 0 0, .int .i64 0]) := by kernel_rfl
theorem sh54 : shapeOf Try.prog 54 = some (true, 2) := by kernel_rfl
theorem zr54 : (Try.prog.info? 54).bind (·.zero) = some (.agg #[.slice none 0 0, .int .i64 0]) := by kernel_rfl
theorem sh67 : shapeOf Try.prog 67 = some (false, 1) := by kernel_rfl
theorem zr67 : (Try.prog.info? 67).bind (·.zero) = some (.slice none 0 0) := by kernel_rfl
theorem sh82 : shapeOf Try.prog 82 = some (false, 1) := by kernel_rfl
theorem zr82 : (Try.prog.info? 82).bind (·.zero) = some (.int .u64 0) := by kernel_rfl
theorem sh86 : shapeOf Try.prog 86 = some (false, 1) := by kernel_rfl
theorem zr86 : (Try.prog.info? 86).bind (·.zero) = some (.int .i64 0) := by kernel_rfl
theorem sh94 : shapeOf Try.prog 94 = some (false, 1) := by kernel_rfl
theorem zr94 : (Try.prog.info? 94).bind (·.zero) = some (.int .u32 0) := by kernel_rfl
theorem sh96 : shapeOf Try.prog 96 = some (false, 1) := by kernel_rfl
theorem zr96 : (Try.prog.info? 96).bind (·.zero) = some (.int .u64 0) := by kernel_rfl
theorem sh98 : shapeOf Try.prog 98 = some (false, 1) := by kernel_rfl
theorem zr98 : (Try.prog.info? 98).bind (·.zero) = some (.int .u64 0) := by kernel_rfl
theorem sh102 : shapeOf Try.prog 102 = some (false, 1) := by kernel_rfl
theorem zr102 : (Try.prog.info? 102).bind (·.zero) = some (.pointer none) := by kernel_rfl
theorem sh104 : shapeOf Try.prog 104 = some (false, 1) := by kernel_rfl
theorem zr104 : (Try.prog.info? 104).bind (·.zero) = some (.pointer none) := by kernel_rfl
theorem sh108 : shapeOf Try.prog 108 = some (true, 4) := by kernel_rfl
theorem zr108 : (Try.prog.info? 108).bind (·.zero) = some (.agg #[.pointer none, .pointer none, .pointer none, .string ⟨#[]⟩]) := by kernel_rfl
theorem sh109 : shapeOf Try.prog 109 = some (true, 4) := by kernel_rfl
theorem zr109 : (Try.prog.info? 109).bind (·.zero) = some (.agg #[.pointer none, .pointer none, .pointer none, .string ⟨#[]⟩]) := by kernel_rfl
theorem sh110 : shapeOf Try.prog 110 = some (true, 0) := by kernel_rfl
theorem zr110 : (Try.prog.info? 110).bind (·.zero) = some (.agg #[]) := by kernel_rfl
theorem sh111 : shapeOf Try.prog 111 = some (true, 0) := by kernel_rfl
theorem zr111 : (Try.prog.info? 111).bind (·.zero) = some (.agg #[]) := by kernel_rfl
theorem sh112 : shapeOf Try.prog 112 = some (true, 0) := by kernel_rfl
theorem zr112 : (Try.prog.info? 112).bind (·.zero) = some (.agg #[]) := by kernel_rfl
theorem sh113 : shapeOf Try.prog 113 = some (false, 1) := by kernel_rfl
theorem zr113 : (Try.prog.info? 113).bind (·.zero) = some (.int .u8 0) := by kernel_rfl
theorem sh114 : shapeOf Try.prog 114 = some (false, 1) := by kernel_rfl
theorem zr114 : (Try.prog.info? 114).bind (·.zero) = some (.int .u8 0) := by kernel_rfl
theorem sh116 : shapeOf Try.prog 116 = some (false, 1) := by kernel_rfl
theorem zr116 : (Try.prog.info? 116).bind (·.zero) = some (.pointer none) := by kernel_rfl
theorem sh117 : shapeOf Try.prog 117 = some (false, 1) := by kernel_rfl
theorem zr117 : (Try.prog.info? 117).bind (·.zero) = some (.int .i32 0) := by kernel_rfl
theorem sh118 : shapeOf Try.prog 118 = some (false, 1) := by kernel_rfl
theorem zr118 : (Try.prog.info? 118).bind (·.zero) = some (.int .i32 0) := by kernel_rfl
theorem sh119 : shapeOf Try.prog 119 = some (true, 11) := by kernel_rfl
theorem zr119 : (Try.prog.info? 119).bind (·.zero) = some (.agg #[.int .u64 0, .int .u64 0, .int .u32 0, .int .u8 0, .int .u8 0, .int .u8 0, .int .u8 0, .nilFunc, .pointer none, .int .i32 0, .int .i32 0]) := by kernel_rfl
theorem sh120 : shapeOf Try.prog 120 = some (true, 11) := by kernel_rfl
theorem zr120 : (Try.prog.info? 120).bind (·.zero) = some (.agg #[.int .u64 0, .int .u64 0, .int .u32 0, .int .u8 0, .int .u8 0, .int .u8 0, .int .u8 0, .nilFunc, .pointer none, .int .i32 0, .int .i32 0]) := by kernel_rfl
theorem sh121 : shapeOf Try.prog 121 = some (false, 1) := by kernel_rfl
theorem zr121 : (Try.prog.info? 121).bind (·.zero) = some (.pointer none) := by kernel_rfl
end Go.Proofs.Ytnfkplohpjfocaa
