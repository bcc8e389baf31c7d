/-
  Closed facts on the types of this seat (printed by a program).
-/
import Derived.Test.YtlbhoepfcedkdaaRows
import Derived.Test.YtlbhoepfcedkdaaSx
namespace Go.Proofs.Ytlbhoepfcedkdaa
theorem sh2 : shapeOf Try.prog 2 = some (false, 1) := by kernel_rfl
theorem zr2 : (Try.prog.info? 2).bind (·.zero) = some (.int .i64 0) := by kernel_rfl
theorem sh3 : shapeOf Try.prog 3 = some (false, 1) := by kernel_rfl
theorem zr3 : (Try.prog.info? 3).bind (·.zero) = some (.int .i64 0) := by kernel_rfl
theorem sh4 : shapeOf Try.prog 4 = some (false, 1) := by kernel_rfl
theorem zr4 : (Try.prog.info? 4).bind (·.zero) = some (.bool false) := by kernel_rfl
theorem sh5 : shapeOf Try.prog 5 = some (false, 1) := by kernel_rfl
theorem zr5 : (Try.prog.info? 5).bind (·.zero) = some (.int .u8 0) := by kernel_rfl
theorem sh6 : shapeOf Try.prog 6 = some (false, 1) := by kernel_rfl
theorem zr6 : (Try.prog.info? 6).bind (·.zero) = some (.int .u8 0) := by kernel_rfl
theorem sh7 : shapeOf Try.prog 7 = some (true, 4) := by kernel_rfl
theorem zr7 : (Try.prog.info? 7).bind (·.zero) = some (.agg #[.int .i64 0, .int .i64 0, .bool false, .int .u8 0]) := by kernel_rfl
theorem sh8 : shapeOf Try.prog 8 = some (true, 4) := by kernel_rfl
theorem zr8 : (Try.prog.info? 8).bind (·.zero) = some (.agg #[.int .i64 0, .int .i64 0, .bool false, .int .u8 0]) := by kernel_rfl
theorem sh9 : shapeOf Try.prog 9 = some (false, 1) := by kernel_rfl
theorem zr9 : (Try.prog.info? 9).bind (·.zero) = some (.string ⟨#[]⟩) := by kernel_rfl
theorem sh10 : shapeOf Try.prog 10 = some (false, 1) := by kernel_rfl
theorem zr10 : (Try.prog.info? 10).bind (·.zero) = some (.string ⟨#[]⟩) := by kernel_rfl
theorem sh11 : shapeOf Try.prog 11 = some (false, 1) := by kernel_rfl
theorem zr11 : (Try.prog.info? 11).bind (·.zero) = some (.string ⟨#[]⟩) := by kernel_rfl
theorem sh12 : shapeOf Try.prog 12 = some (false, 1) := by kernel_rfl
theorem zr12 : (Try.prog.info? 12).bind (·.zero) = some (.int .u64 0) := by kernel_rfl
theorem sh13 : shapeOf Try.prog 13 = some (true, 2) := by kernel_rfl
theorem zr13 : (Try.prog.info? 13).bind (·.zero) = some (.agg #[.string ⟨#[]⟩, .int .u64 0]) := by kernel_rfl
theorem sh14 : shapeOf Try.prog 14 = some (true, 2) := by kernel_rfl
theorem zr14 : (Try.prog.info? 14).bind (·.zero) = some (.agg #[.string ⟨#[]⟩, .int .u64 0]) := by kernel_rfl
theorem sh15 : shapeOf Try.prog 15 = some (false, 1) := by kernel_rfl
theorem zr15 : (Try.prog.info? 15).bind (·.zero) = some (.pointer none) := by kernel_rfl
theorem sh16 : shapeOf Try.prog 16 = some (false, 1) := by kernel_rfl
theorem zr16 : (Try.prog.info? 16).bind (·.zero) = some (.pointer none) := by kernel_rfl
theorem sh17 : shapeOf Try.prog 17 = some (false, 1) := by kernel_rfl
theorem zr17 : (Try.prog.info? 17).bind (·.zero) = some (.pointer none) := by kernel_rfl
theorem sh18 : shapeOf Try.prog 18 = some (true, 1) := by kernel_rfl
theorem zr18 : (Try.prog.info? 18).bind (·.zero) = some (.agg #[.pointer none]) := by kernel_rfl
theorem sh19 : shapeOf Try.prog 19 = some (true, 1) := by kernel_rfl
theorem zr19 : (Try.prog.info? 19).bind (·.zero) = some (.agg #[.pointer none]) := by kernel_rfl
theorem sh21 : shapeOf Try.prog 21 = some (false, 1) := by kernel_rfl
theorem zr21 : (Try.prog.info? 21).bind (·.zero) = some (.int .i32 0) := by kernel_rfl
theorem sh22 : shapeOf Try.prog 22 = some (false, 1) := by kernel_rfl
theorem zr22 : (Try.prog.info? 22).bind (·.zero) = some (.slice none 0 0) := by kernel_rfl
theorem sh23 : shapeOf Try.prog 23 = some (true, 2) := by kernel_rfl
theorem zr23 : (Try.prog.info? 23).bind (·.zero) = some (.agg #[.bool false, .string ⟨#[]⟩]) := by kernel_rfl
theorem sh24 : shapeOf Try.prog 24 = some (true, 2) := by kernel_rfl
theorem zr24 : (Try.prog.info? 24).bind (·.zero) = some (.agg #[.bool false, .string ⟨#[]⟩]) := by kernel_rfl
theorem sh25 : shapeOf Try.prog 25 = some (true, 32) := by kernel_rfl
theorem sh26 : shapeOf Try.prog 26 = some (true, 34) := by kernel_rfl
theorem sh27 : shapeOf Try.prog 27 = some (true, 34) := by kernel_rfl
theorem sh28 : shapeOf Try.prog 28 = some (true, 6) := by kernel_rfl
theorem zr28 : (Try.prog.info? 28).bind (·.zero) = some (.agg #[.int .i64 0, .int .i64 0, .bool false, .string ⟨#[]⟩, .bool false, .string ⟨#[]⟩]) := by kernel_rfl
theorem sh29 : shapeOf Try.prog 29 = some (true, 6) := by kernel_rfl
theorem zr29 : (Try.prog.info? 29).bind (·.zero) = some (.agg #[.int .i64 0, .int .i64 0, .bool false, .string ⟨#[]⟩, .bool false, .string ⟨#[]⟩]) := by kernel_rfl
theorem sh31 : shapeOf Try.prog 31 = some (false, 1) := by kernel_rfl
theorem zr31 : (Try.prog.info? 31).bind (·.zero) = some (.pointer none) := by kernel_rfl
theorem sh36 : shapeOf Try.prog 36 = some (true, 12) := by kernel_rfl
theorem zr36 : (Try.prog.info? 36).bind (·.zero) = some (.agg #[.int .i64 0, .int .i64 0, .bool false, .string ⟨#[]⟩, .bool false, .string ⟨#[]⟩, .int .i64 0, .int .i64 0, .bool false, .string ⟨#[]⟩, .bool false, .string ⟨#[]⟩]) := by kernel_rfl
theorem sh38 : shapeOf Try.prog 38 = some (false, 1) := by kernel_rfl
theorem zr38 : (Try.prog.info? 38).bind (·.zero) = some (.slice none 0 0) := by kernel_rfl
theorem sh39 : shapeOf Try.prog 39 = some (false, 1) := by kernel_rfl
theorem zr39 : (Try.prog.info? 39).bind (·.zero) = some (.int .i64 0) := by kernel_rfl
theorem sh45 : shapeOf Try.prog 45 = some (false, 1) := by kernel_rfl
theorem zr45 : (Try.prog.info? 45).bind (·.zero) = some (.slice none 0 0) := by kernel_rfl
theorem sh50 : shapeOf Try.prog 50 = some (false, 1) := by kernel_rfl
theorem zr50 : (Try.prog.info? 50).bind (·.zero) = some (.slice none 0 0) := by kernel_rfl
theorem sh55 : shapeOf Try.prog 55 = some (true, 68) := by kernel_rfl
theorem sh56 : shapeOf Try.prog 56 = some (false, 1) := by kernel_rfl
theorem zr56 : (Try.prog.info? 56).bind (·.zero) = some (.slice none 0 0) := by kernel_rfl
theorem sh61 : shapeOf Try.prog 61 = some (true, 2) := by kernel_rfl
theorem zr61 : (Try.prog.info? 61).bind (·.zero) = some (.agg #[.slice none 0 0, .int .i64 0]) := by kernel_rfl
theorem sh62 : shapeOf Try.prog 62 = some (true, 2) := by kernel_rfl
theorem zr62 : (Try.prog.info? 62).bind (·.zero) = some (.agg #[.slice none 0 0, .int .i64 0]) := by kernel_rfl
theorem sh67 : shapeOf Try.prog 67 = some (false, 1) := by kernel_rfl
theorem zr67 : (Try.prog.info? 67).bind (·.zero) = some (.slice none 0 0) := by kernel_rfl
theorem sh68 : shapeOf Try.prog 68 = some (true, 4) := by kernel_rfl
theorem zr68 : (Try.prog.info? 68).bind (·.zero) = some (.agg #[.pointer none, .pointer none, .pointer none, .string ⟨#[]⟩]) := by kernel_rfl
theorem sh69 : shapeOf Try.prog 69 = some (true, 4) := by kernel_rfl
theorem zr69 : (Try.prog.info? 69).bind (·.zero) = some (.agg #[.pointer none, .pointer none, .pointer none, .string ⟨#[]⟩]) := by kernel_rfl
theorem sh70 : shapeOf Try.prog 70 = some (true, 0) := by kernel_rfl
theorem zr70 : (Try.prog.info? 70).bind (·.zero) = some (.agg #[]) := by kernel_rfl
theorem sh71 : shapeOf Try.prog 71 = some (true, 0) := by kernel_rfl
theorem zr71 : (Try.prog.info? 71).bind (·.zero) = some (.agg #[]) := by kernel_rfl
theorem sh72 : shapeOf Try.prog 72 = some (true, 0) := by kernel_rfl
theorem zr72 : (Try.prog.info? 72).bind (·.zero) = some (.agg #[]) := by kernel_rfl
theorem sh73 : shapeOf Try.prog 73 = some (false, 1) := by kernel_rfl
theorem zr73 : (Try.prog.info? 73).bind (·.zero) = some (.int .u32 0) := by kernel_rfl
theorem sh74 : shapeOf Try.prog 74 = some (false, 1) := by kernel_rfl
theorem zr74 : (Try.prog.info? 74).bind (·.zero) = some (.int .u8 0) := by kernel_rfl
theorem sh75 : shapeOf Try.prog 75 = some (false, 1) := by kernel_rfl
theorem zr75 : (Try.prog.info? 75).bind (·.zero) = some (.int .u8 0) := by kernel_rfl
theorem sh77 : shapeOf Try.prog 77 = some (false, 1) := by kernel_rfl
theorem zr77 : (Try.prog.info? 77).bind (·.zero) = some (.pointer none) := by kernel_rfl
theorem sh78 : shapeOf Try.prog 78 = some (false, 1) := by kernel_rfl
theorem zr78 : (Try.prog.info? 78).bind (·.zero) = some (.int .i32 0) := by kernel_rfl
theorem sh79 : shapeOf Try.prog 79 = some (false, 1) := by kernel_rfl
theorem zr79 : (Try.prog.info? 79).bind (·.zero) = some (.int .i32 0) := by kernel_rfl
theorem sh80 : shapeOf Try.prog 80 = some (true, 11) := by kernel_rfl
theorem zr80 : (Try.prog.info? 80).bind (·.zero) = some (.agg #[.int .u64 0, .int .u64 0, .int .u32 0, .int .u8 0, .int .u8 0, .int .u8 0, .int .u8 0, .nilFunc, .pointer none, .int .i32 0, .int .i32 0]) := by kernel_rfl
theorem sh81 : shapeOf Try.prog 81 = some (true, 11) := by kernel_rfl
theorem zr81 : (Try.prog.info? 81).bind (·.zero) = some (.agg #[.int .u64 0, .int .u64 0, .int .u32 0, .int .u8 0, .int .u8 0, .int .u8 0, .int .u8 0, .nilFunc, .pointer none, .int .i32 0, .int .i32 0]) := by kernel_rfl
theorem sh82 : shapeOf Try.prog 82 = some (false, 1) := by kernel_rfl
theorem zr82 : (Try.prog.info? 82).bind (·.zero) = some (.pointer none) := by kernel_rfl
end Go.Proofs.Ytlbhoepfcedkdaa
