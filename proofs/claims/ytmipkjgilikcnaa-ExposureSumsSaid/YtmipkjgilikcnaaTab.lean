/-
  Closed facts on the types of this seat (printed by a program).
-/
import Derived.Test.YtmipkjgilikcnaaRows
import Derived.Test.YtmipkjgilikcnaaSx
namespace Go.Proofs.Ytmipkjgilikcnaa
theorem sh2 : shapeOf Try.prog 2 = some (false, 1) := by kernel_rfl
theorem zr2 : (Try.prog.info? 2).bind (·.zero) = some (.int .i64 0) := by kernel_rfl
theorem sh3 : shapeOf Try.prog 3 = some (false, 1) := by kernel_rfl
theorem zr3 : (Try.prog.info? 3).bind (·.zero) = some (.int .i64 0) := by kernel_rfl
theorem sh4 : shapeOf Try.prog 4 = some (false, 1) := by kernel_rfl
theorem zr4 : (Try.prog.info? 4).bind (·.zero) = some (.bool false) := by kernel_rfl
theorem sh5 : shapeOf Try.prog 5 = some (false, 1) := by kernel_rfl
theorem zr5 : (Try.prog.info? 5).bind (·.zero) = some (.int .u8 0) := by kernel_rfl
theorem sh6 : shapeOf Try.prog 6 = some (false, 1) := by kernel_rfl
theorem zr6 : (Try.prog.info? 6).bind (·.zero) = some (.int .u8 0) := by kernel_rfl
theorem sh7 : shapeOf Try.prog 7 = some (true, 4) := by kernel_rfl
theorem zr7 : (Try.prog.info? 7).bind (·.zero) = some (.agg #[.int .i64 0, .int .i64 0, .bool false, .int .u8 0]) := by kernel_rfl
theorem sh8 : shapeOf Try.prog 8 = some (true, 4) := by kernel_rfl
theorem zr8 : (Try.prog.info? 8).bind (·.zero) = some (.agg #[.int .i64 0, .int .i64 0, .bool false, .int .u8 0]) := by kernel_rfl
theorem sh9 : shapeOf Try.prog 9 = some (false, 1) := by kernel_rfl
theorem zr9 : (Try.prog.info? 9).bind (·.zero) = some (.string ⟨#[]⟩) := by kernel_rfl
theorem sh10 : shapeOf Try.prog 10 = some (false, 1) := by kernel_rfl
theorem zr10 : (Try.prog.info? 10).bind (·.zero) = some (.string ⟨#[]⟩) := by kernel_rfl
theorem sh11 : shapeOf Try.prog 11 = some (false, 1) := by kernel_rfl
theorem zr11 : (Try.prog.info? 11).bind (·.zero) = some (.string ⟨#[]⟩) := by kernel_rfl
theorem sh12 : shapeOf Try.prog 12 = some (false, 1) := by kernel_rfl
theorem zr12 : (Try.prog.info? 12).bind (·.zero) = some (.int .u64 0) := by kernel_rfl
theorem sh13 : shapeOf Try.prog 13 = some (true, 2) := by kernel_rfl
theorem zr13 : (Try.prog.info? 13).bind (·.zero) = some (.agg #[.string ⟨#[]⟩, .int .u64 0]) := by kernel_rfl
theorem sh14 : shapeOf Try.prog 14 = some (true, 2) := by kernel_rfl
theorem zr14 : (Try.prog.info? 14).bind (·.zero) = some (.agg #[.string ⟨#[]⟩, .int .u64 0]) := by kernel_rfl
theorem sh15 : shapeOf Try.prog 15 = some (false, 1) := by kernel_rfl
theorem zr15 : (Try.prog.info? 15).bind (·.zero) = some (.pointer none) := by kernel_rfl
theorem sh16 : shapeOf Try.prog 16 = some (false, 1) := by kernel_rfl
theorem zr16 : (Try.prog.info? 16).bind (·.zero) = some (.pointer none) := by kernel_rfl
theorem sh17 : shapeOf Try.prog 17 = some (false, 1) := by kernel_rfl
theorem zr17 : (Try.prog.info? 17).bind (·.zero) = some (.pointer none) := by kernel_rfl
theorem sh18 : shapeOf Try.prog 18 = some (true, 1) := by kernel_rfl
theorem zr18 : (Try.prog.info? 18).bind (·.zero) = some (.agg #[.pointer none]) := by kernel_rfl
theorem sh19 : shapeOf Try.prog 19 = some (true, 1) := by kernel_rfl
theorem zr19 : (Try.prog.info? 19).bind (·.zero) = some (.agg #[.pointer none]) := by kernel_rfl
theorem sh21 : shapeOf Try.prog 21 = some (false, 1) := by kernel_rfl
theorem zr21 : (Try.prog.info? 21).bind (·.zero) = some (.int .i32 0) := by kernel_rfl
theorem sh22 : shapeOf Try.prog 22 = some (false, 1) := by kernel_rfl
theorem zr22 : (Try.prog.info? 22).bind (·.zero) = some (.slice none 0 0) := by kernel_rfl
theorem sh24 : shapeOf Try.prog 24 = some (false, 1) := by kernel_rfl
theorem zr24 : (Try.prog.info? 24).bind (·.zero) = some (.pointer none) := by kernel_rfl
theorem sh26 : shapeOf Try.prog 26 = some (false, 1) := by kernel_rfl
theorem zr26 : (Try.prog.info? 26).bind (·.zero) = some (.slice none 0 0) := by kernel_rfl
theorem sh27 : shapeOf Try.prog 27 = some (true, 7) := by kernel_rfl
theorem zr27 : (Try.prog.info? 27).bind (·.zero) = some (.agg #[.int .i64 0, .int .i64 0, .int .i64 0, .int .i64 0, .int .i64 0, .int .i64 0, .int .i64 0]) := by kernel_rfl
theorem sh29 : shapeOf Try.prog 29 = some (false, 1) := by kernel_rfl
theorem zr29 : (Try.prog.info? 29).bind (·.zero) = some (.slice none 0 0) := by kernel_rfl
theorem sh31 : shapeOf Try.prog 31 = some (true, 2) := by kernel_rfl
theorem zr31 : (Try.prog.info? 31).bind (·.zero) = some (.agg #[.bool false, .string ⟨#[]⟩]) := by kernel_rfl
theorem sh32 : shapeOf Try.prog 32 = some (true, 2) := by kernel_rfl
theorem zr32 : (Try.prog.info? 32).bind (·.zero) = some (.agg #[.bool false, .string ⟨#[]⟩]) := by kernel_rfl
theorem sh33 : shapeOf Try.prog 33 = some (false, 1) := by kernel_rfl
theorem zr33 : (Try.prog.info? 33).bind (·.zero) = some (.int .i64 0) := by kernel_rfl
theorem sh34 : shapeOf Try.prog 34 = some (true, 6) := by kernel_rfl
theorem zr34 : (Try.prog.info? 34).bind (·.zero) = some (.agg #[.int .i64 0, .int .i64 0, .int .i64 0, .bool false, .string ⟨#[]⟩, .int .i64 0]) := by kernel_rfl
theorem sh35 : shapeOf Try.prog 35 = some (true, 6) := by kernel_rfl
theorem zr35 : (Try.prog.info? 35).bind (·.zero) = some (.agg #[.int .i64 0, .int .i64 0, .int .i64 0, .bool false, .string ⟨#[]⟩, .int .i64 0]) := by kernel_rfl
theorem sh36 : shapeOf Try.prog 36 = some (true, 7) := by kernel_rfl
theorem zr36 : (Try.prog.info? 36).bind (·.zero) = some (.agg #[.int .i64 0, .int .i64 0, .int .i64 0, .bool false, .string ⟨#[]⟩, .int .i64 0, .slice none 0 0]) := by kernel_rfl
theorem sh37 : shapeOf Try.prog 37 = some (true, 7) := by kernel_rfl
theorem zr37 : (Try.prog.info? 37).bind (·.zero) = some (.agg #[.int .i64 0, .int .i64 0, .int .i64 0, .bool false, .string ⟨#[]⟩, .int .i64 0, .slice none 0 0]) := by kernel_rfl
theorem sh40 : shapeOf Try.prog 40 = some (false, 1) := by kernel_rfl
theorem zr40 : (Try.prog.info? 40).bind (·.zero) = some (.slice none 0 0) := by kernel_rfl
theorem sh42 : shapeOf Try.prog 42 = some (true, 2) := by kernel_rfl
theorem zr42 : (Try.prog.info? 42).bind (·.zero) = some (.agg #[.int .i64 0, .int .i64 0]) := by kernel_rfl
theorem sh43 : shapeOf Try.prog 43 = some (true, 2) := by kernel_rfl
theorem zr43 : (Try.prog.info? 43).bind (·.zero) = some (.agg #[.int .i64 0, .int .i64 0]) := by kernel_rfl
theorem sh44 : shapeOf Try.prog 44 = some (true, 2) := by kernel_rfl
theorem zr44 : (Try.prog.info? 44).bind (·.zero) = some (.agg #[.slice none 0 0, .int .i64 0]) := by kernel_rfl
theorem sh45 : shapeOf Try.prog 45 = some (true, 2) := by kernel_rfl
theorem zr45 : (Try.prog.info? 45).bind (·.zero) = some (.agg #[.slice none 0 0, .int .i64 0]) := by kernel_rfl
theorem sh50 : shapeOf Try.prog 50 = some (false, 1) := by kernel_rfl
theorem zr50 : (Try.prog.info? 50).bind (·.zero) = some (.int .u64 0) := by kernel_rfl
theorem sh52 : shapeOf Try.prog 52 = some (false, 1) := by kernel_rfl
theorem zr52 : (Try.prog.info? 52).bind (·.zero) = some (.int .i64 0) := by kernel_rfl
theorem sh61 : shapeOf Try.prog 61 = some (false, 1) := by kernel_rfl
theorem zr61 : (Try.prog.info? 61).bind (·.zero) = some (.int .u32 0) := by kernel_rfl
theorem sh63 : shapeOf Try.prog 63 = some (false, 1) := by kernel_rfl
theorem zr63 : (Try.prog.info? 63).bind (·.zero) = some (.int .u64 0) := by kernel_rfl
theorem sh64 : shapeOf Try.prog 64 = some (false, 1) := by kernel_rfl
theorem zr64 : (Try.prog.info? 64).bind (·.zero) = some (.int .u64 0) := by kernel_rfl
theorem sh68 : shapeOf Try.prog 68 = some (false, 1) := by kernel_rfl
theorem zr68 : (Try.prog.info? 68).bind (·.zero) = some (.pointer none) := by kernel_rfl
theorem sh71 : shapeOf Try.prog 71 = some (false, 1) := by kernel_rfl
theorem zr71 : (Try.prog.info? 71).bind (·.zero) = some (.pointer none) := by kernel_rfl
theorem sh75 : shapeOf Try.prog 75 = some (true, 4) := by kernel_rfl
theorem zr75 : (Try.prog.info? 75).bind (·.zero) = some (.agg #[.pointer none, .pointer none, .pointer none, .string ⟨#[]⟩]) := by kernel_rfl
theorem sh76 : shapeOf Try.prog 76 = some (true, 4) := by kernel_rfl
theorem zr76 : (Try.prog.info? 76).bind (·.zero) = some (.agg #[.pointer none, .pointer none, .pointer none, .string ⟨#[]⟩]) := by kernel_rfl
theorem sh77 : shapeOf Try.prog 77 = some (true, 0) := by kernel_rfl
theorem zr77 : (Try.prog.info? 77).bind (·.zero) = some (.agg #[]) := by kernel_rfl
theorem sh78 : shapeOf Try.prog 78 = some (true, 0) := by kernel_rfl
theorem zr78 : (Try.prog.info? 78).bind (·.zero) = some (.agg #[]) := by kernel_rfl
theorem sh79 : shapeOf Try.prog 79 = some (true, 0) := by kernel_rfl
theorem zr79 : (Try.prog.info? 79).bind (·.zero) = some (.agg #[]) := by kernel_rfl
theorem sh81 : shapeOf Try.prog 81 = some (false, 1) := by kernel_rfl
theorem zr81 : (Try.prog.info? 81).bind (·.zero) = some (.int .u8 0) := by kernel_rfl
theorem sh82 : shapeOf Try.prog 82 = some (false, 1) := by kernel_rfl
theorem zr82 : (Try.prog.info? 82).bind (·.zero) = some (.int .u8 0) := by kernel_rfl
theorem sh84 : shapeOf Try.prog 84 = some (false, 1) := by kernel_rfl
theorem zr84 : (Try.prog.info? 84).bind (·.zero) = some (.pointer none) := by kernel_rfl
theorem sh85 : shapeOf Try.prog 85 = some (false, 1) := by kernel_rfl
theorem zr85 : (Try.prog.info? 85).bind (·.zero) = some (.int .i32 0) := by kernel_rfl
theorem sh86 : shapeOf Try.prog 86 = some (false, 1) := by kernel_rfl
theorem zr86 : (Try.prog.info? 86).bind (·.zero) = some (.int .i32 0) := by kernel_rfl
theorem sh87 : shapeOf Try.prog 87 = some (true, 11) := by kernel_rfl
theorem zr87 : (Try.prog.info? 87).bind (·.zero) = some (.agg #[.int .u64 0, .int .u64 0, .int .u32 0, .int .u8 0, .int .u8 0, .int .u8 0, .int .u8 0, .nilFunc, .pointer none, .int .i32 0, .int .i32 0]) := by kernel_rfl
theorem sh88 : shapeOf Try.prog 88 = some (true, 11) := by kernel_rfl
theorem zr88 : (Try.prog.info? 88).bind (·.zero) = some (.agg #[.int .u64 0, .int .u64 0, .int .u32 0, .int .u8 0, .int .u8 0, .int .u8 0, .int .u8 0, .nilFunc, .pointer none, .int .i32 0, .int .i32 0]) := by kernel_rfl
theorem sh89 : shapeOf Try.prog 89 = some (false, 1) := by kernel_rfl
theorem zr89 : (Try.prog.info? 89).bind (·.zero) = some (.pointer none) := by kernel_rfl
end Go.Proofs.Ytmipkjgilikcnaa
