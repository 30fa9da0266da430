/-
  The types of the program as the stepper reads them.
-/
import Derived.Test.YtnpfkmbcejgnjaaGreatDoorProg
import Derived.Test.YtnpfkmbcejgnjaaGreatDoorAn
namespace Go.Proofs
open Go
def Tryz.T : Am.Tbl := [
  (3, { size := 1 }),
  (4, { size := 1 }),
  (5, { size := 1 }),
  (9, { size := 1, kind := 1 }),
  (22, { size := 1, elem := 27, elemSize := 1, kind := 2 }),
  (24, { agg := true, size := 1, fields := [(0, 1, false)], kind := 4 }),
  (27, { size := 1, elem := 42, elemSize := 7, kind := 2 }),
  (28, { size := 1 }),
  (42, { agg := true, size := 7, fields := [(0, 1, false), (1, 1, false), (2, 1, false), (3, 1, false), (4, 1, false), (5, 1, false), (6, 1, false)], kind := 4 }),
  (60, { size := 1, elem := 3, elemSize := 1, kind := 2 }),
  (68, { size := 1, elem := 4, elemSize := 1, kind := 2 }),
  (72, { agg := true, size := 21, fields := [(0, 7, true), (7, 7, true), (14, 7, true)], kind := 4 }),
  (87, { agg := true, size := 2, fields := [(0, 1, false), (1, 1, false)], kind := 4 }),
  (91, { size := 1 }),
  (92, { size := 1, elem := 5, elemSize := 1, kind := 2 }),
  (94, { agg := true, size := 2, fields := [(0, 1, false), (1, 1, false)], kind := 4 }),
  (96, { size := 1 }),
  (100, { size := 1, elem := 9, elemSize := 1, kind := 2 }),
  (112, { size := 1, elem := 119, elemSize := 2, kind := 2 }),
  (119, { agg := true, size := 2, fields := [(0, 1, false), (1, 1, false)], kind := 4 }),
  (127, { agg := true, size := 2, elem := 3, elemSize := 1, kind := 3 }),
  (128, { size := 1, elem := 127, elemSize := 2, kind := 2 }),
  (138, { size := 1, elem := 141, elemSize := 4, kind := 2 }),
  (139, { size := 1, elem := 144, elemSize := 2, kind := 2 }),
  (141, { agg := true, size := 4, fields := [(0, 2, true), (2, 2, true)], kind := 4 }),
  (144, { agg := true, size := 2, fields := [(0, 1, false), (1, 1, false)], kind := 4 }),
  (150, { size := 1 }),
  (152, { size := 1 }),
  (153, { size := 1, elem := 152, elemSize := 1, kind := 2 }),
  (167, { size := 1 }),
  (187, { size := 1 }),
  (199, { agg := true, size := 2, fields := [(0, 1, false), (1, 1, false)], kind := 4 }),
  (213, { agg := true, size := 2, fields := [(0, 1, false), (1, 1, false)], kind := 4 }),
  (218, { agg := true, size := 24, elem := 5, elemSize := 1, kind := 3 }),
  (250, { agg := true, size := 20, elem := 167, elemSize := 1, kind := 3 }),
  (251, { agg := true, size := 65, elem := 5, elemSize := 1, kind := 3 }),
  (259, { agg := true, size := 3, fields := [(0, 1, false), (1, 1, false), (2, 1, false)], kind := 4 }),
  (267, { agg := true, size := 1, fields := [(0, 1, false)], kind := 4 }),
  (270, { agg := true, size := 256, elem := 4, elemSize := 1, kind := 3 }),
  (278, { agg := true, size := 32, elem := 5, elemSize := 1, kind := 3 }),
  (279, { agg := true, size := 64, elem := 5, elemSize := 1, kind := 3 }),
  (280, { agg := true, size := 256, elem := 5, elemSize := 1, kind := 3 }),
  (282, { agg := true, size := 2, fields := [(0, 1, false), (1, 1, false)], kind := 4 }),
  (283, { agg := true, size := 32, elem := 282, elemSize := 2, kind := 3 })]
theorem Tryz.hT : Am.okB Tryz.prog Tryz.T = true := by kernel_rfl
def Tryz.Z : List (Nat × Value) := [
  (3, .int .i64 0),
  (4, .bool false),
  (5, .int .u8 0),
  (9, .string ⟨#[]⟩),
  (22, .slice none 0 0),
  (24, .agg #[.slice none 0 0]),
  (27, .slice none 0 0),
  (28, .int .i64 0),
  (42, .agg #[.int .i64 0, .int .i64 0, .int .i64 0, .int .i64 0, .bool false, .int .i64 0, .int .i64 0]),
  (60, .slice none 0 0),
  (68, .slice none 0 0),
  (72, .agg #[.int .i64 0, .int .i64 0, .int .i64 0, .int .i64 0, .bool false, .int .i64 0, .int .i64 0, .int .i64 0, .int .i64 0, .int .i64 0, .int .i64 0, .bool false, .int .i64 0, .int .i64 0, .int .i64 0, .int .i64 0, .int .i64 0, .int .i64 0, .bool false, .int .i64 0, .int .i64 0]),
  (87, .agg #[.int .i64 0, .int .i64 0]),
  (91, .pointer none),
  (92, .slice none 0 0),
  (94, .agg #[.pointer none, .slice none 0 0]),
  (96, .nilIface),
  (100, .slice none 0 0),
  (112, .slice none 0 0),
  (119, .agg #[.slice none 0 0, .slice none 0 0]),
  (127, .agg #[.int .i64 0, .int .i64 0]),
  (128, .slice none 0 0),
  (138, .slice none 0 0),
  (139, .slice none 0 0),
  (141, .agg #[.int .i64 0, .int .i64 0, .int .i64 0, .int .i64 0]),
  (144, .agg #[.int .i64 0, .int .i64 0]),
  (150, .pointer none),
  (152, .pointer none),
  (153, .slice none 0 0),
  (167, .int .u64 0),
  (187, .int .u64 0),
  (199, .agg #[.bool false, .slice none 0 0]),
  (213, .agg #[.bool false, .slice none 0 0]),
  (218, .agg #[.int .u8 0, .int .u8 0, .int .u8 0, .int .u8 0, .int .u8 0, .int .u8 0, .int .u8 0, .int .u8 0, .int .u8 0, .int .u8 0, .int .u8 0, .int .u8 0, .int .u8 0, .int .u8 0, .int .u8 0, .int .u8 0, .int .u8 0, .int .u8 0, .int .u8 0, .int .u8 0, .int .u8 0, .int .u8 0, .int .u8 0, .int .u8 0]),
  (250, .agg #[.int .u64 0, .int .u64 0, .int .u64 0, .int .u64 0, .int .u64 0, .int .u64 0, .int .u64 0, .int .u64 0, .int .u64 0, .int .u64 0, .int .u64 0, .int .u64 0, .int .u64 0, .int .u64 0, .int .u64 0, .int .u64 0, .int .u64 0, .int .u64 0, .int .u64 0, .int .u64 0]),
  (259, .agg #[.string ⟨#[]⟩, .string ⟨#[]⟩, .nilIface]),
  (267, .agg #[.string ⟨#[]⟩]),
  (278, .agg #[.int .u8 0, .int .u8 0, .int .u8 0, .int .u8 0, .int .u8 0, .int .u8 0, .int .u8 0, .int .u8 0, .int .u8 0, .int .u8 0, .int .u8 0, .int .u8 0, .int .u8 0, .int .u8 0, .int .u8 0, .int .u8 0, .int .u8 0, .int .u8 0, .int .u8 0, .int .u8 0, .int .u8 0, .int .u8 0, .int .u8 0, .int .u8 0, .int .u8 0, .int .u8 0, .int .u8 0, .int .u8 0, .int .u8 0, .int .u8 0, .int .u8 0, .int .u8 0]),
  (282, .agg #[.int .u8 0, .int .u8 0]),
  (283, .agg #[.int .u8 0, .int .u8 0, .int .u8 0, .int .u8 0, .int .u8 0, .int .u8 0, .int .u8 0, .int .u8 0, .int .u8 0, .int .u8 0, .int .u8 0, .int .u8 0, .int .u8 0, .int .u8 0, .int .u8 0, .int .u8 0, .int .u8 0, .int .u8 0, .int .u8 0, .int .u8 0, .int .u8 0, .int .u8 0, .int .u8 0, .int .u8 0, .int .u8 0, .int .u8 0, .int .u8 0, .int .u8 0, .int .u8 0, .int .u8 0, .int .u8 0, .int .u8 0])]
theorem Tryz.hZ : Am.ZOk Tryz.prog Tryz.Z :=
  .cons (fun W => by kernel_rfl) <|
  .cons (fun W => by kernel_rfl) <|
  .cons (fun W => by kernel_rfl) <|
  .cons (fun W => by kernel_rfl) <|
  .cons (fun W => by kernel_rfl) <|
  .cons (fun W => by kernel_rfl) <|
  .cons (fun W => by kernel_rfl) <|
  .cons (fun W => by kernel_rfl) <|
  .cons (fun W => by kernel_rfl) <|
  .cons (fun W => by kernel_rfl) <|
  .cons (fun W => by kernel_rfl) <|
  .cons (fun W => by kernel_rfl) <|
  .cons (fun W => by kernel_rfl) <|
  .cons (fun W => by kernel_rfl) <|
  .cons (fun W => by kernel_rfl) <|
  .cons (fun W => by kernel_rfl) <|
  .cons (fun W => by kernel_rfl) <|
  .cons (fun W => by kernel_rfl) <|
  .cons (fun W => by kernel_rfl) <|
  .cons (fun W => by kernel_rfl) <|
  .cons (fun W => by kernel_rfl) <|
  .cons (fun W => by kernel_rfl) <|
  .cons (fun W => by kernel_rfl) <|
  .cons (fun W => by kernel_rfl) <|
  .cons (fun W => by kernel_rfl) <|
  .cons (fun W => by kernel_rfl) <|
  .cons (fun W => by kernel_rfl) <|
  .cons (fun W => by kernel_rfl) <|
  .cons (fun W => by kernel_rfl) <|
  .cons (fun W => by kernel_rfl) <|
  .cons (fun W => by kernel_rfl) <|
  .cons (fun W => by kernel_rfl) <|
  .cons (fun W => by kernel_rfl) <|
  .cons (fun W => by kernel_rfl) <|
  .cons (fun W => by kernel_rfl) <|
  .cons (fun W => by kernel_rfl) <|
  .cons (fun W => by kernel_rfl) <|
  .cons (fun W => by kernel_rfl) <|
  .cons (fun W => by kernel_rfl) <|
  .cons (fun W => by kernel_rfl) <|
  .nil
theorem Tryz.vec22 : Am.VecTy Tryz.prog 22 27 1 24 (.slice none 0 0) := ⟨by kernel_rfl, by kernel_rfl, by kernel_rfl, by kernel_rfl, rfl, by decide⟩
theorem Tryz.vec27 : Am.VecTy Tryz.prog 27 42 7 56 (.agg #[.int .i64 0, .int .i64 0, .int .i64 0, .int .i64 0, .bool false, .int .i64 0, .int .i64 0]) := ⟨by kernel_rfl, by kernel_rfl, by kernel_rfl, by kernel_rfl, rfl, by decide⟩
theorem Tryz.vec60 : Am.VecTy Tryz.prog 60 3 1 8 (.int .i64 0) := ⟨by kernel_rfl, by kernel_rfl, by kernel_rfl, by kernel_rfl, rfl, by decide⟩
theorem Tryz.vec92 : Am.VecTy Tryz.prog 92 5 1 1 (.int .u8 0) := ⟨by kernel_rfl, by kernel_rfl, by kernel_rfl, by kernel_rfl, rfl, by decide⟩
theorem Tryz.vec100 : Am.VecTy Tryz.prog 100 9 1 16 (.string ⟨#[]⟩) := ⟨by kernel_rfl, by kernel_rfl, by kernel_rfl, by kernel_rfl, rfl, by decide⟩
theorem Tryz.vec112 : Am.VecTy Tryz.prog 112 119 2 48 (.agg #[.slice none 0 0, .slice none 0 0]) := ⟨by kernel_rfl, by kernel_rfl, by kernel_rfl, by kernel_rfl, rfl, by decide⟩
theorem Tryz.vec138 : Am.VecTy Tryz.prog 138 141 4 32 (.agg #[.int .i64 0, .int .i64 0, .int .i64 0, .int .i64 0]) := ⟨by kernel_rfl, by kernel_rfl, by kernel_rfl, by kernel_rfl, rfl, by decide⟩
theorem Tryz.vec139 : Am.VecTy Tryz.prog 139 144 2 16 (.agg #[.int .i64 0, .int .i64 0]) := ⟨by kernel_rfl, by kernel_rfl, by kernel_rfl, by kernel_rfl, rfl, by decide⟩
theorem Tryz.mixed : Tryz.prog.follows .mixedOrders = true := by kernel_rfl
end Go.Proofs
