/- The table of types (written by a program out of the dump). -/
import Derived.Test.YtjfkdjlmajfljaaDoorFn
import Derived.Test.YtjfkdjlmajfljaaDoorProg
namespace Go.Proofs.YtjfkdjlmajfljaaDoor
def tys : Tys := [
  (2, ⟨.int .i64, 1, 8, [.int .i64 0]⟩),
  (3, ⟨.int .i64, 1, 8, [.int .i64 0]⟩),
  (4, ⟨.bool, 1, 1, [.bool false]⟩),
  (5, ⟨.int .u8, 1, 1, [.int .u8 0]⟩),
  (6, ⟨.int .u8, 1, 1, [.int .u8 0]⟩),
  (7, ⟨.struct [(0, 1, 2), (1, 1, 3), (2, 1, 4), (3, 1, 6)], 4, 24, [.int .i64 0, .int .i64 0, .bool false, .int .u8 0]⟩),
  (8, ⟨.struct [(0, 1, 2), (1, 1, 3), (2, 1, 4), (3, 1, 6)], 4, 24, [.int .i64 0, .int .i64 0, .bool false, .int .u8 0]⟩),
  (12, ⟨.int .u64, 1, 8, [.int .u64 0]⟩),
  (21, ⟨.int .i32, 1, 4, [.int .i32 0]⟩),
  (22, ⟨.slice 5, 1, 24, [.nil]⟩),
  (26, ⟨.slice 57, 1, 24, [.nil]⟩),
  (27, ⟨.struct [(0, 1, 26)], 1, 24, [.nil]⟩),
  (28, ⟨.struct [(0, 1, 26)], 1, 24, [.nil]⟩),
  (34, ⟨.slice 41, 1, 24, [.nil]⟩),
  (37, ⟨.int .u64, 1, 8, [.int .u64 0]⟩),
  (38, ⟨.struct [(0, 1, 3), (1, 1, 3), (2, 1, 3), (3, 1, 3), (4, 1, 37)], 5, 40, [.int .i64 0, .int .i64 0, .int .i64 0, .int .i64 0, .int .u64 0]⟩),
  (39, ⟨.struct [(0, 1, 3), (1, 1, 3), (2, 1, 3), (3, 1, 3), (4, 1, 37)], 5, 40, [.int .i64 0, .int .i64 0, .int .i64 0, .int .i64 0, .int .u64 0]⟩),
  (41, ⟨.slice 3, 1, 24, [.nil]⟩),
  (54, ⟨.slice 39, 1, 24, [.nil]⟩),
  (55, ⟨.slice 84, 1, 24, [.nil]⟩),
  (56, ⟨.struct [(0, 1, 3), (1, 1, 55), (2, 1, 54)], 3, 56, [.int .i64 0, .nil, .nil]⟩),
  (57, ⟨.struct [(0, 1, 3), (1, 1, 55), (2, 1, 54)], 3, 56, [.int .i64 0, .nil, .nil]⟩),
  (58, ⟨.struct [(0, 1, 22), (1, 1, 3)], 2, 32, [.nil, .int .i64 0]⟩),
  (59, ⟨.struct [(0, 1, 22), (1, 1, 3)], 2, 32, [.nil, .int .i64 0]⟩),
  (65, ⟨.array 2 3, 2, 16, [.int .i64 0, .int .i64 0]⟩),
  (83, ⟨.struct [(0, 1, 3), (1, 1, 3)], 2, 16, [.int .i64 0, .int .i64 0]⟩),
  (84, ⟨.struct [(0, 1, 3), (1, 1, 3)], 2, 16, [.int .i64 0, .int .i64 0]⟩),
  (87, ⟨.array 8 37, 8, 64, [.int .u64 0, .int .u64 0, .int .u64 0, .int .u64 0, .int .u64 0, .int .u64 0, .int .u64 0, .int .u64 0]⟩),
  (88, ⟨.array 8 37, 8, 64, [.int .u64 0, .int .u64 0, .int .u64 0, .int .u64 0, .int .u64 0, .int .u64 0, .int .u64 0, .int .u64 0]⟩),
  (89, ⟨.int .u64, 1, 8, [.int .u64 0]⟩),
  (91, ⟨.array 64 5, 64, 64, [.int .u8 0, .int .u8 0, .int .u8 0, .int .u8 0, .int .u8 0, .int .u8 0, .int .u8 0, .int .u8 0, .int .u8 0, .int .u8 0, .int .u8 0, .int .u8 0, .int .u8 0, .int .u8 0, .int .u8 0, .int .u8 0, .int .u8 0, .int .u8 0, .int .u8 0, .int .u8 0, .int .u8 0, .int .u8 0, .int .u8 0, .int .u8 0, .int .u8 0, .int .u8 0, .int .u8 0, .int .u8 0, .int .u8 0, .int .u8 0, .int .u8 0, .int .u8 0, .int .u8 0, .int .u8 0, .int .u8 0, .int .u8 0, .int .u8 0, .int .u8 0, .int .u8 0, .int .u8 0, .int .u8 0, .int .u8 0, .int .u8 0, .int .u8 0, .int .u8 0, .int .u8 0, .int .u8 0, .int .u8 0, .int .u8 0, .int .u8 0, .int .u8 0, .int .u8 0, .int .u8 0, .int .u8 0, .int .u8 0, .int .u8 0, .int .u8 0, .int .u8 0, .int .u8 0, .int .u8 0, .int .u8 0, .int .u8 0, .int .u8 0, .int .u8 0]⟩),
  (99, ⟨.int .u32, 1, 4, [.int .u32 0]⟩),
  (100, ⟨.int .u8, 1, 1, [.int .u8 0]⟩),
  (101, ⟨.int .u8, 1, 1, [.int .u8 0]⟩),
  (104, ⟨.int .i32, 1, 4, [.int .i32 0]⟩),
  (105, ⟨.int .i32, 1, 4, [.int .i32 0]⟩)]
theorem tysOk : tysB Tryd.prog tys = true := by kernel_rfl
end Go.Proofs.YtjfkdjlmajfljaaDoor
