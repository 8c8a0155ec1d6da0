/- The law CasesStates: pack 4 of its texts. -/
import Derived.Test.YtnhelgnmadbpgaaGreatDoorProg
import Derived.KernelRfl
import Derived.Test.YtnhelgnmadbpgaaGreatDoorPk1
import Derived.Test.YtnhelgnmadbpgaaGreatDoorPk2
import Derived.Test.YtnhelgnmadbpgaaGreatDoorPk3
namespace Go.Proofs.YtnhelgnmadbpgaaGreatDoor
open Go Go.Ab
def tyRows : List TI := [
  ⟨.other, 0, 0, default, none⟩,
  ⟨.other, 1, 8, .v .nilFunc, none⟩,
  ⟨.int .i64, 1, 8, .v (.int .i64 0), some (0, [.int .i64])⟩,
  ⟨.int .i64, 1, 8, .v (.int .i64 0), some (0, [.int .i64])⟩,
  ⟨.bool, 1, 1, .v (.bool false), some (0, [.bool])⟩,
  ⟨.int .u8, 1, 1, .v (.int .u8 0), some (0, [.int .u8])⟩,
  ⟨.int .u8, 1, 1, .v (.int .u8 0), some (0, [.int .u8])⟩,
  ⟨.strct [(0, 2), (1, 3), (2, 4), (3, 6)], 4, 24, .agg [.v (.int .i64 0), .v (.int .i64 0), .v (.bool false), .v (.int .u8 0)], none⟩,
  ⟨.strct [(0, 2), (1, 3), (2, 4), (3, 6)], 4, 24, .agg [.v (.int .i64 0), .v (.int .i64 0), .v (.bool false), .v (.int .u8 0)], none⟩,
  ⟨.str, 1, 16, .s [], some (0, [.str])⟩,
  ⟨.str, 1, 16, .s [], some (0, [.str])⟩,
  ⟨.str, 1, 16, .s [], some (0, [.str])⟩,
  ⟨.int .u64, 1, 8, .v (.int .u64 0), some (0, [.int .u64])⟩,
  ⟨.strct [(0, 9), (1, 12)], 2, 24, .agg [.s [], .v (.int .u64 0)], none⟩,
  ⟨.strct [(0, 9), (1, 12)], 2, 24, .agg [.s [], .v (.int .u64 0)], none⟩,
  ⟨.ptr 300, 1, 8, .v (.pointer none), none⟩,
  ⟨.ptr 303, 1, 8, .v (.pointer none), none⟩,
  ⟨.ptr 311, 1, 8, .v (.pointer none), none⟩,
  ⟨.strct [(0, 17)], 1, 8, .agg [.v (.pointer none)], none⟩,
  ⟨.strct [(0, 17)], 1, 8, .agg [.v (.pointer none)], none⟩,
  ⟨.iface, 1, 16, .v .nilIface, none⟩,
  ⟨.int .i32, 1, 4, .v (.int .i32 0), some (0, [.int .i32])⟩,
  ⟨.slice 63, 1, 24, .sl [] .full, none⟩,
  ⟨.slice 105, 1, 24, .sl [] .full, none⟩,
  ⟨.slice 114, 1, 24, .sl [] .full, none⟩,
  ⟨.slice 75, 1, 24, .sl [] .full, none⟩,
  ⟨.slice 211, 1, 24, .sl [] .full, none⟩,
  ⟨.slice 211, 1, 24, .sl [] .full, none⟩,
  ⟨.slice 169, 1, 24, .sl [] .full, none⟩,
  ⟨.slice 32, 1, 24, .sl [] .full, none⟩,
  ⟨.slice 166, 1, 24, .sl [] .full, none⟩,
  ⟨.strct [(0, 9), (1, 4), (2, 3), (3, 27), (4, 28), (5, 29), (6, 30)], 7, 128, .agg [.s [], .v (.bool false), .v (.int .i64 0), .sl [] .full, .sl [] .full, .sl [] .full, .sl [] .full], none⟩,
  ⟨.strct [(0, 9), (1, 4), (2, 3), (3, 27), (4, 28), (5, 29), (6, 30)], 7, 128, .agg [.s [], .v (.bool false), .v (.int .i64 0), .sl [] .full, .sl [] .full, .sl [] .full, .sl [] .full], none⟩,
  ⟨.strct [(0, 3), (1, 22), (2, 23), (3, 24), (4, 25), (5, 32), (12, 3)], 13, 240, .agg [.v (.int .i64 0), .sl [] .full, .sl [] .full, .sl [] .full, .sl [] .full, .s [], .v (.bool false), .v (.int .i64 0), .sl [] .full, .sl [] .full, .sl [] .full, .sl [] .full, .v (.int .i64 0)], none⟩,
  ⟨.strct [(0, 3), (1, 22), (2, 23), (3, 24), (4, 25), (5, 32), (12, 3)], 13, 240, .agg [.v (.int .i64 0), .sl [] .full, .sl [] .full, .sl [] .full, .sl [] .full, .s [], .v (.bool false), .v (.int .i64 0), .sl [] .full, .sl [] .full, .sl [] .full, .sl [] .full, .v (.int .i64 0)], none⟩,
  ⟨.other, 1, 8, .v .nilFunc, none⟩,
  ⟨.other, 1, 8, .v .nilFunc, none⟩,
  ⟨.strct [(0, 3), (1, 3), (2, 9)], 3, 32, .agg [.v (.int .i64 0), .v (.int .i64 0), .s []], some (1, [.int .i64, .int .i64, .str])⟩,
  ⟨.strct [(0, 3), (1, 3), (2, 9)], 3, 32, .agg [.v (.int .i64 0), .v (.int .i64 0), .s []], some (1, [.int .i64, .int .i64, .str])⟩,
  ⟨.strct [(0, 3), (1, 9), (2, 9), (3, 9), (4, 9), (5, 38), (8, 3), (9, 9), (10, 9), (11, 4)], 12, 152, .agg [.v (.int .i64 0), .s [], .s [], .s [], .s [], .v (.int .i64 0), .v (.int .i64 0), .s [], .v (.int .i64 0), .s [], .s [], .v (.bool false)], some (2, [.int .i64, .str, .str, .str, .str, .int .i64, .int .i64, .str, .int .i64, .str, .str, .bool])⟩,
  ⟨.strct [(0, 3), (1, 9), (2, 9), (3, 9), (4, 9), (5, 38), (8, 3), (9, 9), (10, 9), (11, 4)], 12, 152, .agg [.v (.int .i64 0), .s [], .s [], .s [], .s [], .v (.int .i64 0), .v (.int .i64 0), .s [], .v (.int .i64 0), .s [], .s [], .v (.bool false)], some (2, [.int .i64, .str, .str, .str, .str, .int .i64, .int .i64, .str, .int .i64, .str, .str, .bool])⟩,
  ⟨.slice 38, 1, 24, .sl [] .full, none⟩,
  ⟨.strct [(0, 3), (1, 9), (2, 41)], 3, 48, .agg [.v (.int .i64 0), .s [], .sl [] .full], none⟩,
  ⟨.strct [(0, 3), (1, 9), (2, 41)], 3, 48, .agg [.v (.int .i64 0), .s [], .sl [] .full], none⟩,
  ⟨.other, 1, 8, .v .nilFunc, none⟩,
  ⟨.slice 43, 1, 24, .sl [] .full, none⟩,
  ⟨.other, 1, 8, .v .nilFunc, none⟩,
  ⟨.other, 1, 8, .v .nilFunc, none⟩,
  ⟨.other, 1, 8, .v .nilFunc, none⟩,
  ⟨.slice 40, 1, 24, .sl [] .full, none⟩,
  ⟨.other, 1, 8, .v .nilFunc, none⟩,
  ⟨.ptr 67, 1, 8, .v (.pointer none), none⟩,
  ⟨.other, 1, 8, .v .nilFunc, none⟩,
  ⟨.other, 1, 8, .v .nilFunc, none⟩,
  ⟨.other, 1, 8, .v .nilFunc, none⟩,
  ⟨.int .i64, 1, 8, .v (.int .i64 0), some (0, [.int .i64])⟩,
  ⟨.other, 1, 8, .v .nilFunc, none⟩,
  ⟨.other, 1, 8, .v .nilFunc, none⟩,
  ⟨.other, 0, 0, default, none⟩,
  ⟨.other, 1, 8, .v .nilFunc, none⟩,
  ⟨.slice 84, 1, 24, .sl [] .full, none⟩,
  ⟨.slice 119, 1, 24, .sl [] .full, none⟩,
  ⟨.strct [(0, 9), (1, 9), (2, 9), (3, 60), (4, 61)], 5, 96, .agg [.s [], .s [], .s [], .sl [] .full, .sl [] .full], none⟩,
  ⟨.strct [(0, 9), (1, 9), (2, 9), (3, 60), (4, 61)], 5, 96, .agg [.s [], .s [], .s [], .sl [] .full, .sl [] .full], none⟩,
  ⟨.other, 0, 0, default, none⟩,
  ⟨.other, 1, 8, .v .nilFunc, none⟩,
  ⟨.other, 1, 8, .v .nilFunc, none⟩,
  ⟨.strct [(0, 3), (1, 22), (2, 23), (3, 24), (4, 25), (5, 32), (12, 3)], 13, 240, .agg [.v (.int .i64 0), .sl [] .full, .sl [] .full, .sl [] .full, .sl [] .full, .s [], .v (.bool false), .v (.int .i64 0), .sl [] .full, .sl [] .full, .sl [] .full, .sl [] .full, .v (.int .i64 0)], none⟩,
  ⟨.other, 1, 8, .v .nilFunc, none⟩,
  ⟨.other, 1, 8, .v .nilFunc, none⟩,
  ⟨.other, 1, 8, .v .nilFunc, none⟩,
  ⟨.other, 1, 8, .v .nilFunc, none⟩,
  ⟨.other, 1, 8, .v .nilFunc, none⟩,
  ⟨.other, 1, 8, .v .nilFunc, none⟩,
  ⟨.strct [(0, 9), (1, 9)], 2, 32, .agg [.s [], .s []], some (1, [.str, .str])⟩,
  ⟨.strct [(0, 9), (1, 9)], 2, 32, .agg [.s [], .s []], some (1, [.str, .str])⟩,
  ⟨.other, 1, 8, .v .nilFunc, none⟩,
  ⟨.slice 3, 1, 24, .sl [] .full, none⟩,
  ⟨.slice 9, 1, 24, .sl [] .full, none⟩,
  ⟨.other, 1, 8, .v .nilFunc, none⟩,
  ⟨.other, 1, 8, .v .nilFunc, none⟩,
  ⟨.map 9 3, 1, 8, .v (.map none), none⟩,
  ⟨.slice 5, 1, 24, .sl [] .full, none⟩,
  ⟨.strct [(0, 9), (1, 38)], 4, 48, .agg [.s [], .v (.int .i64 0), .v (.int .i64 0), .s []], some (2, [.str, .int .i64, .int .i64, .str])⟩,
  ⟨.strct [(0, 9), (1, 38)], 4, 48, .agg [.s [], .v (.int .i64 0), .v (.int .i64 0), .s []], some (2, [.str, .int .i64, .int .i64, .str])⟩,
  ⟨.other, 1, 8, .v .nilFunc, none⟩,
  ⟨.map 9 9, 1, 8, .v (.map none), none⟩,
  ⟨.other, 0, 0, default, none⟩,
  ⟨.other, 1, 8, .v .nilFunc, none⟩,
  ⟨.other, 1, 8, .v .nilFunc, none⟩,
  ⟨.other, 0, 0, default, none⟩,
  ⟨.other, 1, 8, .v .nilFunc, none⟩,
  ⟨.strct [(0, 3), (1, 9), (2, 4)], 3, 32, .agg [.v (.int .i64 0), .s [], .v (.bool false)], some (1, [.int .i64, .str, .bool])⟩,
  ⟨.strct [(0, 3), (1, 9), (2, 4)], 3, 32, .agg [.v (.int .i64 0), .s [], .v (.bool false)], some (1, [.int .i64, .str, .bool])⟩,
  ⟨.other, 1, 8, .v .nilFunc, none⟩,
  ⟨.other, 1, 8, .v .nilFunc, none⟩,
  ⟨.other, 1, 8, .v .nilFunc, none⟩,
  ⟨.other, 1, 8, .v .nilFunc, none⟩,
  ⟨.other, 0, 0, default, none⟩,
  ⟨.other, 1, 8, .v .nilFunc, none⟩,
  ⟨.other, 1, 8, .v .nilFunc, none⟩,
  ⟨.ptr 63, 1, 8, .v (.pointer none), none⟩,
  ⟨.other, 1, 8, .v .nilFunc, none⟩,
  ⟨.other, 1, 8, .v .nilFunc, none⟩,
  ⟨.strct [(0, 3), (1, 3), (2, 9), (3, 9), (4, 9), (5, 9), (6, 4)], 7, 88, .agg [.v (.int .i64 0), .v (.int .i64 0), .s [], .s [], .s [], .s [], .v (.bool false)], some (1, [.int .i64, .int .i64, .str, .str, .str, .str, .bool])⟩,
  ⟨.strct [(0, 3), (1, 3), (2, 9), (3, 9), (4, 9), (5, 9), (6, 4)], 7, 88, .agg [.v (.int .i64 0), .v (.int .i64 0), .s [], .s [], .s [], .s [], .v (.bool false)], some (1, [.int .i64, .int .i64, .str, .str, .str, .str, .bool])⟩,
  ⟨.other, 1, 8, .v .nilFunc, none⟩,
  ⟨.other, 1, 8, .v .nilFunc, none⟩,
  ⟨.other, 1, 8, .v .nilFunc, none⟩,
  ⟨.other, 0, 0, default, none⟩,
  ⟨.other, 1, 8, .v .nilFunc, none⟩,
  ⟨.other, 1, 8, .v .nilFunc, none⟩,
  ⟨.other, 1, 8, .v .nilFunc, none⟩,
  ⟨.strct [(0, 3), (1, 9), (2, 9)], 3, 40, .agg [.v (.int .i64 0), .s [], .s []], some (1, [.int .i64, .str, .str])⟩,
  ⟨.strct [(0, 3), (1, 9), (2, 9)], 3, 40, .agg [.v (.int .i64 0), .s [], .s []], some (1, [.int .i64, .str, .str])⟩,
  ⟨.other, 1, 8, .v .nilFunc, none⟩,
  ⟨.other, 1, 8, .v .nilFunc, none⟩,
  ⟨.other, 1, 8, .v .nilFunc, none⟩,
  ⟨.strct [(0, 3), (1, 9), (2, 9)], 3, 40, .agg [.v (.int .i64 0), .s [], .s []], some (1, [.int .i64, .str, .str])⟩,
  ⟨.strct [(0, 3), (1, 9), (2, 9)], 3, 40, .agg [.v (.int .i64 0), .s [], .s []], some (1, [.int .i64, .str, .str])⟩,
  ⟨.other, 1, 8, .v .nilFunc, none⟩,
  ⟨.other, 1, 8, .v .nilFunc, none⟩,
  ⟨.other, 1, 8, .v .nilFunc, none⟩,
  ⟨.other, 1, 8, .v .nilFunc, none⟩,
  ⟨.other, 1, 8, .v .nilFunc, none⟩,
  ⟨.other, 1, 8, .v .nilFunc, none⟩,
  ⟨.other, 1, 8, .v .nilFunc, none⟩,
  ⟨.other, 1, 8, .v .nilFunc, none⟩,
  ⟨.other, 1, 8, .v .nilFunc, none⟩,
  ⟨.other, 1, 8, .v .nilFunc, none⟩,
  ⟨.ptr 133, 1, 8, .v (.pointer none), none⟩,
  ⟨.map 9 241, 1, 8, .v (.map none), none⟩,
  ⟨.strct [(0, 131), (1, 3)], 2, 16, .agg [.v (.map none), .v (.int .i64 0)], none⟩,
  ⟨.strct [(0, 131), (1, 3)], 2, 16, .agg [.v (.map none), .v (.int .i64 0)], none⟩,
  ⟨.other, 1, 8, .v .nilFunc, none⟩,
  ⟨.other, 1, 8, .v .nilFunc, none⟩,
  ⟨.slice 144, 1, 24, .sl [] .full, none⟩,
  ⟨.other, 0, 0, default, none⟩,
  ⟨.other, 1, 8, .v .nilFunc, none⟩,
  ⟨.ptr 141, 1, 8, .v (.pointer none), none⟩,
  ⟨.strct [(0, 136), (1, 3), (2, 3), (3, 55), (4, 3)], 5, 56, .agg [.sl [] .full, .v (.int .i64 0), .v (.int .i64 0), .v (.int .i64 0), .v (.int .i64 0)], none⟩,
  ⟨.strct [(0, 136), (1, 3), (2, 3), (3, 55), (4, 3)], 5, 56, .agg [.sl [] .full, .v (.int .i64 0), .v (.int .i64 0), .v (.int .i64 0), .v (.int .i64 0)], none⟩,
  ⟨.other, 1, 8, .v .nilFunc, none⟩,
  ⟨.strct [(0, 3), (1, 3), (2, 3), (3, 9)], 4, 40, .agg [.v (.int .i64 0), .v (.int .i64 0), .v (.int .i64 0), .s []], some (1, [.int .i64, .int .i64, .int .i64, .str])⟩,
  ⟨.strct [(0, 3), (1, 3), (2, 3), (3, 9)], 4, 40, .agg [.v (.int .i64 0), .v (.int .i64 0), .v (.int .i64 0), .s []], some (1, [.int .i64, .int .i64, .int .i64, .str])⟩,
  ⟨.other, 1, 8, .v .nilFunc, none⟩,
  ⟨.other, 1, 8, .v .nilFunc, none⟩,
  ⟨.other, 1, 8, .v .nilFunc, none⟩,
  ⟨.other, 1, 8, .v .nilFunc, none⟩,
  ⟨.other, 1, 8, .v .nilFunc, none⟩,
  ⟨.other, 1, 8, .v .nilFunc, none⟩,
  ⟨.other, 1, 8, .v .nilFunc, none⟩,
  ⟨.other, 1, 8, .v .nilFunc, none⟩,
  ⟨.other, 1, 8, .v .nilFunc, none⟩,
  ⟨.other, 1, 8, .v .nilFunc, none⟩,
  ⟨.other, 1, 8, .v .nilFunc, none⟩,
  ⟨.other, 0, 0, default, none⟩,
  ⟨.other, 1, 8, .v .nilFunc, none⟩,
  ⟨.ptr 160, 1, 8, .v (.pointer none), none⟩,
  ⟨.strct [(0, 136), (1, 3), (2, 3), (3, 3), (4, 3)], 5, 56, .agg [.sl [] .full, .v (.int .i64 0), .v (.int .i64 0), .v (.int .i64 0), .v (.int .i64 0)], none⟩,
  ⟨.strct [(0, 136), (1, 3), (2, 3), (3, 3), (4, 3)], 5, 56, .agg [.sl [] .full, .v (.int .i64 0), .v (.int .i64 0), .v (.int .i64 0), .v (.int .i64 0)], none⟩,
  ⟨.other, 1, 8, .v .nilFunc, none⟩,
  ⟨.other, 1, 8, .v .nilFunc, none⟩,
  ⟨.other, 1, 8, .v .nilFunc, none⟩,
  ⟨.other, 1, 8, .v .nilFunc, none⟩,
  ⟨.strct [(0, 3), (1, 3), (2, 9)], 3, 32, .agg [.v (.int .i64 0), .v (.int .i64 0), .s []], some (1, [.int .i64, .int .i64, .str])⟩,
  ⟨.strct [(0, 3), (1, 3), (2, 9)], 3, 32, .agg [.v (.int .i64 0), .v (.int .i64 0), .s []], some (1, [.int .i64, .int .i64, .str])⟩,
  ⟨.slice 172, 1, 24, .sl [] .full, none⟩,
  ⟨.strct [(0, 9), (1, 4), (2, 27), (3, 167), (4, 30)], 5, 96, .agg [.s [], .v (.bool false), .sl [] .full, .sl [] .full, .sl [] .full], none⟩,
  ⟨.strct [(0, 9), (1, 4), (2, 27), (3, 167), (4, 30)], 5, 96, .agg [.s [], .v (.bool false), .sl [] .full, .sl [] .full, .sl [] .full], none⟩,
  ⟨.other, 1, 8, .v .nilFunc, none⟩,
  ⟨.strct [(0, 3), (1, 38), (4, 93)], 7, 72, .agg [.v (.int .i64 0), .v (.int .i64 0), .v (.int .i64 0), .s [], .v (.int .i64 0), .s [], .v (.bool false)], some (2, [.int .i64, .int .i64, .int .i64, .str, .int .i64, .str, .bool])⟩,
  ⟨.strct [(0, 3), (1, 38), (4, 93)], 7, 72, .agg [.v (.int .i64 0), .v (.int .i64 0), .v (.int .i64 0), .s [], .v (.int .i64 0), .s [], .v (.bool false)], some (2, [.int .i64, .int .i64, .int .i64, .str, .int .i64, .str, .bool])⟩,
  ⟨.other, 1, 8, .v .nilFunc, none⟩,
  ⟨.other, 1, 8, .v .nilFunc, none⟩,
  ⟨.other, 1, 8, .v .nilFunc, none⟩,
  ⟨.other, 1, 8, .v .nilFunc, none⟩,
  ⟨.other, 1, 8, .v .nilFunc, none⟩,
  ⟨.other, 1, 8, .v .nilFunc, none⟩,
  ⟨.other, 1, 8, .v .nilFunc, none⟩,
  ⟨.other, 1, 8, .v .nilFunc, none⟩,
  ⟨.other, 0, 0, default, none⟩,
  ⟨.other, 1, 8, .v .nilFunc, none⟩,
  ⟨.other, 1, 8, .v .nilFunc, none⟩,
  ⟨.other, 1, 8, .v .nilFunc, none⟩,
  ⟨.other, 1, 8, .v .nilFunc, none⟩,
  ⟨.other, 1, 8, .v .nilFunc, none⟩,
  ⟨.other, 1, 8, .v .nilFunc, none⟩,
  ⟨.other, 1, 8, .v .nilFunc, none⟩,
  ⟨.other, 1, 8, .v .nilFunc, none⟩,
  ⟨.other, 1, 8, .v .nilFunc, none⟩,
  ⟨.other, 1, 8, .v .nilFunc, none⟩,
  ⟨.other, 1, 8, .v .nilFunc, none⟩,
  ⟨.other, 1, 8, .v .nilFunc, none⟩,
  ⟨.other, 1, 8, .v .nilFunc, none⟩,
  ⟨.other, 1, 8, .v .nilFunc, none⟩,
  ⟨.other, 1, 8, .v .nilFunc, none⟩,
  ⟨.other, 1, 8, .v .nilFunc, none⟩,
  ⟨.other, 1, 8, .v .nilFunc, none⟩,
  ⟨.other, 1, 8, .v .nilFunc, none⟩,
  ⟨.int .u64, 1, 8, .v (.int .u64 0), some (0, [.int .u64])⟩,
  ⟨.other, 0, 0, default, none⟩,
  ⟨.other, 1, 8, .v .nilFunc, none⟩,
  ⟨.other, 0, 0, default, none⟩,
  ⟨.other, 1, 8, .v .nilFunc, none⟩,
  ⟨.other, 1, 8, .v .nilFunc, none⟩,
  ⟨.other, 1, 8, .v .nilFunc, none⟩,
  ⟨.ptr 209, 1, 8, .v (.pointer none), none⟩,
  ⟨.strct [(0, 78), (1, 3)], 2, 32, .agg [.sl [] .full, .v (.int .i64 0)], none⟩,
  ⟨.strct [(0, 78), (1, 3)], 2, 32, .agg [.sl [] .full, .v (.int .i64 0)], none⟩,
  ⟨.other, 1, 8, .v .nilFunc, none⟩,
  ⟨.slice 215, 1, 24, .sl [] .full, none⟩,
  ⟨.other, 1, 8, .v .nilFunc, none⟩,
  ⟨.strct [(0, 93), (3, 3), (4, 38)], 7, 72, .agg [.v (.int .i64 0), .s [], .v (.bool false), .v (.int .i64 0), .v (.int .i64 0), .v (.int .i64 0), .s []], some (2, [.int .i64, .str, .bool, .int .i64, .int .i64, .int .i64, .str])⟩,
  ⟨.strct [(0, 93), (3, 3), (4, 38)], 7, 72, .agg [.v (.int .i64 0), .s [], .v (.bool false), .v (.int .i64 0), .v (.int .i64 0), .v (.int .i64 0), .s []], some (2, [.int .i64, .str, .bool, .int .i64, .int .i64, .int .i64, .str])⟩,
  ⟨.slice 214, 1, 24, .sl [] .full, none⟩,
  ⟨.other, 1, 8, .v .nilFunc, none⟩,
  ⟨.other, 1, 8, .v .nilFunc, none⟩,
  ⟨.other, 1, 8, .v .nilFunc, none⟩,
  ⟨.other, 1, 8, .v .nilFunc, none⟩,
  ⟨.other, 0, 0, default, none⟩,
  ⟨.other, 1, 8, .v .nilFunc, none⟩,
  ⟨.other, 0, 0, default, none⟩,
  ⟨.other, 1, 8, .v .nilFunc, none⟩,
  ⟨.other, 1, 8, .v .nilFunc, none⟩,
  ⟨.other, 1, 8, .v .nilFunc, none⟩,
  ⟨.other, 1, 8, .v .nilFunc, none⟩,
  ⟨.other, 1, 8, .v .nilFunc, none⟩,
  ⟨.other, 1, 8, .v .nilFunc, none⟩,
  ⟨.other, 1, 8, .v .nilFunc, none⟩,
  ⟨.other, 1, 8, .v .nilFunc, none⟩,
  ⟨.other, 0, 0, default, none⟩,
  ⟨.other, 1, 8, .v .nilFunc, none⟩,
  ⟨.int .u64, 1, 8, .v (.int .u64 0), some (0, [.int .u64])⟩,
  ⟨.other, 1, 8, .v .nilFunc, none⟩,
  ⟨.other, 1, 8, .v .nilFunc, none⟩,
  ⟨.other, 0, 0, default, none⟩,
  ⟨.other, 1, 8, .v .nilFunc, none⟩,
  ⟨.other, 1, 8, .v .nilFunc, none⟩,
  ⟨.other, 1, 8, .v .nilFunc, none⟩,
  ⟨.other, 1, 8, .v .nilFunc, none⟩,
  ⟨.strct [], 0, 0, default, none⟩,
  ⟨.other, 0, 0, default, none⟩,
  ⟨.other, 1, 8, .v .nilFunc, none⟩,
  ⟨.slice 4, 1, 24, .sl [] .full, none⟩,
  ⟨.other, 0, 0, default, none⟩,
  ⟨.other, 1, 8, .v .nilFunc, none⟩,
  ⟨.other, 1, 8, .v .nilFunc, none⟩,
  ⟨.iface, 1, 16, .v .nilIface, none⟩,
  ⟨.iface, 1, 16, .v .nilIface, none⟩,
  ⟨.other, 0, 0, default, none⟩,
  ⟨.other, 1, 8, .v .nilFunc, none⟩,
  ⟨.other, 1, 8, .v .nilFunc, none⟩,
  ⟨.other, 1, 8, .v .nilFunc, none⟩,
  ⟨.other, 1, 8, .v .nilFunc, none⟩,
  ⟨.other, 1, 8, .v .nilFunc, none⟩,
  ⟨.other, 1, 8, .v .nilFunc, none⟩,
  ⟨.other, 1, 8, .v .nilFunc, none⟩,
  ⟨.other, 1, 8, .v .nilFunc, none⟩,
  ⟨.other, 1, 8, .v .nilFunc, none⟩,
  ⟨.other, 1, 8, .v .nilFunc, none⟩,
  ⟨.other, 1, 8, .v .nilFunc, none⟩,
  ⟨.other, 1, 8, .v .nilFunc, none⟩,
  ⟨.other, 1, 8, .v .nilFunc, none⟩,
  ⟨.other, 1, 8, .v .nilFunc, none⟩,
  ⟨.int .i64, 1, 8, .v (.int .i64 0), some (0, [.int .i64])⟩,
  ⟨.other, 0, 0, default, none⟩,
  ⟨.other, 1, 8, .v .nilFunc, none⟩,
  ⟨.ptr 276, 1, 8, .v (.pointer none), none⟩,
  ⟨.other, 1, 8, .v .nilFunc, none⟩,
  ⟨.other, 1, 8, .v .nilFunc, none⟩,
  ⟨.other, 0, 0, default, none⟩,
  ⟨.other, 1, 8, .v .nilFunc, none⟩,
  ⟨.other, 0, 0, default, none⟩,
  ⟨.other, 1, 8, .v .nilFunc, none⟩,
  ⟨.strct [(0, 9), (1, 9), (2, 249)], 3, 48, .agg [.s [], .s [], .v .nilIface], none⟩,
  ⟨.strct [(0, 9), (1, 9), (2, 249)], 3, 48, .agg [.s [], .s [], .v .nilIface], none⟩,
  ⟨.other, 1, 8, .v .nilFunc, none⟩,
  ⟨.other, 1, 8, .v .nilFunc, none⟩,
  ⟨.other, 1, 8, .v .nilFunc, none⟩,
  ⟨.ptr 5, 1, 8, .v (.pointer none), none⟩,
  ⟨.ptr 283, 1, 8, .v (.pointer none), none⟩,
  ⟨.strct [(0, 9)], 1, 16, .agg [.s []], some (1, [.str])⟩,
  ⟨.strct [(0, 9)], 1, 16, .agg [.s []], some (1, [.str])⟩,
  ⟨.other, 1, 8, .v .nilFunc, none⟩,
  ⟨.arr 24 5, 24, 24, .agg [.v (.int .u8 0), .v (.int .u8 0), .v (.int .u8 0), .v (.int .u8 0), .v (.int .u8 0), .v (.int .u8 0), .v (.int .u8 0), .v (.int .u8 0), .v (.int .u8 0), .v (.int .u8 0), .v (.int .u8 0), .v (.int .u8 0), .v (.int .u8 0), .v (.int .u8 0), .v (.int .u8 0), .v (.int .u8 0), .v (.int .u8 0), .v (.int .u8 0), .v (.int .u8 0), .v (.int .u8 0), .v (.int .u8 0), .v (.int .u8 0), .v (.int .u8 0), .v (.int .u8 0)], some (1, [.int .u8, .int .u8, .int .u8, .int .u8, .int .u8, .int .u8, .int .u8, .int .u8, .int .u8, .int .u8, .int .u8, .int .u8, .int .u8, .int .u8, .int .u8, .int .u8, .int .u8, .int .u8, .int .u8, .int .u8, .int .u8, .int .u8, .int .u8, .int .u8])⟩,
  ⟨.other, 1, 8, .v .nilFunc, none⟩,
  ⟨.other, 1, 8, .v .nilFunc, none⟩,
  ⟨.other, 0, 0, default, none⟩,
  ⟨.other, 1, 8, .v .nilFunc, none⟩,
  ⟨.other, 1, 8, .v .nilFunc, none⟩,
  ⟨.other, 1, 8, .v .nilFunc, none⟩,
  ⟨.arr 20 200, 20, 160, .agg [.v (.int .u64 0), .v (.int .u64 0), .v (.int .u64 0), .v (.int .u64 0), .v (.int .u64 0), .v (.int .u64 0), .v (.int .u64 0), .v (.int .u64 0), .v (.int .u64 0), .v (.int .u64 0), .v (.int .u64 0), .v (.int .u64 0), .v (.int .u64 0), .v (.int .u64 0), .v (.int .u64 0), .v (.int .u64 0), .v (.int .u64 0), .v (.int .u64 0), .v (.int .u64 0), .v (.int .u64 0)], some (1, [.int .u64, .int .u64, .int .u64, .int .u64, .int .u64, .int .u64, .int .u64, .int .u64, .int .u64, .int .u64, .int .u64, .int .u64, .int .u64, .int .u64, .int .u64, .int .u64, .int .u64, .int .u64, .int .u64, .int .u64])⟩,
  ⟨.int .u32, 1, 4, .v (.int .u32 0), some (0, [.int .u32])⟩,
  ⟨.arr 65 5, 65, 65, .agg [.v (.int .u8 0), .v (.int .u8 0), .v (.int .u8 0), .v (.int .u8 0), .v (.int .u8 0), .v (.int .u8 0), .v (.int .u8 0), .v (.int .u8 0), .v (.int .u8 0), .v (.int .u8 0), .v (.int .u8 0), .v (.int .u8 0), .v (.int .u8 0), .v (.int .u8 0), .v (.int .u8 0), .v (.int .u8 0), .v (.int .u8 0), .v (.int .u8 0), .v (.int .u8 0), .v (.int .u8 0), .v (.int .u8 0), .v (.int .u8 0), .v (.int .u8 0), .v (.int .u8 0), .v (.int .u8 0), .v (.int .u8 0), .v (.int .u8 0), .v (.int .u8 0), .v (.int .u8 0), .v (.int .u8 0), .v (.int .u8 0), .v (.int .u8 0), .v (.int .u8 0), .v (.int .u8 0), .v (.int .u8 0), .v (.int .u8 0), .v (.int .u8 0), .v (.int .u8 0), .v (.int .u8 0), .v (.int .u8 0), .v (.int .u8 0), .v (.int .u8 0), .v (.int .u8 0), .v (.int .u8 0), .v (.int .u8 0), .v (.int .u8 0), .v (.int .u8 0), .v (.int .u8 0), .v (.int .u8 0), .v (.int .u8 0), .v (.int .u8 0), .v (.int .u8 0), .v (.int .u8 0), .v (.int .u8 0), .v (.int .u8 0), .v (.int .u8 0), .v (.int .u8 0), .v (.int .u8 0), .v (.int .u8 0), .v (.int .u8 0), .v (.int .u8 0), .v (.int .u8 0), .v (.int .u8 0), .v (.int .u8 0), .v (.int .u8 0)], none⟩,
  ⟨.other, 1, 8, .v .nilFunc, none⟩,
  ⟨.other, 1, 8, .v .nilFunc, none⟩,
  ⟨.arr 32 5, 32, 32, .agg [.v (.int .u8 0), .v (.int .u8 0), .v (.int .u8 0), .v (.int .u8 0), .v (.int .u8 0), .v (.int .u8 0), .v (.int .u8 0), .v (.int .u8 0), .v (.int .u8 0), .v (.int .u8 0), .v (.int .u8 0), .v (.int .u8 0), .v (.int .u8 0), .v (.int .u8 0), .v (.int .u8 0), .v (.int .u8 0), .v (.int .u8 0), .v (.int .u8 0), .v (.int .u8 0), .v (.int .u8 0), .v (.int .u8 0), .v (.int .u8 0), .v (.int .u8 0), .v (.int .u8 0), .v (.int .u8 0), .v (.int .u8 0), .v (.int .u8 0), .v (.int .u8 0), .v (.int .u8 0), .v (.int .u8 0), .v (.int .u8 0), .v (.int .u8 0)], some (1, [.int .u8, .int .u8, .int .u8, .int .u8, .int .u8, .int .u8, .int .u8, .int .u8, .int .u8, .int .u8, .int .u8, .int .u8, .int .u8, .int .u8, .int .u8, .int .u8, .int .u8, .int .u8, .int .u8, .int .u8, .int .u8, .int .u8, .int .u8, .int .u8, .int .u8, .int .u8, .int .u8, .int .u8, .int .u8, .int .u8, .int .u8, .int .u8])⟩,
  ⟨.arr 64 5, 64, 64, .agg [.v (.int .u8 0), .v (.int .u8 0), .v (.int .u8 0), .v (.int .u8 0), .v (.int .u8 0), .v (.int .u8 0), .v (.int .u8 0), .v (.int .u8 0), .v (.int .u8 0), .v (.int .u8 0), .v (.int .u8 0), .v (.int .u8 0), .v (.int .u8 0), .v (.int .u8 0), .v (.int .u8 0), .v (.int .u8 0), .v (.int .u8 0), .v (.int .u8 0), .v (.int .u8 0), .v (.int .u8 0), .v (.int .u8 0), .v (.int .u8 0), .v (.int .u8 0), .v (.int .u8 0), .v (.int .u8 0), .v (.int .u8 0), .v (.int .u8 0), .v (.int .u8 0), .v (.int .u8 0), .v (.int .u8 0), .v (.int .u8 0), .v (.int .u8 0), .v (.int .u8 0), .v (.int .u8 0), .v (.int .u8 0), .v (.int .u8 0), .v (.int .u8 0), .v (.int .u8 0), .v (.int .u8 0), .v (.int .u8 0), .v (.int .u8 0), .v (.int .u8 0), .v (.int .u8 0), .v (.int .u8 0), .v (.int .u8 0), .v (.int .u8 0), .v (.int .u8 0), .v (.int .u8 0), .v (.int .u8 0), .v (.int .u8 0), .v (.int .u8 0), .v (.int .u8 0), .v (.int .u8 0), .v (.int .u8 0), .v (.int .u8 0), .v (.int .u8 0), .v (.int .u8 0), .v (.int .u8 0), .v (.int .u8 0), .v (.int .u8 0), .v (.int .u8 0), .v (.int .u8 0), .v (.int .u8 0), .v (.int .u8 0)], none⟩,
  ⟨.strct [(0, 17), (1, 17), (2, 17), (3, 9)], 4, 40, .agg [.v (.pointer none), .v (.pointer none), .v (.pointer none), .s []], none⟩,
  ⟨.strct [(0, 17), (1, 17), (2, 17), (3, 9)], 4, 40, .agg [.v (.pointer none), .v (.pointer none), .v (.pointer none), .s []], none⟩,
  ⟨.arr 0 16, 0, 0, default, none⟩,
  ⟨.other, 0, 0, default, none⟩,
  ⟨.other, 0, 0, default, none⟩,
  ⟨.other, 1, 8, .v .nilFunc, none⟩,
  ⟨.int .u8, 1, 1, .v (.int .u8 0), some (0, [.int .u8])⟩,
  ⟨.int .u8, 1, 1, .v (.int .u8 0), some (0, [.int .u8])⟩,
  ⟨.other, 1, 8, .v .nilFunc, none⟩,
  ⟨.int .i32, 1, 4, .v (.int .i32 0), some (0, [.int .i32])⟩,
  ⟨.int .i32, 1, 4, .v (.int .i32 0), some (0, [.int .i32])⟩,
  ⟨.strct [(0, 12), (1, 12), (2, 293), (3, 305), (4, 5), (5, 5), (6, 306), (7, 307), (8, 280), (9, 308), (10, 309)], 11, 48, .agg [.v (.int .u64 0), .v (.int .u64 0), .v (.int .u32 0), .v (.int .u8 0), .v (.int .u8 0), .v (.int .u8 0), .v (.int .u8 0), .v .nilFunc, .v (.pointer none), .v (.int .i32 0), .v (.int .i32 0)], none⟩,
  ⟨.strct [(0, 12), (1, 12), (2, 293), (3, 305), (4, 5), (5, 5), (6, 306), (7, 307), (8, 280), (9, 308), (10, 309)], 11, 48, .agg [.v (.int .u64 0), .v (.int .u64 0), .v (.int .u32 0), .v (.int .u8 0), .v (.int .u8 0), .v (.int .u8 0), .v (.int .u8 0), .v .nilFunc, .v (.pointer none), .v (.int .i32 0), .v (.int .i32 0)], none⟩,
  ⟨.other, 1, 8, .v (.pointer none), none⟩]
def U (t : TypeId) : TI := tyRows.getD t ⟨.other, 0, 0, default, none⟩
@[go_sem] theorem U1k : (U 1).k = .other := rfl
@[go_sem] theorem U1s : (U 1).sz = 1 := rfl
@[go_sem] theorem U1b : (U 1).bytes = 8 := rfl
@[go_sem] theorem U1z : (U 1).zero = .v .nilFunc := rfl
@[go_sem] theorem U2k : (U 2).k = .int .i64 := rfl
@[go_sem] theorem U2s : (U 2).sz = 1 := rfl
@[go_sem] theorem U2b : (U 2).bytes = 8 := rfl
@[go_sem] theorem U2z : (U 2).zero = .v (.int .i64 0) := rfl
@[go_sem] theorem U3k : (U 3).k = .int .i64 := rfl
@[go_sem] theorem U3s : (U 3).sz = 1 := rfl
@[go_sem] theorem U3b : (U 3).bytes = 8 := rfl
@[go_sem] theorem U3z : (U 3).zero = .v (.int .i64 0) := rfl
@[go_sem] theorem U4k : (U 4).k = .bool := rfl
@[go_sem] theorem U4s : (U 4).sz = 1 := rfl
@[go_sem] theorem U4b : (U 4).bytes = 1 := rfl
@[go_sem] theorem U4z : (U 4).zero = .v (.bool false) := rfl
@[go_sem] theorem U5k : (U 5).k = .int .u8 := rfl
@[go_sem] theorem U5s : (U 5).sz = 1 := rfl
@[go_sem] theorem U5b : (U 5).bytes = 1 := rfl
@[go_sem] theorem U5z : (U 5).zero = .v (.int .u8 0) := rfl
@[go_sem] theorem U6k : (U 6).k = .int .u8 := rfl
@[go_sem] theorem U6s : (U 6).sz = 1 := rfl
@[go_sem] theorem U6b : (U 6).bytes = 1 := rfl
@[go_sem] theorem U6z : (U 6).zero = .v (.int .u8 0) := rfl
@[go_sem] theorem U7k : (U 7).k = .strct [(0, 2), (1, 3), (2, 4), (3, 6)] := rfl
@[go_sem] theorem U7s : (U 7).sz = 4 := rfl
@[go_sem] theorem U7b : (U 7).bytes = 24 := rfl
@[go_sem] theorem U7z : (U 7).zero = .agg [.v (.int .i64 0), .v (.int .i64 0), .v (.bool false), .v (.int .u8 0)] := rfl
@[go_sem] theorem U8k : (U 8).k = .strct [(0, 2), (1, 3), (2, 4), (3, 6)] := rfl
@[go_sem] theorem U8s : (U 8).sz = 4 := rfl
@[go_sem] theorem U8b : (U 8).bytes = 24 := rfl
@[go_sem] theorem U8z : (U 8).zero = .agg [.v (.int .i64 0), .v (.int .i64 0), .v (.bool false), .v (.int .u8 0)] := rfl
@[go_sem] theorem U9k : (U 9).k = .str := rfl
@[go_sem] theorem U9s : (U 9).sz = 1 := rfl
@[go_sem] theorem U9b : (U 9).bytes = 16 := rfl
@[go_sem] theorem U9z : (U 9).zero = .s [] := rfl
@[go_sem] theorem U10k : (U 10).k = .str := rfl
@[go_sem] theorem U10s : (U 10).sz = 1 := rfl
@[go_sem] theorem U10b : (U 10).bytes = 16 := rfl
@[go_sem] theorem U10z : (U 10).zero = .s [] := rfl
@[go_sem] theorem U11k : (U 11).k = .str := rfl
@[go_sem] theorem U11s : (U 11).sz = 1 := rfl
@[go_sem] theorem U11b : (U 11).bytes = 16 := rfl
@[go_sem] theorem U11z : (U 11).zero = .s [] := rfl
@[go_sem] theorem U12k : (U 12).k = .int .u64 := rfl
@[go_sem] theorem U12s : (U 12).sz = 1 := rfl
@[go_sem] theorem U12b : (U 12).bytes = 8 := rfl
@[go_sem] theorem U12z : (U 12).zero = .v (.int .u64 0) := rfl
@[go_sem] theorem U13k : (U 13).k = .strct [(0, 9), (1, 12)] := rfl
@[go_sem] theorem U13s : (U 13).sz = 2 := rfl
@[go_sem] theorem U13b : (U 13).bytes = 24 := rfl
@[go_sem] theorem U13z : (U 13).zero = .agg [.s [], .v (.int .u64 0)] := rfl
@[go_sem] theorem U14k : (U 14).k = .strct [(0, 9), (1, 12)] := rfl
@[go_sem] theorem U14s : (U 14).sz = 2 := rfl
@[go_sem] theorem U14b : (U 14).bytes = 24 := rfl
@[go_sem] theorem U14z : (U 14).zero = .agg [.s [], .v (.int .u64 0)] := rfl
@[go_sem] theorem U15k : (U 15).k = .ptr 300 := rfl
@[go_sem] theorem U15s : (U 15).sz = 1 := rfl
@[go_sem] theorem U15b : (U 15).bytes = 8 := rfl
@[go_sem] theorem U15z : (U 15).zero = .v (.pointer none) := rfl
@[go_sem] theorem U16k : (U 16).k = .ptr 303 := rfl
@[go_sem] theorem U16s : (U 16).sz = 1 := rfl
@[go_sem] theorem U16b : (U 16).bytes = 8 := rfl
@[go_sem] theorem U16z : (U 16).zero = .v (.pointer none) := rfl
@[go_sem] theorem U17k : (U 17).k = .ptr 311 := rfl
@[go_sem] theorem U17s : (U 17).sz = 1 := rfl
@[go_sem] theorem U17b : (U 17).bytes = 8 := rfl
@[go_sem] theorem U17z : (U 17).zero = .v (.pointer none) := rfl
@[go_sem] theorem U18k : (U 18).k = .strct [(0, 17)] := rfl
@[go_sem] theorem U18s : (U 18).sz = 1 := rfl
@[go_sem] theorem U18b : (U 18).bytes = 8 := rfl
@[go_sem] theorem U18z : (U 18).zero = .agg [.v (.pointer none)] := rfl
@[go_sem] theorem U19k : (U 19).k = .strct [(0, 17)] := rfl
@[go_sem] theorem U19s : (U 19).sz = 1 := rfl
@[go_sem] theorem U19b : (U 19).bytes = 8 := rfl
@[go_sem] theorem U19z : (U 19).zero = .agg [.v (.pointer none)] := rfl
@[go_sem] theorem U20k : (U 20).k = .iface := rfl
@[go_sem] theorem U20s : (U 20).sz = 1 := rfl
@[go_sem] theorem U20b : (U 20).bytes = 16 := rfl
@[go_sem] theorem U20z : (U 20).zero = .v .nilIface := rfl
@[go_sem] theorem U21k : (U 21).k = .int .i32 := rfl
@[go_sem] theorem U21s : (U 21).sz = 1 := rfl
@[go_sem] theorem U21b : (U 21).bytes = 4 := rfl
@[go_sem] theorem U21z : (U 21).zero = .v (.int .i32 0) := rfl
@[go_sem] theorem U22k : (U 22).k = .slice 63 := rfl
@[go_sem] theorem U22s : (U 22).sz = 1 := rfl
@[go_sem] theorem U22b : (U 22).bytes = 24 := rfl
@[go_sem] theorem U22z : (U 22).zero = .sl [] .full := rfl
@[go_sem] theorem U23k : (U 23).k = .slice 105 := rfl
@[go_sem] theorem U23s : (U 23).sz = 1 := rfl
@[go_sem] theorem U23b : (U 23).bytes = 24 := rfl
@[go_sem] theorem U23z : (U 23).zero = .sl [] .full := rfl
@[go_sem] theorem U24k : (U 24).k = .slice 114 := rfl
@[go_sem] theorem U24s : (U 24).sz = 1 := rfl
@[go_sem] theorem U24b : (U 24).bytes = 24 := rfl
@[go_sem] theorem U24z : (U 24).zero = .sl [] .full := rfl
@[go_sem] theorem U25k : (U 25).k = .slice 75 := rfl
@[go_sem] theorem U25s : (U 25).sz = 1 := rfl
@[go_sem] theorem U25b : (U 25).bytes = 24 := rfl
@[go_sem] theorem U25z : (U 25).zero = .sl [] .full := rfl
@[go_sem] theorem U26k : (U 26).k = .slice 211 := rfl
@[go_sem] theorem U26s : (U 26).sz = 1 := rfl
@[go_sem] theorem U26b : (U 26).bytes = 24 := rfl
@[go_sem] theorem U26z : (U 26).zero = .sl [] .full := rfl
@[go_sem] theorem U27k : (U 27).k = .slice 211 := rfl
@[go_sem] theorem U27s : (U 27).sz = 1 := rfl
@[go_sem] theorem U27b : (U 27).bytes = 24 := rfl
@[go_sem] theorem U27z : (U 27).zero = .sl [] .full := rfl
@[go_sem] theorem U28k : (U 28).k = .slice 169 := rfl
@[go_sem] theorem U28s : (U 28).sz = 1 := rfl
@[go_sem] theorem U28b : (U 28).bytes = 24 := rfl
@[go_sem] theorem U28z : (U 28).zero = .sl [] .full := rfl
@[go_sem] theorem U29k : (U 29).k = .slice 32 := rfl
@[go_sem] theorem U29s : (U 29).sz = 1 := rfl
@[go_sem] theorem U29b : (U 29).bytes = 24 := rfl
@[go_sem] theorem U29z : (U 29).zero = .sl [] .full := rfl
@[go_sem] theorem U30k : (U 30).k = .slice 166 := rfl
@[go_sem] theorem U30s : (U 30).sz = 1 := rfl
@[go_sem] theorem U30b : (U 30).bytes = 24 := rfl
@[go_sem] theorem U30z : (U 30).zero = .sl [] .full := rfl
@[go_sem] theorem U31k : (U 31).k = .strct [(0, 9), (1, 4), (2, 3), (3, 27), (4, 28), (5, 29), (6, 30)] := rfl
@[go_sem] theorem U31s : (U 31).sz = 7 := rfl
@[go_sem] theorem U31b : (U 31).bytes = 128 := rfl
@[go_sem] theorem U31z : (U 31).zero = .agg [.s [], .v (.bool false), .v (.int .i64 0), .sl [] .full, .sl [] .full, .sl [] .full, .sl [] .full] := rfl
@[go_sem] theorem U32k : (U 32).k = .strct [(0, 9), (1, 4), (2, 3), (3, 27), (4, 28), (5, 29), (6, 30)] := rfl
@[go_sem] theorem U32s : (U 32).sz = 7 := rfl
@[go_sem] theorem U32b : (U 32).bytes = 128 := rfl
@[go_sem] theorem U32z : (U 32).zero = .agg [.s [], .v (.bool false), .v (.int .i64 0), .sl [] .full, .sl [] .full, .sl [] .full, .sl [] .full] := rfl
@[go_sem] theorem U33k : (U 33).k = .strct [(0, 3), (1, 22), (2, 23), (3, 24), (4, 25), (5, 32), (12, 3)] := rfl
@[go_sem] theorem U33s : (U 33).sz = 13 := rfl
@[go_sem] theorem U33b : (U 33).bytes = 240 := rfl
@[go_sem] theorem U33z : (U 33).zero = .agg [.v (.int .i64 0), .sl [] .full, .sl [] .full, .sl [] .full, .sl [] .full, .s [], .v (.bool false), .v (.int .i64 0), .sl [] .full, .sl [] .full, .sl [] .full, .sl [] .full, .v (.int .i64 0)] := rfl
@[go_sem] theorem U34k : (U 34).k = .strct [(0, 3), (1, 22), (2, 23), (3, 24), (4, 25), (5, 32), (12, 3)] := rfl
@[go_sem] theorem U34s : (U 34).sz = 13 := rfl
@[go_sem] theorem U34b : (U 34).bytes = 240 := rfl
@[go_sem] theorem U34z : (U 34).zero = .agg [.v (.int .i64 0), .sl [] .full, .sl [] .full, .sl [] .full, .sl [] .full, .s [], .v (.bool false), .v (.int .i64 0), .sl [] .full, .sl [] .full, .sl [] .full, .sl [] .full, .v (.int .i64 0)] := rfl
@[go_sem] theorem U35k : (U 35).k = .other := rfl
@[go_sem] theorem U35s : (U 35).sz = 1 := rfl
@[go_sem] theorem U35b : (U 35).bytes = 8 := rfl
@[go_sem] theorem U35z : (U 35).zero = .v .nilFunc := rfl
@[go_sem] theorem U36k : (U 36).k = .other := rfl
@[go_sem] theorem U36s : (U 36).sz = 1 := rfl
@[go_sem] theorem U36b : (U 36).bytes = 8 := rfl
@[go_sem] theorem U36z : (U 36).zero = .v .nilFunc := rfl
@[go_sem] theorem U37k : (U 37).k = .strct [(0, 3), (1, 3), (2, 9)] := rfl
@[go_sem] theorem U37s : (U 37).sz = 3 := rfl
@[go_sem] theorem U37b : (U 37).bytes = 32 := rfl
@[go_sem] theorem U37z : (U 37).zero = .agg [.v (.int .i64 0), .v (.int .i64 0), .s []] := rfl
@[go_sem] theorem U37e : (U 37).eq = some (1, [.int .i64, .int .i64, .str]) := rfl
@[go_sem] theorem U38k : (U 38).k = .strct [(0, 3), (1, 3), (2, 9)] := rfl
@[go_sem] theorem U38s : (U 38).sz = 3 := rfl
@[go_sem] theorem U38b : (U 38).bytes = 32 := rfl
@[go_sem] theorem U38z : (U 38).zero = .agg [.v (.int .i64 0), .v (.int .i64 0), .s []] := rfl
@[go_sem] theorem U38e : (U 38).eq = some (1, [.int .i64, .int .i64, .str]) := rfl
@[go_sem] theorem U39k : (U 39).k = .strct [(0, 3), (1, 9), (2, 9), (3, 9), (4, 9), (5, 38), (8, 3), (9, 9), (10, 9), (11, 4)] := rfl
@[go_sem] theorem U39s : (U 39).sz = 12 := rfl
@[go_sem] theorem U39b : (U 39).bytes = 152 := rfl
@[go_sem] theorem U39z : (U 39).zero = .agg [.v (.int .i64 0), .s [], .s [], .s [], .s [], .v (.int .i64 0), .v (.int .i64 0), .s [], .v (.int .i64 0), .s [], .s [], .v (.bool false)] := rfl
@[go_sem] theorem U39e : (U 39).eq = some (2, [.int .i64, .str, .str, .str, .str, .int .i64, .int .i64, .str, .int .i64, .str, .str, .bool]) := rfl
@[go_sem] theorem U40k : (U 40).k = .strct [(0, 3), (1, 9), (2, 9), (3, 9), (4, 9), (5, 38), (8, 3), (9, 9), (10, 9), (11, 4)] := rfl
@[go_sem] theorem U40s : (U 40).sz = 12 := rfl
@[go_sem] theorem U40b : (U 40).bytes = 152 := rfl
@[go_sem] theorem U40z : (U 40).zero = .agg [.v (.int .i64 0), .s [], .s [], .s [], .s [], .v (.int .i64 0), .v (.int .i64 0), .s [], .v (.int .i64 0), .s [], .s [], .v (.bool false)] := rfl
@[go_sem] theorem U40e : (U 40).eq = some (2, [.int .i64, .str, .str, .str, .str, .int .i64, .int .i64, .str, .int .i64, .str, .str, .bool]) := rfl
@[go_sem] theorem U41k : (U 41).k = .slice 38 := rfl
@[go_sem] theorem U41s : (U 41).sz = 1 := rfl
@[go_sem] theorem U41b : (U 41).bytes = 24 := rfl
@[go_sem] theorem U41z : (U 41).zero = .sl [] .full := rfl
@[go_sem] theorem U42k : (U 42).k = .strct [(0, 3), (1, 9), (2, 41)] := rfl
@[go_sem] theorem U42s : (U 42).sz = 3 := rfl
@[go_sem] theorem U42b : (U 42).bytes = 48 := rfl
@[go_sem] theorem U42z : (U 42).zero = .agg [.v (.int .i64 0), .s [], .sl [] .full] := rfl
@[go_sem] theorem U43k : (U 43).k = .strct [(0, 3), (1, 9), (2, 41)] := rfl
@[go_sem] theorem U43s : (U 43).sz = 3 := rfl
@[go_sem] theorem U43b : (U 43).bytes = 48 := rfl
@[go_sem] theorem U43z : (U 43).zero = .agg [.v (.int .i64 0), .s [], .sl [] .full] := rfl
@[go_sem] theorem U44k : (U 44).k = .other := rfl
@[go_sem] theorem U44s : (U 44).sz = 1 := rfl
@[go_sem] theorem U44b : (U 44).bytes = 8 := rfl
@[go_sem] theorem U44z : (U 44).zero = .v .nilFunc := rfl
@[go_sem] theorem U45k : (U 45).k = .slice 43 := rfl
@[go_sem] theorem U45s : (U 45).sz = 1 := rfl
@[go_sem] theorem U45b : (U 45).bytes = 24 := rfl
@[go_sem] theorem U45z : (U 45).zero = .sl [] .full := rfl
@[go_sem] theorem U46k : (U 46).k = .other := rfl
@[go_sem] theorem U46s : (U 46).sz = 1 := rfl
@[go_sem] theorem U46b : (U 46).bytes = 8 := rfl
@[go_sem] theorem U46z : (U 46).zero = .v .nilFunc := rfl
@[go_sem] theorem U47k : (U 47).k = .other := rfl
@[go_sem] theorem U47s : (U 47).sz = 1 := rfl
@[go_sem] theorem U47b : (U 47).bytes = 8 := rfl
@[go_sem] theorem U47z : (U 47).zero = .v .nilFunc := rfl
@[go_sem] theorem U48k : (U 48).k = .other := rfl
@[go_sem] theorem U48s : (U 48).sz = 1 := rfl
@[go_sem] theorem U48b : (U 48).bytes = 8 := rfl
@[go_sem] theorem U48z : (U 48).zero = .v .nilFunc := rfl
@[go_sem] theorem U49k : (U 49).k = .slice 40 := rfl
@[go_sem] theorem U49s : (U 49).sz = 1 := rfl
@[go_sem] theorem U49b : (U 49).bytes = 24 := rfl
@[go_sem] theorem U49z : (U 49).zero = .sl [] .full := rfl
@[go_sem] theorem U50k : (U 50).k = .other := rfl
@[go_sem] theorem U50s : (U 50).sz = 1 := rfl
@[go_sem] theorem U50b : (U 50).bytes = 8 := rfl
@[go_sem] theorem U50z : (U 50).zero = .v .nilFunc := rfl
@[go_sem] theorem U51k : (U 51).k = .ptr 67 := rfl
@[go_sem] theorem U51s : (U 51).sz = 1 := rfl
@[go_sem] theorem U51b : (U 51).bytes = 8 := rfl
@[go_sem] theorem U51z : (U 51).zero = .v (.pointer none) := rfl
@[go_sem] theorem U52k : (U 52).k = .other := rfl
@[go_sem] theorem U52s : (U 52).sz = 1 := rfl
@[go_sem] theorem U52b : (U 52).bytes = 8 := rfl
@[go_sem] theorem U52z : (U 52).zero = .v .nilFunc := rfl
@[go_sem] theorem U53k : (U 53).k = .other := rfl
@[go_sem] theorem U53s : (U 53).sz = 1 := rfl
@[go_sem] theorem U53b : (U 53).bytes = 8 := rfl
@[go_sem] theorem U53z : (U 53).zero = .v .nilFunc := rfl
@[go_sem] theorem U54k : (U 54).k = .other := rfl
@[go_sem] theorem U54s : (U 54).sz = 1 := rfl
@[go_sem] theorem U54b : (U 54).bytes = 8 := rfl
@[go_sem] theorem U54z : (U 54).zero = .v .nilFunc := rfl
@[go_sem] theorem U55k : (U 55).k = .int .i64 := rfl
@[go_sem] theorem U55s : (U 55).sz = 1 := rfl
@[go_sem] theorem U55b : (U 55).bytes = 8 := rfl
@[go_sem] theorem U55z : (U 55).zero = .v (.int .i64 0) := rfl
@[go_sem] theorem U56k : (U 56).k = .other := rfl
@[go_sem] theorem U56s : (U 56).sz = 1 := rfl
@[go_sem] theorem U56b : (U 56).bytes = 8 := rfl
@[go_sem] theorem U56z : (U 56).zero = .v .nilFunc := rfl
@[go_sem] theorem U57k : (U 57).k = .other := rfl
@[go_sem] theorem U57s : (U 57).sz = 1 := rfl
@[go_sem] theorem U57b : (U 57).bytes = 8 := rfl
@[go_sem] theorem U57z : (U 57).zero = .v .nilFunc := rfl
@[go_sem] theorem U59k : (U 59).k = .other := rfl
@[go_sem] theorem U59s : (U 59).sz = 1 := rfl
@[go_sem] theorem U59b : (U 59).bytes = 8 := rfl
@[go_sem] theorem U59z : (U 59).zero = .v .nilFunc := rfl
@[go_sem] theorem U60k : (U 60).k = .slice 84 := rfl
@[go_sem] theorem U60s : (U 60).sz = 1 := rfl
@[go_sem] theorem U60b : (U 60).bytes = 24 := rfl
@[go_sem] theorem U60z : (U 60).zero = .sl [] .full := rfl
@[go_sem] theorem U61k : (U 61).k = .slice 119 := rfl
@[go_sem] theorem U61s : (U 61).sz = 1 := rfl
@[go_sem] theorem U61b : (U 61).bytes = 24 := rfl
@[go_sem] theorem U61z : (U 61).zero = .sl [] .full := rfl
@[go_sem] theorem U62k : (U 62).k = .strct [(0, 9), (1, 9), (2, 9), (3, 60), (4, 61)] := rfl
@[go_sem] theorem U62s : (U 62).sz = 5 := rfl
@[go_sem] theorem U62b : (U 62).bytes = 96 := rfl
@[go_sem] theorem U62z : (U 62).zero = .agg [.s [], .s [], .s [], .sl [] .full, .sl [] .full] := rfl
@[go_sem] theorem U63k : (U 63).k = .strct [(0, 9), (1, 9), (2, 9), (3, 60), (4, 61)] := rfl
@[go_sem] theorem U63s : (U 63).sz = 5 := rfl
@[go_sem] theorem U63b : (U 63).bytes = 96 := rfl
@[go_sem] theorem U63z : (U 63).zero = .agg [.s [], .s [], .s [], .sl [] .full, .sl [] .full] := rfl
@[go_sem] theorem U65k : (U 65).k = .other := rfl
@[go_sem] theorem U65s : (U 65).sz = 1 := rfl
@[go_sem] theorem U65b : (U 65).bytes = 8 := rfl
@[go_sem] theorem U65z : (U 65).zero = .v .nilFunc := rfl
@[go_sem] theorem U66k : (U 66).k = .other := rfl
@[go_sem] theorem U66s : (U 66).sz = 1 := rfl
@[go_sem] theorem U66b : (U 66).bytes = 8 := rfl
@[go_sem] theorem U66z : (U 66).zero = .v .nilFunc := rfl
@[go_sem] theorem U67k : (U 67).k = .strct [(0, 3), (1, 22), (2, 23), (3, 24), (4, 25), (5, 32), (12, 3)] := rfl
@[go_sem] theorem U67s : (U 67).sz = 13 := rfl
@[go_sem] theorem U67b : (U 67).bytes = 240 := rfl
@[go_sem] theorem U67z : (U 67).zero = .agg [.v (.int .i64 0), .sl [] .full, .sl [] .full, .sl [] .full, .sl [] .full, .s [], .v (.bool false), .v (.int .i64 0), .sl [] .full, .sl [] .full, .sl [] .full, .sl [] .full, .v (.int .i64 0)] := rfl
@[go_sem] theorem U68k : (U 68).k = .other := rfl
@[go_sem] theorem U68s : (U 68).sz = 1 := rfl
@[go_sem] theorem U68b : (U 68).bytes = 8 := rfl
@[go_sem] theorem U68z : (U 68).zero = .v .nilFunc := rfl
@[go_sem] theorem U69k : (U 69).k = .other := rfl
@[go_sem] theorem U69s : (U 69).sz = 1 := rfl
@[go_sem] theorem U69b : (U 69).bytes = 8 := rfl
@[go_sem] theorem U69z : (U 69).zero = .v .nilFunc := rfl
@[go_sem] theorem U70k : (U 70).k = .other := rfl
@[go_sem] theorem U70s : (U 70).sz = 1 := rfl
@[go_sem] theorem U70b : (U 70).bytes = 8 := rfl
@[go_sem] theorem U70z : (U 70).zero = .v .nilFunc := rfl
@[go_sem] theorem U71k : (U 71).k = .other := rfl
@[go_sem] theorem U71s : (U 71).sz = 1 := rfl
@[go_sem] theorem U71b : (U 71).bytes = 8 := rfl
@[go_sem] theorem U71z : (U 71).zero = .v .nilFunc := rfl
@[go_sem] theorem U72k : (U 72).k = .other := rfl
@[go_sem] theorem U72s : (U 72).sz = 1 := rfl
@[go_sem] theorem U72b : (U 72).bytes = 8 := rfl
@[go_sem] theorem U72z : (U 72).zero = .v .nilFunc := rfl
@[go_sem] theorem U73k : (U 73).k = .other := rfl
@[go_sem] theorem U73s : (U 73).sz = 1 := rfl
@[go_sem] theorem U73b : (U 73).bytes = 8 := rfl
@[go_sem] theorem U73z : (U 73).zero = .v .nilFunc := rfl
@[go_sem] theorem U74k : (U 74).k = .strct [(0, 9), (1, 9)] := rfl
@[go_sem] theorem U74s : (U 74).sz = 2 := rfl
@[go_sem] theorem U74b : (U 74).bytes = 32 := rfl
@[go_sem] theorem U74z : (U 74).zero = .agg [.s [], .s []] := rfl
@[go_sem] theorem U74e : (U 74).eq = some (1, [.str, .str]) := rfl
@[go_sem] theorem U75k : (U 75).k = .strct [(0, 9), (1, 9)] := rfl
@[go_sem] theorem U75s : (U 75).sz = 2 := rfl
@[go_sem] theorem U75b : (U 75).bytes = 32 := rfl
@[go_sem] theorem U75z : (U 75).zero = .agg [.s [], .s []] := rfl
@[go_sem] theorem U75e : (U 75).eq = some (1, [.str, .str]) := rfl
@[go_sem] theorem U76k : (U 76).k = .other := rfl
@[go_sem] theorem U76s : (U 76).sz = 1 := rfl
@[go_sem] theorem U76b : (U 76).bytes = 8 := rfl
@[go_sem] theorem U76z : (U 76).zero = .v .nilFunc := rfl
@[go_sem] theorem U77k : (U 77).k = .slice 3 := rfl
@[go_sem] theorem U77s : (U 77).sz = 1 := rfl
@[go_sem] theorem U77b : (U 77).bytes = 24 := rfl
@[go_sem] theorem U77z : (U 77).zero = .sl [] .full := rfl
@[go_sem] theorem U78k : (U 78).k = .slice 9 := rfl
@[go_sem] theorem U78s : (U 78).sz = 1 := rfl
@[go_sem] theorem U78b : (U 78).bytes = 24 := rfl
@[go_sem] theorem U78z : (U 78).zero = .sl [] .full := rfl
@[go_sem] theorem U79k : (U 79).k = .other := rfl
@[go_sem] theorem U79s : (U 79).sz = 1 := rfl
@[go_sem] theorem U79b : (U 79).bytes = 8 := rfl
@[go_sem] theorem U79z : (U 79).zero = .v .nilFunc := rfl
@[go_sem] theorem U80k : (U 80).k = .other := rfl
@[go_sem] theorem U80s : (U 80).sz = 1 := rfl
@[go_sem] theorem U80b : (U 80).bytes = 8 := rfl
@[go_sem] theorem U80z : (U 80).zero = .v .nilFunc := rfl
@[go_sem] theorem U81k : (U 81).k = .map 9 3 := rfl
@[go_sem] theorem U81s : (U 81).sz = 1 := rfl
@[go_sem] theorem U81b : (U 81).bytes = 8 := rfl
@[go_sem] theorem U81z : (U 81).zero = .v (.map none) := rfl
@[go_sem] theorem U82k : (U 82).k = .slice 5 := rfl
@[go_sem] theorem U82s : (U 82).sz = 1 := rfl
@[go_sem] theorem U82b : (U 82).bytes = 24 := rfl
@[go_sem] theorem U82z : (U 82).zero = .sl [] .full := rfl
@[go_sem] theorem U83k : (U 83).k = .strct [(0, 9), (1, 38)] := rfl
@[go_sem] theorem U83s : (U 83).sz = 4 := rfl
@[go_sem] theorem U83b : (U 83).bytes = 48 := rfl
@[go_sem] theorem U83z : (U 83).zero = .agg [.s [], .v (.int .i64 0), .v (.int .i64 0), .s []] := rfl
@[go_sem] theorem U83e : (U 83).eq = some (2, [.str, .int .i64, .int .i64, .str]) := rfl
@[go_sem] theorem U84k : (U 84).k = .strct [(0, 9), (1, 38)] := rfl
@[go_sem] theorem U84s : (U 84).sz = 4 := rfl
@[go_sem] theorem U84b : (U 84).bytes = 48 := rfl
@[go_sem] theorem U84z : (U 84).zero = .agg [.s [], .v (.int .i64 0), .v (.int .i64 0), .s []] := rfl
@[go_sem] theorem U84e : (U 84).eq = some (2, [.str, .int .i64, .int .i64, .str]) := rfl
@[go_sem] theorem U85k : (U 85).k = .other := rfl
@[go_sem] theorem U85s : (U 85).sz = 1 := rfl
@[go_sem] theorem U85b : (U 85).bytes = 8 := rfl
@[go_sem] theorem U85z : (U 85).zero = .v .nilFunc := rfl
@[go_sem] theorem U86k : (U 86).k = .map 9 9 := rfl
@[go_sem] theorem U86s : (U 86).sz = 1 := rfl
@[go_sem] theorem U86b : (U 86).bytes = 8 := rfl
@[go_sem] theorem U86z : (U 86).zero = .v (.map none) := rfl
@[go_sem] theorem U88k : (U 88).k = .other := rfl
@[go_sem] theorem U88s : (U 88).sz = 1 := rfl
@[go_sem] theorem U88b : (U 88).bytes = 8 := rfl
@[go_sem] theorem U88z : (U 88).zero = .v .nilFunc := rfl
@[go_sem] theorem U89k : (U 89).k = .other := rfl
@[go_sem] theorem U89s : (U 89).sz = 1 := rfl
@[go_sem] theorem U89b : (U 89).bytes = 8 := rfl
@[go_sem] theorem U89z : (U 89).zero = .v .nilFunc := rfl
@[go_sem] theorem U91k : (U 91).k = .other := rfl
@[go_sem] theorem U91s : (U 91).sz = 1 := rfl
@[go_sem] theorem U91b : (U 91).bytes = 8 := rfl
@[go_sem] theorem U91z : (U 91).zero = .v .nilFunc := rfl
@[go_sem] theorem U92k : (U 92).k = .strct [(0, 3), (1, 9), (2, 4)] := rfl
@[go_sem] theorem U92s : (U 92).sz = 3 := rfl
@[go_sem] theorem U92b : (U 92).bytes = 32 := rfl
@[go_sem] theorem U92z : (U 92).zero = .agg [.v (.int .i64 0), .s [], .v (.bool false)] := rfl
@[go_sem] theorem U92e : (U 92).eq = some (1, [.int .i64, .str, .bool]) := rfl
@[go_sem] theorem U93k : (U 93).k = .strct [(0, 3), (1, 9), (2, 4)] := rfl
@[go_sem] theorem U93s : (U 93).sz = 3 := rfl
@[go_sem] theorem U93b : (U 93).bytes = 32 := rfl
@[go_sem] theorem U93z : (U 93).zero = .agg [.v (.int .i64 0), .s [], .v (.bool false)] := rfl
@[go_sem] theorem U93e : (U 93).eq = some (1, [.int .i64, .str, .bool]) := rfl
@[go_sem] theorem U94k : (U 94).k = .other := rfl
@[go_sem] theorem U94s : (U 94).sz = 1 := rfl
@[go_sem] theorem U94b : (U 94).bytes = 8 := rfl
@[go_sem] theorem U94z : (U 94).zero = .v .nilFunc := rfl
@[go_sem] theorem U95k : (U 95).k = .other := rfl
@[go_sem] theorem U95s : (U 95).sz = 1 := rfl
@[go_sem] theorem U95b : (U 95).bytes = 8 := rfl
@[go_sem] theorem U95z : (U 95).zero = .v .nilFunc := rfl
@[go_sem] theorem U96k : (U 96).k = .other := rfl
@[go_sem] theorem U96s : (U 96).sz = 1 := rfl
@[go_sem] theorem U96b : (U 96).bytes = 8 := rfl
@[go_sem] theorem U96z : (U 96).zero = .v .nilFunc := rfl
@[go_sem] theorem U97k : (U 97).k = .other := rfl
@[go_sem] theorem U97s : (U 97).sz = 1 := rfl
@[go_sem] theorem U97b : (U 97).bytes = 8 := rfl
@[go_sem] theorem U97z : (U 97).zero = .v .nilFunc := rfl
@[go_sem] theorem U99k : (U 99).k = .other := rfl
@[go_sem] theorem U99s : (U 99).sz = 1 := rfl
@[go_sem] theorem U99b : (U 99).bytes = 8 := rfl
@[go_sem] theorem U99z : (U 99).zero = .v .nilFunc := rfl
@[go_sem] theorem U100k : (U 100).k = .other := rfl
@[go_sem] theorem U100s : (U 100).sz = 1 := rfl
@[go_sem] theorem U100b : (U 100).bytes = 8 := rfl
@[go_sem] theorem U100z : (U 100).zero = .v .nilFunc := rfl
@[go_sem] theorem U101k : (U 101).k = .ptr 63 := rfl
@[go_sem] theorem U101s : (U 101).sz = 1 := rfl
@[go_sem] theorem U101b : (U 101).bytes = 8 := rfl
@[go_sem] theorem U101z : (U 101).zero = .v (.pointer none) := rfl
@[go_sem] theorem U102k : (U 102).k = .other := rfl
@[go_sem] theorem U102s : (U 102).sz = 1 := rfl
@[go_sem] theorem U102b : (U 102).bytes = 8 := rfl
@[go_sem] theorem U102z : (U 102).zero = .v .nilFunc := rfl
@[go_sem] theorem U103k : (U 103).k = .other := rfl
@[go_sem] theorem U103s : (U 103).sz = 1 := rfl
@[go_sem] theorem U103b : (U 103).bytes = 8 := rfl
@[go_sem] theorem U103z : (U 103).zero = .v .nilFunc := rfl
@[go_sem] theorem U104k : (U 104).k = .strct [(0, 3), (1, 3), (2, 9), (3, 9), (4, 9), (5, 9), (6, 4)] := rfl
@[go_sem] theorem U104s : (U 104).sz = 7 := rfl
@[go_sem] theorem U104b : (U 104).bytes = 88 := rfl
@[go_sem] theorem U104z : (U 104).zero = .agg [.v (.int .i64 0), .v (.int .i64 0), .s [], .s [], .s [], .s [], .v (.bool false)] := rfl
@[go_sem] theorem U104e : (U 104).eq = some (1, [.int .i64, .int .i64, .str, .str, .str, .str, .bool]) := rfl
@[go_sem] theorem U105k : (U 105).k = .strct [(0, 3), (1, 3), (2, 9), (3, 9), (4, 9), (5, 9), (6, 4)] := rfl
@[go_sem] theorem U105s : (U 105).sz = 7 := rfl
@[go_sem] theorem U105b : (U 105).bytes = 88 := rfl
@[go_sem] theorem U105z : (U 105).zero = .agg [.v (.int .i64 0), .v (.int .i64 0), .s [], .s [], .s [], .s [], .v (.bool false)] := rfl
@[go_sem] theorem U105e : (U 105).eq = some (1, [.int .i64, .int .i64, .str, .str, .str, .str, .bool]) := rfl
@[go_sem] theorem U106k : (U 106).k = .other := rfl
@[go_sem] theorem U106s : (U 106).sz = 1 := rfl
@[go_sem] theorem U106b : (U 106).bytes = 8 := rfl
@[go_sem] theorem U106z : (U 106).zero = .v .nilFunc := rfl
@[go_sem] theorem U107k : (U 107).k = .other := rfl
@[go_sem] theorem U107s : (U 107).sz = 1 := rfl
@[go_sem] theorem U107b : (U 107).bytes = 8 := rfl
@[go_sem] theorem U107z : (U 107).zero = .v .nilFunc := rfl
@[go_sem] theorem U108k : (U 108).k = .other := rfl
@[go_sem] theorem U108s : (U 108).sz = 1 := rfl
@[go_sem] theorem U108b : (U 108).bytes = 8 := rfl
@[go_sem] theorem U108z : (U 108).zero = .v .nilFunc := rfl
@[go_sem] theorem U110k : (U 110).k = .other := rfl
@[go_sem] theorem U110s : (U 110).sz = 1 := rfl
@[go_sem] theorem U110b : (U 110).bytes = 8 := rfl
@[go_sem] theorem U110z : (U 110).zero = .v .nilFunc := rfl
@[go_sem] theorem U111k : (U 111).k = .other := rfl
@[go_sem] theorem U111s : (U 111).sz = 1 := rfl
@[go_sem] theorem U111b : (U 111).bytes = 8 := rfl
@[go_sem] theorem U111z : (U 111).zero = .v .nilFunc := rfl
@[go_sem] theorem U112k : (U 112).k = .other := rfl
@[go_sem] theorem U112s : (U 112).sz = 1 := rfl
@[go_sem] theorem U112b : (U 112).bytes = 8 := rfl
@[go_sem] theorem U112z : (U 112).zero = .v .nilFunc := rfl
@[go_sem] theorem U113k : (U 113).k = .strct [(0, 3), (1, 9), (2, 9)] := rfl
@[go_sem] theorem U113s : (U 113).sz = 3 := rfl
@[go_sem] theorem U113b : (U 113).bytes = 40 := rfl
@[go_sem] theorem U113z : (U 113).zero = .agg [.v (.int .i64 0), .s [], .s []] := rfl
@[go_sem] theorem U113e : (U 113).eq = some (1, [.int .i64, .str, .str]) := rfl
@[go_sem] theorem U114k : (U 114).k = .strct [(0, 3), (1, 9), (2, 9)] := rfl
@[go_sem] theorem U114s : (U 114).sz = 3 := rfl
@[go_sem] theorem U114b : (U 114).bytes = 40 := rfl
@[go_sem] theorem U114z : (U 114).zero = .agg [.v (.int .i64 0), .s [], .s []] := rfl
@[go_sem] theorem U114e : (U 114).eq = some (1, [.int .i64, .str, .str]) := rfl
@[go_sem] theorem U115k : (U 115).k = .other := rfl
@[go_sem] theorem U115s : (U 115).sz = 1 := rfl
@[go_sem] theorem U115b : (U 115).bytes = 8 := rfl
@[go_sem] theorem U115z : (U 115).zero = .v .nilFunc := rfl
@[go_sem] theorem U116k : (U 116).k = .other := rfl
@[go_sem] theorem U116s : (U 116).sz = 1 := rfl
@[go_sem] theorem U116b : (U 116).bytes = 8 := rfl
@[go_sem] theorem U116z : (U 116).zero = .v .nilFunc := rfl
@[go_sem] theorem U117k : (U 117).k = .other := rfl
@[go_sem] theorem U117s : (U 117).sz = 1 := rfl
@[go_sem] theorem U117b : (U 117).bytes = 8 := rfl
@[go_sem] theorem U117z : (U 117).zero = .v .nilFunc := rfl
@[go_sem] theorem U118k : (U 118).k = .strct [(0, 3), (1, 9), (2, 9)] := rfl
@[go_sem] theorem U118s : (U 118).sz = 3 := rfl
@[go_sem] theorem U118b : (U 118).bytes = 40 := rfl
@[go_sem] theorem U118z : (U 118).zero = .agg [.v (.int .i64 0), .s [], .s []] := rfl
@[go_sem] theorem U118e : (U 118).eq = some (1, [.int .i64, .str, .str]) := rfl
@[go_sem] theorem U119k : (U 119).k = .strct [(0, 3), (1, 9), (2, 9)] := rfl
@[go_sem] theorem U119s : (U 119).sz = 3 := rfl
@[go_sem] theorem U119b : (U 119).bytes = 40 := rfl
@[go_sem] theorem U119z : (U 119).zero = .agg [.v (.int .i64 0), .s [], .s []] := rfl
@[go_sem] theorem U119e : (U 119).eq = some (1, [.int .i64, .str, .str]) := rfl
@[go_sem] theorem U120k : (U 120).k = .other := rfl
@[go_sem] theorem U120s : (U 120).sz = 1 := rfl
@[go_sem] theorem U120b : (U 120).bytes = 8 := rfl
@[go_sem] theorem U120z : (U 120).zero = .v .nilFunc := rfl
@[go_sem] theorem U121k : (U 121).k = .other := rfl
@[go_sem] theorem U121s : (U 121).sz = 1 := rfl
@[go_sem] theorem U121b : (U 121).bytes = 8 := rfl
@[go_sem] theorem U121z : (U 121).zero = .v .nilFunc := rfl
@[go_sem] theorem U122k : (U 122).k = .other := rfl
@[go_sem] theorem U122s : (U 122).sz = 1 := rfl
@[go_sem] theorem U122b : (U 122).bytes = 8 := rfl
@[go_sem] theorem U122z : (U 122).zero = .v .nilFunc := rfl
@[go_sem] theorem U123k : (U 123).k = .other := rfl
@[go_sem] theorem U123s : (U 123).sz = 1 := rfl
@[go_sem] theorem U123b : (U 123).bytes = 8 := rfl
@[go_sem] theorem U123z : (U 123).zero = .v .nilFunc := rfl
@[go_sem] theorem U124k : (U 124).k = .other := rfl
@[go_sem] theorem U124s : (U 124).sz = 1 := rfl
@[go_sem] theorem U124b : (U 124).bytes = 8 := rfl
@[go_sem] theorem U124z : (U 124).zero = .v .nilFunc := rfl
@[go_sem] theorem U125k : (U 125).k = .other := rfl
@[go_sem] theorem U125s : (U 125).sz = 1 := rfl
@[go_sem] theorem U125b : (U 125).bytes = 8 := rfl
@[go_sem] theorem U125z : (U 125).zero = .v .nilFunc := rfl
@[go_sem] theorem U126k : (U 126).k = .other := rfl
@[go_sem] theorem U126s : (U 126).sz = 1 := rfl
@[go_sem] theorem U126b : (U 126).bytes = 8 := rfl
@[go_sem] theorem U126z : (U 126).zero = .v .nilFunc := rfl
@[go_sem] theorem U127k : (U 127).k = .other := rfl
@[go_sem] theorem U127s : (U 127).sz = 1 := rfl
@[go_sem] theorem U127b : (U 127).bytes = 8 := rfl
@[go_sem] theorem U127z : (U 127).zero = .v .nilFunc := rfl
@[go_sem] theorem U128k : (U 128).k = .other := rfl
@[go_sem] theorem U128s : (U 128).sz = 1 := rfl
@[go_sem] theorem U128b : (U 128).bytes = 8 := rfl
@[go_sem] theorem U128z : (U 128).zero = .v .nilFunc := rfl
@[go_sem] theorem U129k : (U 129).k = .other := rfl
@[go_sem] theorem U129s : (U 129).sz = 1 := rfl
@[go_sem] theorem U129b : (U 129).bytes = 8 := rfl
@[go_sem] theorem U129z : (U 129).zero = .v .nilFunc := rfl
@[go_sem] theorem U130k : (U 130).k = .ptr 133 := rfl
@[go_sem] theorem U130s : (U 130).sz = 1 := rfl
@[go_sem] theorem U130b : (U 130).bytes = 8 := rfl
@[go_sem] theorem U130z : (U 130).zero = .v (.pointer none) := rfl
@[go_sem] theorem U131k : (U 131).k = .map 9 241 := rfl
@[go_sem] theorem U131s : (U 131).sz = 1 := rfl
@[go_sem] theorem U131b : (U 131).bytes = 8 := rfl
@[go_sem] theorem U131z : (U 131).zero = .v (.map none) := rfl
@[go_sem] theorem U132k : (U 132).k = .strct [(0, 131), (1, 3)] := rfl
@[go_sem] theorem U132s : (U 132).sz = 2 := rfl
@[go_sem] theorem U132b : (U 132).bytes = 16 := rfl
@[go_sem] theorem U132z : (U 132).zero = .agg [.v (.map none), .v (.int .i64 0)] := rfl
@[go_sem] theorem U133k : (U 133).k = .strct [(0, 131), (1, 3)] := rfl
@[go_sem] theorem U133s : (U 133).sz = 2 := rfl
@[go_sem] theorem U133b : (U 133).bytes = 16 := rfl
@[go_sem] theorem U133z : (U 133).zero = .agg [.v (.map none), .v (.int .i64 0)] := rfl
@[go_sem] theorem U134k : (U 134).k = .other := rfl
@[go_sem] theorem U134s : (U 134).sz = 1 := rfl
@[go_sem] theorem U134b : (U 134).bytes = 8 := rfl
@[go_sem] theorem U134z : (U 134).zero = .v .nilFunc := rfl
@[go_sem] theorem U135k : (U 135).k = .other := rfl
@[go_sem] theorem U135s : (U 135).sz = 1 := rfl
@[go_sem] theorem U135b : (U 135).bytes = 8 := rfl
@[go_sem] theorem U135z : (U 135).zero = .v .nilFunc := rfl
@[go_sem] theorem U136k : (U 136).k = .slice 144 := rfl
@[go_sem] theorem U136s : (U 136).sz = 1 := rfl
@[go_sem] theorem U136b : (U 136).bytes = 24 := rfl
@[go_sem] theorem U136z : (U 136).zero = .sl [] .full := rfl
@[go_sem] theorem U138k : (U 138).k = .other := rfl
@[go_sem] theorem U138s : (U 138).sz = 1 := rfl
@[go_sem] theorem U138b : (U 138).bytes = 8 := rfl
@[go_sem] theorem U138z : (U 138).zero = .v .nilFunc := rfl
@[go_sem] theorem U139k : (U 139).k = .ptr 141 := rfl
@[go_sem] theorem U139s : (U 139).sz = 1 := rfl
@[go_sem] theorem U139b : (U 139).bytes = 8 := rfl
@[go_sem] theorem U139z : (U 139).zero = .v (.pointer none) := rfl
@[go_sem] theorem U140k : (U 140).k = .strct [(0, 136), (1, 3), (2, 3), (3, 55), (4, 3)] := rfl
@[go_sem] theorem U140s : (U 140).sz = 5 := rfl
@[go_sem] theorem U140b : (U 140).bytes = 56 := rfl
@[go_sem] theorem U140z : (U 140).zero = .agg [.sl [] .full, .v (.int .i64 0), .v (.int .i64 0), .v (.int .i64 0), .v (.int .i64 0)] := rfl
@[go_sem] theorem U141k : (U 141).k = .strct [(0, 136), (1, 3), (2, 3), (3, 55), (4, 3)] := rfl
@[go_sem] theorem U141s : (U 141).sz = 5 := rfl
@[go_sem] theorem U141b : (U 141).bytes = 56 := rfl
@[go_sem] theorem U141z : (U 141).zero = .agg [.sl [] .full, .v (.int .i64 0), .v (.int .i64 0), .v (.int .i64 0), .v (.int .i64 0)] := rfl
@[go_sem] theorem U142k : (U 142).k = .other := rfl
@[go_sem] theorem U142s : (U 142).sz = 1 := rfl
@[go_sem] theorem U142b : (U 142).bytes = 8 := rfl
@[go_sem] theorem U142z : (U 142).zero = .v .nilFunc := rfl
@[go_sem] theorem U143k : (U 143).k = .strct [(0, 3), (1, 3), (2, 3), (3, 9)] := rfl
@[go_sem] theorem U143s : (U 143).sz = 4 := rfl
@[go_sem] theorem U143b : (U 143).bytes = 40 := rfl
@[go_sem] theorem U143z : (U 143).zero = .agg [.v (.int .i64 0), .v (.int .i64 0), .v (.int .i64 0), .s []] := rfl
@[go_sem] theorem U143e : (U 143).eq = some (1, [.int .i64, .int .i64, .int .i64, .str]) := rfl
@[go_sem] theorem U144k : (U 144).k = .strct [(0, 3), (1, 3), (2, 3), (3, 9)] := rfl
@[go_sem] theorem U144s : (U 144).sz = 4 := rfl
@[go_sem] theorem U144b : (U 144).bytes = 40 := rfl
@[go_sem] theorem U144z : (U 144).zero = .agg [.v (.int .i64 0), .v (.int .i64 0), .v (.int .i64 0), .s []] := rfl
@[go_sem] theorem U144e : (U 144).eq = some (1, [.int .i64, .int .i64, .int .i64, .str]) := rfl
@[go_sem] theorem U145k : (U 145).k = .other := rfl
@[go_sem] theorem U145s : (U 145).sz = 1 := rfl
@[go_sem] theorem U145b : (U 145).bytes = 8 := rfl
@[go_sem] theorem U145z : (U 145).zero = .v .nilFunc := rfl
@[go_sem] theorem U146k : (U 146).k = .other := rfl
@[go_sem] theorem U146s : (U 146).sz = 1 := rfl
@[go_sem] theorem U146b : (U 146).bytes = 8 := rfl
@[go_sem] theorem U146z : (U 146).zero = .v .nilFunc := rfl
@[go_sem] theorem U147k : (U 147).k = .other := rfl
@[go_sem] theorem U147s : (U 147).sz = 1 := rfl
@[go_sem] theorem U147b : (U 147).bytes = 8 := rfl
@[go_sem] theorem U147z : (U 147).zero = .v .nilFunc := rfl
@[go_sem] theorem U148k : (U 148).k = .other := rfl
@[go_sem] theorem U148s : (U 148).sz = 1 := rfl
@[go_sem] theorem U148b : (U 148).bytes = 8 := rfl
@[go_sem] theorem U148z : (U 148).zero = .v .nilFunc := rfl
@[go_sem] theorem U149k : (U 149).k = .other := rfl
@[go_sem] theorem U149s : (U 149).sz = 1 := rfl
@[go_sem] theorem U149b : (U 149).bytes = 8 := rfl
@[go_sem] theorem U149z : (U 149).zero = .v .nilFunc := rfl
@[go_sem] theorem U150k : (U 150).k = .other := rfl
@[go_sem] theorem U150s : (U 150).sz = 1 := rfl
@[go_sem] theorem U150b : (U 150).bytes = 8 := rfl
@[go_sem] theorem U150z : (U 150).zero = .v .nilFunc := rfl
@[go_sem] theorem U151k : (U 151).k = .other := rfl
@[go_sem] theorem U151s : (U 151).sz = 1 := rfl
@[go_sem] theorem U151b : (U 151).bytes = 8 := rfl
@[go_sem] theorem U151z : (U 151).zero = .v .nilFunc := rfl
@[go_sem] theorem U152k : (U 152).k = .other := rfl
@[go_sem] theorem U152s : (U 152).sz = 1 := rfl
@[go_sem] theorem U152b : (U 152).bytes = 8 := rfl
@[go_sem] theorem U152z : (U 152).zero = .v .nilFunc := rfl
@[go_sem] theorem U153k : (U 153).k = .other := rfl
@[go_sem] theorem U153s : (U 153).sz = 1 := rfl
@[go_sem] theorem U153b : (U 153).bytes = 8 := rfl
@[go_sem] theorem U153z : (U 153).zero = .v .nilFunc := rfl
@[go_sem] theorem U154k : (U 154).k = .other := rfl
@[go_sem] theorem U154s : (U 154).sz = 1 := rfl
@[go_sem] theorem U154b : (U 154).bytes = 8 := rfl
@[go_sem] theorem U154z : (U 154).zero = .v .nilFunc := rfl
@[go_sem] theorem U155k : (U 155).k = .other := rfl
@[go_sem] theorem U155s : (U 155).sz = 1 := rfl
@[go_sem] theorem U155b : (U 155).bytes = 8 := rfl
@[go_sem] theorem U155z : (U 155).zero = .v .nilFunc := rfl
@[go_sem] theorem U157k : (U 157).k = .other := rfl
@[go_sem] theorem U157s : (U 157).sz = 1 := rfl
@[go_sem] theorem U157b : (U 157).bytes = 8 := rfl
@[go_sem] theorem U157z : (U 157).zero = .v .nilFunc := rfl
@[go_sem] theorem U158k : (U 158).k = .ptr 160 := rfl
@[go_sem] theorem U158s : (U 158).sz = 1 := rfl
@[go_sem] theorem U158b : (U 158).bytes = 8 := rfl
@[go_sem] theorem U158z : (U 158).zero = .v (.pointer none) := rfl
@[go_sem] theorem U159k : (U 159).k = .strct [(0, 136), (1, 3), (2, 3), (3, 3), (4, 3)] := rfl
@[go_sem] theorem U159s : (U 159).sz = 5 := rfl
@[go_sem] theorem U159b : (U 159).bytes = 56 := rfl
@[go_sem] theorem U159z : (U 159).zero = .agg [.sl [] .full, .v (.int .i64 0), .v (.int .i64 0), .v (.int .i64 0), .v (.int .i64 0)] := rfl
@[go_sem] theorem U160k : (U 160).k = .strct [(0, 136), (1, 3), (2, 3), (3, 3), (4, 3)] := rfl
@[go_sem] theorem U160s : (U 160).sz = 5 := rfl
@[go_sem] theorem U160b : (U 160).bytes = 56 := rfl
@[go_sem] theorem U160z : (U 160).zero = .agg [.sl [] .full, .v (.int .i64 0), .v (.int .i64 0), .v (.int .i64 0), .v (.int .i64 0)] := rfl
@[go_sem] theorem U161k : (U 161).k = .other := rfl
@[go_sem] theorem U161s : (U 161).sz = 1 := rfl
@[go_sem] theorem U161b : (U 161).bytes = 8 := rfl
@[go_sem] theorem U161z : (U 161).zero = .v .nilFunc := rfl
@[go_sem] theorem U162k : (U 162).k = .other := rfl
@[go_sem] theorem U162s : (U 162).sz = 1 := rfl
@[go_sem] theorem U162b : (U 162).bytes = 8 := rfl
@[go_sem] theorem U162z : (U 162).zero = .v .nilFunc := rfl
@[go_sem] theorem U163k : (U 163).k = .other := rfl
@[go_sem] theorem U163s : (U 163).sz = 1 := rfl
@[go_sem] theorem U163b : (U 163).bytes = 8 := rfl
@[go_sem] theorem U163z : (U 163).zero = .v .nilFunc := rfl
@[go_sem] theorem U164k : (U 164).k = .other := rfl
@[go_sem] theorem U164s : (U 164).sz = 1 := rfl
@[go_sem] theorem U164b : (U 164).bytes = 8 := rfl
@[go_sem] theorem U164z : (U 164).zero = .v .nilFunc := rfl
@[go_sem] theorem U165k : (U 165).k = .strct [(0, 3), (1, 3), (2, 9)] := rfl
@[go_sem] theorem U165s : (U 165).sz = 3 := rfl
@[go_sem] theorem U165b : (U 165).bytes = 32 := rfl
@[go_sem] theorem U165z : (U 165).zero = .agg [.v (.int .i64 0), .v (.int .i64 0), .s []] := rfl
@[go_sem] theorem U165e : (U 165).eq = some (1, [.int .i64, .int .i64, .str]) := rfl
@[go_sem] theorem U166k : (U 166).k = .strct [(0, 3), (1, 3), (2, 9)] := rfl
@[go_sem] theorem U166s : (U 166).sz = 3 := rfl
@[go_sem] theorem U166b : (U 166).bytes = 32 := rfl
@[go_sem] theorem U166z : (U 166).zero = .agg [.v (.int .i64 0), .v (.int .i64 0), .s []] := rfl
@[go_sem] theorem U166e : (U 166).eq = some (1, [.int .i64, .int .i64, .str]) := rfl
@[go_sem] theorem U167k : (U 167).k = .slice 172 := rfl
@[go_sem] theorem U167s : (U 167).sz = 1 := rfl
@[go_sem] theorem U167b : (U 167).bytes = 24 := rfl
@[go_sem] theorem U167z : (U 167).zero = .sl [] .full := rfl
@[go_sem] theorem U168k : (U 168).k = .strct [(0, 9), (1, 4), (2, 27), (3, 167), (4, 30)] := rfl
@[go_sem] theorem U168s : (U 168).sz = 5 := rfl
@[go_sem] theorem U168b : (U 168).bytes = 96 := rfl
@[go_sem] theorem U168z : (U 168).zero = .agg [.s [], .v (.bool false), .sl [] .full, .sl [] .full, .sl [] .full] := rfl
@[go_sem] theorem U169k : (U 169).k = .strct [(0, 9), (1, 4), (2, 27), (3, 167), (4, 30)] := rfl
@[go_sem] theorem U169s : (U 169).sz = 5 := rfl
@[go_sem] theorem U169b : (U 169).bytes = 96 := rfl
@[go_sem] theorem U169z : (U 169).zero = .agg [.s [], .v (.bool false), .sl [] .full, .sl [] .full, .sl [] .full] := rfl
@[go_sem] theorem U170k : (U 170).k = .other := rfl
@[go_sem] theorem U170s : (U 170).sz = 1 := rfl
@[go_sem] theorem U170b : (U 170).bytes = 8 := rfl
@[go_sem] theorem U170z : (U 170).zero = .v .nilFunc := rfl
@[go_sem] theorem U171k : (U 171).k = .strct [(0, 3), (1, 38), (4, 93)] := rfl
@[go_sem] theorem U171s : (U 171).sz = 7 := rfl
@[go_sem] theorem U171b : (U 171).bytes = 72 := rfl
@[go_sem] theorem U171z : (U 171).zero = .agg [.v (.int .i64 0), .v (.int .i64 0), .v (.int .i64 0), .s [], .v (.int .i64 0), .s [], .v (.bool false)] := rfl
@[go_sem] theorem U171e : (U 171).eq = some (2, [.int .i64, .int .i64, .int .i64, .str, .int .i64, .str, .bool]) := rfl
@[go_sem] theorem U172k : (U 172).k = .strct [(0, 3), (1, 38), (4, 93)] := rfl
@[go_sem] theorem U172s : (U 172).sz = 7 := rfl
@[go_sem] theorem U172b : (U 172).bytes = 72 := rfl
@[go_sem] theorem U172z : (U 172).zero = .agg [.v (.int .i64 0), .v (.int .i64 0), .v (.int .i64 0), .s [], .v (.int .i64 0), .s [], .v (.bool false)] := rfl
@[go_sem] theorem U172e : (U 172).eq = some (2, [.int .i64, .int .i64, .int .i64, .str, .int .i64, .str, .bool]) := rfl
@[go_sem] theorem U173k : (U 173).k = .other := rfl
@[go_sem] theorem U173s : (U 173).sz = 1 := rfl
@[go_sem] theorem U173b : (U 173).bytes = 8 := rfl
@[go_sem] theorem U173z : (U 173).zero = .v .nilFunc := rfl
@[go_sem] theorem U174k : (U 174).k = .other := rfl
@[go_sem] theorem U174s : (U 174).sz = 1 := rfl
@[go_sem] theorem U174b : (U 174).bytes = 8 := rfl
@[go_sem] theorem U174z : (U 174).zero = .v .nilFunc := rfl
@[go_sem] theorem U175k : (U 175).k = .other := rfl
@[go_sem] theorem U175s : (U 175).sz = 1 := rfl
@[go_sem] theorem U175b : (U 175).bytes = 8 := rfl
@[go_sem] theorem U175z : (U 175).zero = .v .nilFunc := rfl
@[go_sem] theorem U176k : (U 176).k = .other := rfl
@[go_sem] theorem U176s : (U 176).sz = 1 := rfl
@[go_sem] theorem U176b : (U 176).bytes = 8 := rfl
@[go_sem] theorem U176z : (U 176).zero = .v .nilFunc := rfl
@[go_sem] theorem U177k : (U 177).k = .other := rfl
@[go_sem] theorem U177s : (U 177).sz = 1 := rfl
@[go_sem] theorem U177b : (U 177).bytes = 8 := rfl
@[go_sem] theorem U177z : (U 177).zero = .v .nilFunc := rfl
@[go_sem] theorem U178k : (U 178).k = .other := rfl
@[go_sem] theorem U178s : (U 178).sz = 1 := rfl
@[go_sem] theorem U178b : (U 178).bytes = 8 := rfl
@[go_sem] theorem U178z : (U 178).zero = .v .nilFunc := rfl
@[go_sem] theorem U179k : (U 179).k = .other := rfl
@[go_sem] theorem U179s : (U 179).sz = 1 := rfl
@[go_sem] theorem U179b : (U 179).bytes = 8 := rfl
@[go_sem] theorem U179z : (U 179).zero = .v .nilFunc := rfl
@[go_sem] theorem U180k : (U 180).k = .other := rfl
@[go_sem] theorem U180s : (U 180).sz = 1 := rfl
@[go_sem] theorem U180b : (U 180).bytes = 8 := rfl
@[go_sem] theorem U180z : (U 180).zero = .v .nilFunc := rfl
@[go_sem] theorem U182k : (U 182).k = .other := rfl
@[go_sem] theorem U182s : (U 182).sz = 1 := rfl
@[go_sem] theorem U182b : (U 182).bytes = 8 := rfl
@[go_sem] theorem U182z : (U 182).zero = .v .nilFunc := rfl
@[go_sem] theorem U183k : (U 183).k = .other := rfl
@[go_sem] theorem U183s : (U 183).sz = 1 := rfl
@[go_sem] theorem U183b : (U 183).bytes = 8 := rfl
@[go_sem] theorem U183z : (U 183).zero = .v .nilFunc := rfl
@[go_sem] theorem U184k : (U 184).k = .other := rfl
@[go_sem] theorem U184s : (U 184).sz = 1 := rfl
@[go_sem] theorem U184b : (U 184).bytes = 8 := rfl
@[go_sem] theorem U184z : (U 184).zero = .v .nilFunc := rfl
@[go_sem] theorem U185k : (U 185).k = .other := rfl
@[go_sem] theorem U185s : (U 185).sz = 1 := rfl
@[go_sem] theorem U185b : (U 185).bytes = 8 := rfl
@[go_sem] theorem U185z : (U 185).zero = .v .nilFunc := rfl
@[go_sem] theorem U186k : (U 186).k = .other := rfl
@[go_sem] theorem U186s : (U 186).sz = 1 := rfl
@[go_sem] theorem U186b : (U 186).bytes = 8 := rfl
@[go_sem] theorem U186z : (U 186).zero = .v .nilFunc := rfl
@[go_sem] theorem U187k : (U 187).k = .other := rfl
@[go_sem] theorem U187s : (U 187).sz = 1 := rfl
@[go_sem] theorem U187b : (U 187).bytes = 8 := rfl
@[go_sem] theorem U187z : (U 187).zero = .v .nilFunc := rfl
@[go_sem] theorem U188k : (U 188).k = .other := rfl
@[go_sem] theorem U188s : (U 188).sz = 1 := rfl
@[go_sem] theorem U188b : (U 188).bytes = 8 := rfl
@[go_sem] theorem U188z : (U 188).zero = .v .nilFunc := rfl
@[go_sem] theorem U189k : (U 189).k = .other := rfl
@[go_sem] theorem U189s : (U 189).sz = 1 := rfl
@[go_sem] theorem U189b : (U 189).bytes = 8 := rfl
@[go_sem] theorem U189z : (U 189).zero = .v .nilFunc := rfl
@[go_sem] theorem U190k : (U 190).k = .other := rfl
@[go_sem] theorem U190s : (U 190).sz = 1 := rfl
@[go_sem] theorem U190b : (U 190).bytes = 8 := rfl
@[go_sem] theorem U190z : (U 190).zero = .v .nilFunc := rfl
@[go_sem] theorem U191k : (U 191).k = .other := rfl
@[go_sem] theorem U191s : (U 191).sz = 1 := rfl
@[go_sem] theorem U191b : (U 191).bytes = 8 := rfl
@[go_sem] theorem U191z : (U 191).zero = .v .nilFunc := rfl
@[go_sem] theorem U192k : (U 192).k = .other := rfl
@[go_sem] theorem U192s : (U 192).sz = 1 := rfl
@[go_sem] theorem U192b : (U 192).bytes = 8 := rfl
@[go_sem] theorem U192z : (U 192).zero = .v .nilFunc := rfl
@[go_sem] theorem U193k : (U 193).k = .other := rfl
@[go_sem] theorem U193s : (U 193).sz = 1 := rfl
@[go_sem] theorem U193b : (U 193).bytes = 8 := rfl
@[go_sem] theorem U193z : (U 193).zero = .v .nilFunc := rfl
@[go_sem] theorem U194k : (U 194).k = .other := rfl
@[go_sem] theorem U194s : (U 194).sz = 1 := rfl
@[go_sem] theorem U194b : (U 194).bytes = 8 := rfl
@[go_sem] theorem U194z : (U 194).zero = .v .nilFunc := rfl
@[go_sem] theorem U195k : (U 195).k = .other := rfl
@[go_sem] theorem U195s : (U 195).sz = 1 := rfl
@[go_sem] theorem U195b : (U 195).bytes = 8 := rfl
@[go_sem] theorem U195z : (U 195).zero = .v .nilFunc := rfl
@[go_sem] theorem U196k : (U 196).k = .other := rfl
@[go_sem] theorem U196s : (U 196).sz = 1 := rfl
@[go_sem] theorem U196b : (U 196).bytes = 8 := rfl
@[go_sem] theorem U196z : (U 196).zero = .v .nilFunc := rfl
@[go_sem] theorem U197k : (U 197).k = .other := rfl
@[go_sem] theorem U197s : (U 197).sz = 1 := rfl
@[go_sem] theorem U197b : (U 197).bytes = 8 := rfl
@[go_sem] theorem U197z : (U 197).zero = .v .nilFunc := rfl
@[go_sem] theorem U198k : (U 198).k = .other := rfl
@[go_sem] theorem U198s : (U 198).sz = 1 := rfl
@[go_sem] theorem U198b : (U 198).bytes = 8 := rfl
@[go_sem] theorem U198z : (U 198).zero = .v .nilFunc := rfl
@[go_sem] theorem U199k : (U 199).k = .other := rfl
@[go_sem] theorem U199s : (U 199).sz = 1 := rfl
@[go_sem] theorem U199b : (U 199).bytes = 8 := rfl
@[go_sem] theorem U199z : (U 199).zero = .v .nilFunc := rfl
@[go_sem] theorem U200k : (U 200).k = .int .u64 := rfl
@[go_sem] theorem U200s : (U 200).sz = 1 := rfl
@[go_sem] theorem U200b : (U 200).bytes = 8 := rfl
@[go_sem] theorem U200z : (U 200).zero = .v (.int .u64 0) := rfl
@[go_sem] theorem U202k : (U 202).k = .other := rfl
@[go_sem] theorem U202s : (U 202).sz = 1 := rfl
@[go_sem] theorem U202b : (U 202).bytes = 8 := rfl
@[go_sem] theorem U202z : (U 202).zero = .v .nilFunc := rfl
@[go_sem] theorem U204k : (U 204).k = .other := rfl
@[go_sem] theorem U204s : (U 204).sz = 1 := rfl
@[go_sem] theorem U204b : (U 204).bytes = 8 := rfl
@[go_sem] theorem U204z : (U 204).zero = .v .nilFunc := rfl
@[go_sem] theorem U205k : (U 205).k = .other := rfl
@[go_sem] theorem U205s : (U 205).sz = 1 := rfl
@[go_sem] theorem U205b : (U 205).bytes = 8 := rfl
@[go_sem] theorem U205z : (U 205).zero = .v .nilFunc := rfl
@[go_sem] theorem U206k : (U 206).k = .other := rfl
@[go_sem] theorem U206s : (U 206).sz = 1 := rfl
@[go_sem] theorem U206b : (U 206).bytes = 8 := rfl
@[go_sem] theorem U206z : (U 206).zero = .v .nilFunc := rfl
@[go_sem] theorem U207k : (U 207).k = .ptr 209 := rfl
@[go_sem] theorem U207s : (U 207).sz = 1 := rfl
@[go_sem] theorem U207b : (U 207).bytes = 8 := rfl
@[go_sem] theorem U207z : (U 207).zero = .v (.pointer none) := rfl
@[go_sem] theorem U208k : (U 208).k = .strct [(0, 78), (1, 3)] := rfl
@[go_sem] theorem U208s : (U 208).sz = 2 := rfl
@[go_sem] theorem U208b : (U 208).bytes = 32 := rfl
@[go_sem] theorem U208z : (U 208).zero = .agg [.sl [] .full, .v (.int .i64 0)] := rfl
@[go_sem] theorem U209k : (U 209).k = .strct [(0, 78), (1, 3)] := rfl
@[go_sem] theorem U209s : (U 209).sz = 2 := rfl
@[go_sem] theorem U209b : (U 209).bytes = 32 := rfl
@[go_sem] theorem U209z : (U 209).zero = .agg [.sl [] .full, .v (.int .i64 0)] := rfl
@[go_sem] theorem U210k : (U 210).k = .other := rfl
@[go_sem] theorem U210s : (U 210).sz = 1 := rfl
@[go_sem] theorem U210b : (U 210).bytes = 8 := rfl
@[go_sem] theorem U210z : (U 210).zero = .v .nilFunc := rfl
@[go_sem] theorem U211k : (U 211).k = .slice 215 := rfl
@[go_sem] theorem U211s : (U 211).sz = 1 := rfl
@[go_sem] theorem U211b : (U 211).bytes = 24 := rfl
@[go_sem] theorem U211z : (U 211).zero = .sl [] .full := rfl
@[go_sem] theorem U212k : (U 212).k = .other := rfl
@[go_sem] theorem U212s : (U 212).sz = 1 := rfl
@[go_sem] theorem U212b : (U 212).bytes = 8 := rfl
@[go_sem] theorem U212z : (U 212).zero = .v .nilFunc := rfl
@[go_sem] theorem U213k : (U 213).k = .strct [(0, 93), (3, 3), (4, 38)] := rfl
@[go_sem] theorem U213s : (U 213).sz = 7 := rfl
@[go_sem] theorem U213b : (U 213).bytes = 72 := rfl
@[go_sem] theorem U213z : (U 213).zero = .agg [.v (.int .i64 0), .s [], .v (.bool false), .v (.int .i64 0), .v (.int .i64 0), .v (.int .i64 0), .s []] := rfl
@[go_sem] theorem U213e : (U 213).eq = some (2, [.int .i64, .str, .bool, .int .i64, .int .i64, .int .i64, .str]) := rfl
@[go_sem] theorem U214k : (U 214).k = .strct [(0, 93), (3, 3), (4, 38)] := rfl
@[go_sem] theorem U214s : (U 214).sz = 7 := rfl
@[go_sem] theorem U214b : (U 214).bytes = 72 := rfl
@[go_sem] theorem U214z : (U 214).zero = .agg [.v (.int .i64 0), .s [], .v (.bool false), .v (.int .i64 0), .v (.int .i64 0), .v (.int .i64 0), .s []] := rfl
@[go_sem] theorem U214e : (U 214).eq = some (2, [.int .i64, .str, .bool, .int .i64, .int .i64, .int .i64, .str]) := rfl
@[go_sem] theorem U215k : (U 215).k = .slice 214 := rfl
@[go_sem] theorem U215s : (U 215).sz = 1 := rfl
@[go_sem] theorem U215b : (U 215).bytes = 24 := rfl
@[go_sem] theorem U215z : (U 215).zero = .sl [] .full := rfl
@[go_sem] theorem U216k : (U 216).k = .other := rfl
@[go_sem] theorem U216s : (U 216).sz = 1 := rfl
@[go_sem] theorem U216b : (U 216).bytes = 8 := rfl
@[go_sem] theorem U216z : (U 216).zero = .v .nilFunc := rfl
@[go_sem] theorem U217k : (U 217).k = .other := rfl
@[go_sem] theorem U217s : (U 217).sz = 1 := rfl
@[go_sem] theorem U217b : (U 217).bytes = 8 := rfl
@[go_sem] theorem U217z : (U 217).zero = .v .nilFunc := rfl
@[go_sem] theorem U218k : (U 218).k = .other := rfl
@[go_sem] theorem U218s : (U 218).sz = 1 := rfl
@[go_sem] theorem U218b : (U 218).bytes = 8 := rfl
@[go_sem] theorem U218z : (U 218).zero = .v .nilFunc := rfl
@[go_sem] theorem U219k : (U 219).k = .other := rfl
@[go_sem] theorem U219s : (U 219).sz = 1 := rfl
@[go_sem] theorem U219b : (U 219).bytes = 8 := rfl
@[go_sem] theorem U219z : (U 219).zero = .v .nilFunc := rfl
@[go_sem] theorem U221k : (U 221).k = .other := rfl
@[go_sem] theorem U221s : (U 221).sz = 1 := rfl
@[go_sem] theorem U221b : (U 221).bytes = 8 := rfl
@[go_sem] theorem U221z : (U 221).zero = .v .nilFunc := rfl
@[go_sem] theorem U223k : (U 223).k = .other := rfl
@[go_sem] theorem U223s : (U 223).sz = 1 := rfl
@[go_sem] theorem U223b : (U 223).bytes = 8 := rfl
@[go_sem] theorem U223z : (U 223).zero = .v .nilFunc := rfl
@[go_sem] theorem U224k : (U 224).k = .other := rfl
@[go_sem] theorem U224s : (U 224).sz = 1 := rfl
@[go_sem] theorem U224b : (U 224).bytes = 8 := rfl
@[go_sem] theorem U224z : (U 224).zero = .v .nilFunc := rfl
@[go_sem] theorem U225k : (U 225).k = .other := rfl
@[go_sem] theorem U225s : (U 225).sz = 1 := rfl
@[go_sem] theorem U225b : (U 225).bytes = 8 := rfl
@[go_sem] theorem U225z : (U 225).zero = .v .nilFunc := rfl
@[go_sem] theorem U226k : (U 226).k = .other := rfl
@[go_sem] theorem U226s : (U 226).sz = 1 := rfl
@[go_sem] theorem U226b : (U 226).bytes = 8 := rfl
@[go_sem] theorem U226z : (U 226).zero = .v .nilFunc := rfl
@[go_sem] theorem U227k : (U 227).k = .other := rfl
@[go_sem] theorem U227s : (U 227).sz = 1 := rfl
@[go_sem] theorem U227b : (U 227).bytes = 8 := rfl
@[go_sem] theorem U227z : (U 227).zero = .v .nilFunc := rfl
@[go_sem] theorem U228k : (U 228).k = .other := rfl
@[go_sem] theorem U228s : (U 228).sz = 1 := rfl
@[go_sem] theorem U228b : (U 228).bytes = 8 := rfl
@[go_sem] theorem U228z : (U 228).zero = .v .nilFunc := rfl
@[go_sem] theorem U229k : (U 229).k = .other := rfl
@[go_sem] theorem U229s : (U 229).sz = 1 := rfl
@[go_sem] theorem U229b : (U 229).bytes = 8 := rfl
@[go_sem] theorem U229z : (U 229).zero = .v .nilFunc := rfl
@[go_sem] theorem U230k : (U 230).k = .other := rfl
@[go_sem] theorem U230s : (U 230).sz = 1 := rfl
@[go_sem] theorem U230b : (U 230).bytes = 8 := rfl
@[go_sem] theorem U230z : (U 230).zero = .v .nilFunc := rfl
@[go_sem] theorem U232k : (U 232).k = .other := rfl
@[go_sem] theorem U232s : (U 232).sz = 1 := rfl
@[go_sem] theorem U232b : (U 232).bytes = 8 := rfl
@[go_sem] theorem U232z : (U 232).zero = .v .nilFunc := rfl
@[go_sem] theorem U233k : (U 233).k = .int .u64 := rfl
@[go_sem] theorem U233s : (U 233).sz = 1 := rfl
@[go_sem] theorem U233b : (U 233).bytes = 8 := rfl
@[go_sem] theorem U233z : (U 233).zero = .v (.int .u64 0) := rfl
@[go_sem] theorem U234k : (U 234).k = .other := rfl
@[go_sem] theorem U234s : (U 234).sz = 1 := rfl
@[go_sem] theorem U234b : (U 234).bytes = 8 := rfl
@[go_sem] theorem U234z : (U 234).zero = .v .nilFunc := rfl
@[go_sem] theorem U235k : (U 235).k = .other := rfl
@[go_sem] theorem U235s : (U 235).sz = 1 := rfl
@[go_sem] theorem U235b : (U 235).bytes = 8 := rfl
@[go_sem] theorem U235z : (U 235).zero = .v .nilFunc := rfl
@[go_sem] theorem U237k : (U 237).k = .other := rfl
@[go_sem] theorem U237s : (U 237).sz = 1 := rfl
@[go_sem] theorem U237b : (U 237).bytes = 8 := rfl
@[go_sem] theorem U237z : (U 237).zero = .v .nilFunc := rfl
@[go_sem] theorem U238k : (U 238).k = .other := rfl
@[go_sem] theorem U238s : (U 238).sz = 1 := rfl
@[go_sem] theorem U238b : (U 238).bytes = 8 := rfl
@[go_sem] theorem U238z : (U 238).zero = .v .nilFunc := rfl
@[go_sem] theorem U239k : (U 239).k = .other := rfl
@[go_sem] theorem U239s : (U 239).sz = 1 := rfl
@[go_sem] theorem U239b : (U 239).bytes = 8 := rfl
@[go_sem] theorem U239z : (U 239).zero = .v .nilFunc := rfl
@[go_sem] theorem U240k : (U 240).k = .other := rfl
@[go_sem] theorem U240s : (U 240).sz = 1 := rfl
@[go_sem] theorem U240b : (U 240).bytes = 8 := rfl
@[go_sem] theorem U240z : (U 240).zero = .v .nilFunc := rfl
@[go_sem] theorem U241k : (U 241).k = .strct [] := rfl
@[go_sem] theorem U241s : (U 241).sz = 0 := rfl
@[go_sem] theorem U243k : (U 243).k = .other := rfl
@[go_sem] theorem U243s : (U 243).sz = 1 := rfl
@[go_sem] theorem U243b : (U 243).bytes = 8 := rfl
@[go_sem] theorem U243z : (U 243).zero = .v .nilFunc := rfl
@[go_sem] theorem U244k : (U 244).k = .slice 4 := rfl
@[go_sem] theorem U244s : (U 244).sz = 1 := rfl
@[go_sem] theorem U244b : (U 244).bytes = 24 := rfl
@[go_sem] theorem U244z : (U 244).zero = .sl [] .full := rfl
@[go_sem] theorem U246k : (U 246).k = .other := rfl
@[go_sem] theorem U246s : (U 246).sz = 1 := rfl
@[go_sem] theorem U246b : (U 246).bytes = 8 := rfl
@[go_sem] theorem U246z : (U 246).zero = .v .nilFunc := rfl
@[go_sem] theorem U247k : (U 247).k = .other := rfl
@[go_sem] theorem U247s : (U 247).sz = 1 := rfl
@[go_sem] theorem U247b : (U 247).bytes = 8 := rfl
@[go_sem] theorem U247z : (U 247).zero = .v .nilFunc := rfl
@[go_sem] theorem U248k : (U 248).k = .iface := rfl
@[go_sem] theorem U248s : (U 248).sz = 1 := rfl
@[go_sem] theorem U248b : (U 248).bytes = 16 := rfl
@[go_sem] theorem U248z : (U 248).zero = .v .nilIface := rfl
@[go_sem] theorem U249k : (U 249).k = .iface := rfl
@[go_sem] theorem U249s : (U 249).sz = 1 := rfl
@[go_sem] theorem U249b : (U 249).bytes = 16 := rfl
@[go_sem] theorem U249z : (U 249).zero = .v .nilIface := rfl
@[go_sem] theorem U251k : (U 251).k = .other := rfl
@[go_sem] theorem U251s : (U 251).sz = 1 := rfl
@[go_sem] theorem U251b : (U 251).bytes = 8 := rfl
@[go_sem] theorem U251z : (U 251).zero = .v .nilFunc := rfl
@[go_sem] theorem U252k : (U 252).k = .other := rfl
@[go_sem] theorem U252s : (U 252).sz = 1 := rfl
@[go_sem] theorem U252b : (U 252).bytes = 8 := rfl
@[go_sem] theorem U252z : (U 252).zero = .v .nilFunc := rfl
@[go_sem] theorem U253k : (U 253).k = .other := rfl
@[go_sem] theorem U253s : (U 253).sz = 1 := rfl
@[go_sem] theorem U253b : (U 253).bytes = 8 := rfl
@[go_sem] theorem U253z : (U 253).zero = .v .nilFunc := rfl
@[go_sem] theorem U254k : (U 254).k = .other := rfl
@[go_sem] theorem U254s : (U 254).sz = 1 := rfl
@[go_sem] theorem U254b : (U 254).bytes = 8 := rfl
@[go_sem] theorem U254z : (U 254).zero = .v .nilFunc := rfl
@[go_sem] theorem U255k : (U 255).k = .other := rfl
@[go_sem] theorem U255s : (U 255).sz = 1 := rfl
@[go_sem] theorem U255b : (U 255).bytes = 8 := rfl
@[go_sem] theorem U255z : (U 255).zero = .v .nilFunc := rfl
@[go_sem] theorem U256k : (U 256).k = .other := rfl
@[go_sem] theorem U256s : (U 256).sz = 1 := rfl
@[go_sem] theorem U256b : (U 256).bytes = 8 := rfl
@[go_sem] theorem U256z : (U 256).zero = .v .nilFunc := rfl
@[go_sem] theorem U257k : (U 257).k = .other := rfl
@[go_sem] theorem U257s : (U 257).sz = 1 := rfl
@[go_sem] theorem U257b : (U 257).bytes = 8 := rfl
@[go_sem] theorem U257z : (U 257).zero = .v .nilFunc := rfl
@[go_sem] theorem U258k : (U 258).k = .other := rfl
@[go_sem] theorem U258s : (U 258).sz = 1 := rfl
@[go_sem] theorem U258b : (U 258).bytes = 8 := rfl
@[go_sem] theorem U258z : (U 258).zero = .v .nilFunc := rfl
@[go_sem] theorem U259k : (U 259).k = .other := rfl
@[go_sem] theorem U259s : (U 259).sz = 1 := rfl
@[go_sem] theorem U259b : (U 259).bytes = 8 := rfl
@[go_sem] theorem U259z : (U 259).zero = .v .nilFunc := rfl
@[go_sem] theorem U260k : (U 260).k = .other := rfl
@[go_sem] theorem U260s : (U 260).sz = 1 := rfl
@[go_sem] theorem U260b : (U 260).bytes = 8 := rfl
@[go_sem] theorem U260z : (U 260).zero = .v .nilFunc := rfl
@[go_sem] theorem U261k : (U 261).k = .other := rfl
@[go_sem] theorem U261s : (U 261).sz = 1 := rfl
@[go_sem] theorem U261b : (U 261).bytes = 8 := rfl
@[go_sem] theorem U261z : (U 261).zero = .v .nilFunc := rfl
@[go_sem] theorem U262k : (U 262).k = .other := rfl
@[go_sem] theorem U262s : (U 262).sz = 1 := rfl
@[go_sem] theorem U262b : (U 262).bytes = 8 := rfl
@[go_sem] theorem U262z : (U 262).zero = .v .nilFunc := rfl
@[go_sem] theorem U263k : (U 263).k = .other := rfl
@[go_sem] theorem U263s : (U 263).sz = 1 := rfl
@[go_sem] theorem U263b : (U 263).bytes = 8 := rfl
@[go_sem] theorem U263z : (U 263).zero = .v .nilFunc := rfl
@[go_sem] theorem U264k : (U 264).k = .other := rfl
@[go_sem] theorem U264s : (U 264).sz = 1 := rfl
@[go_sem] theorem U264b : (U 264).bytes = 8 := rfl
@[go_sem] theorem U264z : (U 264).zero = .v .nilFunc := rfl
@[go_sem] theorem U265k : (U 265).k = .int .i64 := rfl
@[go_sem] theorem U265s : (U 265).sz = 1 := rfl
@[go_sem] theorem U265b : (U 265).bytes = 8 := rfl
@[go_sem] theorem U265z : (U 265).zero = .v (.int .i64 0) := rfl
@[go_sem] theorem U267k : (U 267).k = .other := rfl
@[go_sem] theorem U267s : (U 267).sz = 1 := rfl
@[go_sem] theorem U267b : (U 267).bytes = 8 := rfl
@[go_sem] theorem U267z : (U 267).zero = .v .nilFunc := rfl
@[go_sem] theorem U268k : (U 268).k = .ptr 276 := rfl
@[go_sem] theorem U268s : (U 268).sz = 1 := rfl
@[go_sem] theorem U268b : (U 268).bytes = 8 := rfl
@[go_sem] theorem U268z : (U 268).zero = .v (.pointer none) := rfl
@[go_sem] theorem U269k : (U 269).k = .other := rfl
@[go_sem] theorem U269s : (U 269).sz = 1 := rfl
@[go_sem] theorem U269b : (U 269).bytes = 8 := rfl
@[go_sem] theorem U269z : (U 269).zero = .v .nilFunc := rfl
@[go_sem] theorem U270k : (U 270).k = .other := rfl
@[go_sem] theorem U270s : (U 270).sz = 1 := rfl
@[go_sem] theorem U270b : (U 270).bytes = 8 := rfl
@[go_sem] theorem U270z : (U 270).zero = .v .nilFunc := rfl
@[go_sem] theorem U272k : (U 272).k = .other := rfl
@[go_sem] theorem U272s : (U 272).sz = 1 := rfl
@[go_sem] theorem U272b : (U 272).bytes = 8 := rfl
@[go_sem] theorem U272z : (U 272).zero = .v .nilFunc := rfl
@[go_sem] theorem U274k : (U 274).k = .other := rfl
@[go_sem] theorem U274s : (U 274).sz = 1 := rfl
@[go_sem] theorem U274b : (U 274).bytes = 8 := rfl
@[go_sem] theorem U274z : (U 274).zero = .v .nilFunc := rfl
@[go_sem] theorem U275k : (U 275).k = .strct [(0, 9), (1, 9), (2, 249)] := rfl
@[go_sem] theorem U275s : (U 275).sz = 3 := rfl
@[go_sem] theorem U275b : (U 275).bytes = 48 := rfl
@[go_sem] theorem U275z : (U 275).zero = .agg [.s [], .s [], .v .nilIface] := rfl
@[go_sem] theorem U276k : (U 276).k = .strct [(0, 9), (1, 9), (2, 249)] := rfl
@[go_sem] theorem U276s : (U 276).sz = 3 := rfl
@[go_sem] theorem U276b : (U 276).bytes = 48 := rfl
@[go_sem] theorem U276z : (U 276).zero = .agg [.s [], .s [], .v .nilIface] := rfl
@[go_sem] theorem U277k : (U 277).k = .other := rfl
@[go_sem] theorem U277s : (U 277).sz = 1 := rfl
@[go_sem] theorem U277b : (U 277).bytes = 8 := rfl
@[go_sem] theorem U277z : (U 277).zero = .v .nilFunc := rfl
@[go_sem] theorem U278k : (U 278).k = .other := rfl
@[go_sem] theorem U278s : (U 278).sz = 1 := rfl
@[go_sem] theorem U278b : (U 278).bytes = 8 := rfl
@[go_sem] theorem U278z : (U 278).zero = .v .nilFunc := rfl
@[go_sem] theorem U279k : (U 279).k = .other := rfl
@[go_sem] theorem U279s : (U 279).sz = 1 := rfl
@[go_sem] theorem U279b : (U 279).bytes = 8 := rfl
@[go_sem] theorem U279z : (U 279).zero = .v .nilFunc := rfl
@[go_sem] theorem U280k : (U 280).k = .ptr 5 := rfl
@[go_sem] theorem U280s : (U 280).sz = 1 := rfl
@[go_sem] theorem U280b : (U 280).bytes = 8 := rfl
@[go_sem] theorem U280z : (U 280).zero = .v (.pointer none) := rfl
@[go_sem] theorem U281k : (U 281).k = .ptr 283 := rfl
@[go_sem] theorem U281s : (U 281).sz = 1 := rfl
@[go_sem] theorem U281b : (U 281).bytes = 8 := rfl
@[go_sem] theorem U281z : (U 281).zero = .v (.pointer none) := rfl
@[go_sem] theorem U282k : (U 282).k = .strct [(0, 9)] := rfl
@[go_sem] theorem U282s : (U 282).sz = 1 := rfl
@[go_sem] theorem U282b : (U 282).bytes = 16 := rfl
@[go_sem] theorem U282z : (U 282).zero = .agg [.s []] := rfl
@[go_sem] theorem U282e : (U 282).eq = some (1, [.str]) := rfl
@[go_sem] theorem U283k : (U 283).k = .strct [(0, 9)] := rfl
@[go_sem] theorem U283s : (U 283).sz = 1 := rfl
@[go_sem] theorem U283b : (U 283).bytes = 16 := rfl
@[go_sem] theorem U283z : (U 283).zero = .agg [.s []] := rfl
@[go_sem] theorem U283e : (U 283).eq = some (1, [.str]) := rfl
@[go_sem] theorem U284k : (U 284).k = .other := rfl
@[go_sem] theorem U284s : (U 284).sz = 1 := rfl
@[go_sem] theorem U284b : (U 284).bytes = 8 := rfl
@[go_sem] theorem U284z : (U 284).zero = .v .nilFunc := rfl
@[go_sem] theorem U285k : (U 285).k = .arr 24 5 := rfl
@[go_sem] theorem U285s : (U 285).sz = 24 := rfl
@[go_sem] theorem U285b : (U 285).bytes = 24 := rfl
@[go_sem] theorem U285z : (U 285).zero = .agg [.v (.int .u8 0), .v (.int .u8 0), .v (.int .u8 0), .v (.int .u8 0), .v (.int .u8 0), .v (.int .u8 0), .v (.int .u8 0), .v (.int .u8 0), .v (.int .u8 0), .v (.int .u8 0), .v (.int .u8 0), .v (.int .u8 0), .v (.int .u8 0), .v (.int .u8 0), .v (.int .u8 0), .v (.int .u8 0), .v (.int .u8 0), .v (.int .u8 0), .v (.int .u8 0), .v (.int .u8 0), .v (.int .u8 0), .v (.int .u8 0), .v (.int .u8 0), .v (.int .u8 0)] := rfl
@[go_sem] theorem U285e : (U 285).eq = some (1, [.int .u8, .int .u8, .int .u8, .int .u8, .int .u8, .int .u8, .int .u8, .int .u8, .int .u8, .int .u8, .int .u8, .int .u8, .int .u8, .int .u8, .int .u8, .int .u8, .int .u8, .int .u8, .int .u8, .int .u8, .int .u8, .int .u8, .int .u8, .int .u8]) := rfl
@[go_sem] theorem U286k : (U 286).k = .other := rfl
@[go_sem] theorem U286s : (U 286).sz = 1 := rfl
@[go_sem] theorem U286b : (U 286).bytes = 8 := rfl
@[go_sem] theorem U286z : (U 286).zero = .v .nilFunc := rfl
@[go_sem] theorem U287k : (U 287).k = .other := rfl
@[go_sem] theorem U287s : (U 287).sz = 1 := rfl
@[go_sem] theorem U287b : (U 287).bytes = 8 := rfl
@[go_sem] theorem U287z : (U 287).zero = .v .nilFunc := rfl
@[go_sem] theorem U289k : (U 289).k = .other := rfl
@[go_sem] theorem U289s : (U 289).sz = 1 := rfl
@[go_sem] theorem U289b : (U 289).bytes = 8 := rfl
@[go_sem] theorem U289z : (U 289).zero = .v .nilFunc := rfl
@[go_sem] theorem U290k : (U 290).k = .other := rfl
@[go_sem] theorem U290s : (U 290).sz = 1 := rfl
@[go_sem] theorem U290b : (U 290).bytes = 8 := rfl
@[go_sem] theorem U290z : (U 290).zero = .v .nilFunc := rfl
@[go_sem] theorem U291k : (U 291).k = .other := rfl
@[go_sem] theorem U291s : (U 291).sz = 1 := rfl
@[go_sem] theorem U291b : (U 291).bytes = 8 := rfl
@[go_sem] theorem U291z : (U 291).zero = .v .nilFunc := rfl
@[go_sem] theorem U292k : (U 292).k = .arr 20 200 := rfl
@[go_sem] theorem U292s : (U 292).sz = 20 := rfl
@[go_sem] theorem U292b : (U 292).bytes = 160 := rfl
@[go_sem] theorem U292z : (U 292).zero = .agg [.v (.int .u64 0), .v (.int .u64 0), .v (.int .u64 0), .v (.int .u64 0), .v (.int .u64 0), .v (.int .u64 0), .v (.int .u64 0), .v (.int .u64 0), .v (.int .u64 0), .v (.int .u64 0), .v (.int .u64 0), .v (.int .u64 0), .v (.int .u64 0), .v (.int .u64 0), .v (.int .u64 0), .v (.int .u64 0), .v (.int .u64 0), .v (.int .u64 0), .v (.int .u64 0), .v (.int .u64 0)] := rfl
@[go_sem] theorem U292e : (U 292).eq = some (1, [.int .u64, .int .u64, .int .u64, .int .u64, .int .u64, .int .u64, .int .u64, .int .u64, .int .u64, .int .u64, .int .u64, .int .u64, .int .u64, .int .u64, .int .u64, .int .u64, .int .u64, .int .u64, .int .u64, .int .u64]) := rfl
@[go_sem] theorem U293k : (U 293).k = .int .u32 := rfl
@[go_sem] theorem U293s : (U 293).sz = 1 := rfl
@[go_sem] theorem U293b : (U 293).bytes = 4 := rfl
@[go_sem] theorem U293z : (U 293).zero = .v (.int .u32 0) := rfl
@[go_sem] theorem U294k : (U 294).k = .arr 65 5 := rfl
@[go_sem] theorem U294s : (U 294).sz = 65 := rfl
@[go_sem] theorem U294b : (U 294).bytes = 65 := rfl
@[go_sem] theorem U294z : (U 294).zero = .agg [.v (.int .u8 0), .v (.int .u8 0), .v (.int .u8 0), .v (.int .u8 0), .v (.int .u8 0), .v (.int .u8 0), .v (.int .u8 0), .v (.int .u8 0), .v (.int .u8 0), .v (.int .u8 0), .v (.int .u8 0), .v (.int .u8 0), .v (.int .u8 0), .v (.int .u8 0), .v (.int .u8 0), .v (.int .u8 0), .v (.int .u8 0), .v (.int .u8 0), .v (.int .u8 0), .v (.int .u8 0), .v (.int .u8 0), .v (.int .u8 0), .v (.int .u8 0), .v (.int .u8 0), .v (.int .u8 0), .v (.int .u8 0), .v (.int .u8 0), .v (.int .u8 0), .v (.int .u8 0), .v (.int .u8 0), .v (.int .u8 0), .v (.int .u8 0), .v (.int .u8 0), .v (.int .u8 0), .v (.int .u8 0), .v (.int .u8 0), .v (.int .u8 0), .v (.int .u8 0), .v (.int .u8 0), .v (.int .u8 0), .v (.int .u8 0), .v (.int .u8 0), .v (.int .u8 0), .v (.int .u8 0), .v (.int .u8 0), .v (.int .u8 0), .v (.int .u8 0), .v (.int .u8 0), .v (.int .u8 0), .v (.int .u8 0), .v (.int .u8 0), .v (.int .u8 0), .v (.int .u8 0), .v (.int .u8 0), .v (.int .u8 0), .v (.int .u8 0), .v (.int .u8 0), .v (.int .u8 0), .v (.int .u8 0), .v (.int .u8 0), .v (.int .u8 0), .v (.int .u8 0), .v (.int .u8 0), .v (.int .u8 0), .v (.int .u8 0)] := rfl
@[go_sem] theorem U295k : (U 295).k = .other := rfl
@[go_sem] theorem U295s : (U 295).sz = 1 := rfl
@[go_sem] theorem U295b : (U 295).bytes = 8 := rfl
@[go_sem] theorem U295z : (U 295).zero = .v .nilFunc := rfl
@[go_sem] theorem U296k : (U 296).k = .other := rfl
@[go_sem] theorem U296s : (U 296).sz = 1 := rfl
@[go_sem] theorem U296b : (U 296).bytes = 8 := rfl
@[go_sem] theorem U296z : (U 296).zero = .v .nilFunc := rfl
@[go_sem] theorem U297k : (U 297).k = .arr 32 5 := rfl
@[go_sem] theorem U297s : (U 297).sz = 32 := rfl
@[go_sem] theorem U297b : (U 297).bytes = 32 := rfl
@[go_sem] theorem U297z : (U 297).zero = .agg [.v (.int .u8 0), .v (.int .u8 0), .v (.int .u8 0), .v (.int .u8 0), .v (.int .u8 0), .v (.int .u8 0), .v (.int .u8 0), .v (.int .u8 0), .v (.int .u8 0), .v (.int .u8 0), .v (.int .u8 0), .v (.int .u8 0), .v (.int .u8 0), .v (.int .u8 0), .v (.int .u8 0), .v (.int .u8 0), .v (.int .u8 0), .v (.int .u8 0), .v (.int .u8 0), .v (.int .u8 0), .v (.int .u8 0), .v (.int .u8 0), .v (.int .u8 0), .v (.int .u8 0), .v (.int .u8 0), .v (.int .u8 0), .v (.int .u8 0), .v (.int .u8 0), .v (.int .u8 0), .v (.int .u8 0), .v (.int .u8 0), .v (.int .u8 0)] := rfl
@[go_sem] theorem U297e : (U 297).eq = some (1, [.int .u8, .int .u8, .int .u8, .int .u8, .int .u8, .int .u8, .int .u8, .int .u8, .int .u8, .int .u8, .int .u8, .int .u8, .int .u8, .int .u8, .int .u8, .int .u8, .int .u8, .int .u8, .int .u8, .int .u8, .int .u8, .int .u8, .int .u8, .int .u8, .int .u8, .int .u8, .int .u8, .int .u8, .int .u8, .int .u8, .int .u8, .int .u8]) := rfl
@[go_sem] theorem U298k : (U 298).k = .arr 64 5 := rfl
@[go_sem] theorem U298s : (U 298).sz = 64 := rfl
@[go_sem] theorem U298b : (U 298).bytes = 64 := rfl
@[go_sem] theorem U298z : (U 298).zero = .agg [.v (.int .u8 0), .v (.int .u8 0), .v (.int .u8 0), .v (.int .u8 0), .v (.int .u8 0), .v (.int .u8 0), .v (.int .u8 0), .v (.int .u8 0), .v (.int .u8 0), .v (.int .u8 0), .v (.int .u8 0), .v (.int .u8 0), .v (.int .u8 0), .v (.int .u8 0), .v (.int .u8 0), .v (.int .u8 0), .v (.int .u8 0), .v (.int .u8 0), .v (.int .u8 0), .v (.int .u8 0), .v (.int .u8 0), .v (.int .u8 0), .v (.int .u8 0), .v (.int .u8 0), .v (.int .u8 0), .v (.int .u8 0), .v (.int .u8 0), .v (.int .u8 0), .v (.int .u8 0), .v (.int .u8 0), .v (.int .u8 0), .v (.int .u8 0), .v (.int .u8 0), .v (.int .u8 0), .v (.int .u8 0), .v (.int .u8 0), .v (.int .u8 0), .v (.int .u8 0), .v (.int .u8 0), .v (.int .u8 0), .v (.int .u8 0), .v (.int .u8 0), .v (.int .u8 0), .v (.int .u8 0), .v (.int .u8 0), .v (.int .u8 0), .v (.int .u8 0), .v (.int .u8 0), .v (.int .u8 0), .v (.int .u8 0), .v (.int .u8 0), .v (.int .u8 0), .v (.int .u8 0), .v (.int .u8 0), .v (.int .u8 0), .v (.int .u8 0), .v (.int .u8 0), .v (.int .u8 0), .v (.int .u8 0), .v (.int .u8 0), .v (.int .u8 0), .v (.int .u8 0), .v (.int .u8 0), .v (.int .u8 0)] := rfl
@[go_sem] theorem U299k : (U 299).k = .strct [(0, 17), (1, 17), (2, 17), (3, 9)] := rfl
@[go_sem] theorem U299s : (U 299).sz = 4 := rfl
@[go_sem] theorem U299b : (U 299).bytes = 40 := rfl
@[go_sem] theorem U299z : (U 299).zero = .agg [.v (.pointer none), .v (.pointer none), .v (.pointer none), .s []] := rfl
@[go_sem] theorem U300k : (U 300).k = .strct [(0, 17), (1, 17), (2, 17), (3, 9)] := rfl
@[go_sem] theorem U300s : (U 300).sz = 4 := rfl
@[go_sem] theorem U300b : (U 300).bytes = 40 := rfl
@[go_sem] theorem U300z : (U 300).zero = .agg [.v (.pointer none), .v (.pointer none), .v (.pointer none), .s []] := rfl
@[go_sem] theorem U301k : (U 301).k = .arr 0 16 := rfl
@[go_sem] theorem U301s : (U 301).sz = 0 := rfl
@[go_sem] theorem U304k : (U 304).k = .other := rfl
@[go_sem] theorem U304s : (U 304).sz = 1 := rfl
@[go_sem] theorem U304b : (U 304).bytes = 8 := rfl
@[go_sem] theorem U304z : (U 304).zero = .v .nilFunc := rfl
@[go_sem] theorem U305k : (U 305).k = .int .u8 := rfl
@[go_sem] theorem U305s : (U 305).sz = 1 := rfl
@[go_sem] theorem U305b : (U 305).bytes = 1 := rfl
@[go_sem] theorem U305z : (U 305).zero = .v (.int .u8 0) := rfl
@[go_sem] theorem U306k : (U 306).k = .int .u8 := rfl
@[go_sem] theorem U306s : (U 306).sz = 1 := rfl
@[go_sem] theorem U306b : (U 306).bytes = 1 := rfl
@[go_sem] theorem U306z : (U 306).zero = .v (.int .u8 0) := rfl
@[go_sem] theorem U307k : (U 307).k = .other := rfl
@[go_sem] theorem U307s : (U 307).sz = 1 := rfl
@[go_sem] theorem U307b : (U 307).bytes = 8 := rfl
@[go_sem] theorem U307z : (U 307).zero = .v .nilFunc := rfl
@[go_sem] theorem U308k : (U 308).k = .int .i32 := rfl
@[go_sem] theorem U308s : (U 308).sz = 1 := rfl
@[go_sem] theorem U308b : (U 308).bytes = 4 := rfl
@[go_sem] theorem U308z : (U 308).zero = .v (.int .i32 0) := rfl
@[go_sem] theorem U309k : (U 309).k = .int .i32 := rfl
@[go_sem] theorem U309s : (U 309).sz = 1 := rfl
@[go_sem] theorem U309b : (U 309).bytes = 4 := rfl
@[go_sem] theorem U309z : (U 309).zero = .v (.int .i32 0) := rfl
@[go_sem] theorem U310k : (U 310).k = .strct [(0, 12), (1, 12), (2, 293), (3, 305), (4, 5), (5, 5), (6, 306), (7, 307), (8, 280), (9, 308), (10, 309)] := rfl
@[go_sem] theorem U310s : (U 310).sz = 11 := rfl
@[go_sem] theorem U310b : (U 310).bytes = 48 := rfl
@[go_sem] theorem U310z : (U 310).zero = .agg [.v (.int .u64 0), .v (.int .u64 0), .v (.int .u32 0), .v (.int .u8 0), .v (.int .u8 0), .v (.int .u8 0), .v (.int .u8 0), .v .nilFunc, .v (.pointer none), .v (.int .i32 0), .v (.int .i32 0)] := rfl
@[go_sem] theorem U311k : (U 311).k = .strct [(0, 12), (1, 12), (2, 293), (3, 305), (4, 5), (5, 5), (6, 306), (7, 307), (8, 280), (9, 308), (10, 309)] := rfl
@[go_sem] theorem U311s : (U 311).sz = 11 := rfl
@[go_sem] theorem U311b : (U 311).bytes = 48 := rfl
@[go_sem] theorem U311z : (U 311).zero = .agg [.v (.int .u64 0), .v (.int .u64 0), .v (.int .u32 0), .v (.int .u8 0), .v (.int .u8 0), .v (.int .u8 0), .v (.int .u8 0), .v .nilFunc, .v (.pointer none), .v (.int .i32 0), .v (.int .i32 0)] := rfl
@[go_sem] theorem U312k : (U 312).k = .other := rfl
@[go_sem] theorem U312s : (U 312).sz = 1 := rfl
@[go_sem] theorem U312b : (U 312).bytes = 8 := rfl
@[go_sem] theorem U312z : (U 312).zero = .v (.pointer none) := rfl
set_option maxRecDepth 100000 in
theorem hU : ∀ t, AgreeT Tryz.prog U t := agree_all 313 (by kernel_rfl) fun t ht => by
  unfold U
  rw [List.getD_eq_getElem?_getD, List.getElem?_eq_none (show tyRows.length ≤ t from ht)]
  rfl
theorem hm : Tryz.prog.follows .mixedOrders = true := by kernel_rfl
end Go.Proofs.YtnhelgnmadbpgaaGreatDoor

set_option linter.unusedSimpArgs false
set_option linter.unusedVariables false
namespace Go.Proofs.YtnhelgnmadbpgaaGreatDoor
open Go Go.Ab Go.Bf
theorem name_ok (l : Txt) (h : Heap) : FnOK Tryz.prog 57 [.s l] h fun r h' => r = .v (.bool (nameOK l)) ∧ h' = h := by
  refine FnOK.body hU hm Tryz.func57 rfl (by kernel_rfl) 49 rfl [.tmp 2] rfl (Nat.le_of_ble_eq_true rfl) (fun hwf => ?_)
  simp -implicitDefEqProofs only [go_sem]
  refine .intro (fun m ρ h' => h' = h ∧ ∃ i : Nat, i ≤ l.length ∧ m = l.length - i ∧ chsOK (l.take i) = true ∧ lk ρ 0 = some (.s l) ∧ lk ρ 8 = some (.v (.int .i64 l.length)) ∧ lk ρ 9 = some (.v (.int .i64 i))) l.length ?_ ?_
  · refine ⟨rfl, 0, by omega, rfl, rfl, ?_, ?_, ?_⟩ <;> simp -implicitDefEqProofs only [go_sem]
  · rintro m ρ h' ⟨rfl, i, hi, rfl, hc, r0, r8, r9⟩
    simp -implicitDefEqProofs only [go_sem, r0, r8, r9]
    refine .intro (fun e => ?_) (fun e => ?_)
    · have hlt : i < l.length := Int.ofNat_lt.1 (of_decide_eq_true e)
      have w1 : IntKind.i64.wrap ((i : Int) + 1) = ((i + 1 : Nat) : Int) := by rw [wr64 _ (by have := hwf (.s l) (by simp); simp only [wfA, wf1, lim] at this; omega)]; omega
      have w0 : IntKind.i64.wrap (0 + 1) = 1 := rfl
      have hb := chsOK_bad l i hlt
      have hg := chsOK_succ l i hlt
      rw [hc] at hg
      have hcl := chCases l[i]
      have h255 := l[i].toNat_lt
      simp -implicitDefEqProofs only [go_sem, r0, r8, r9]
      refine .at i hlt ?_
      generalize hcc : l[i] = c at hb hg hcl h255 ⊢
      by_cases hi0 : i = 0
      · subst hi0
        rcases hcl with ⟨a1, a2, a3, a4, a5⟩ | ⟨a1, a2, a3, a4, a5⟩ | ⟨a1, a2, a3, a4, a5⟩ | ⟨a1, a2, a3, a4, a5⟩ | ⟨a1, a2, a3, a4, a5⟩ | ⟨a1, a2, a3, a4, a5⟩
        · simp -implicitDefEqProofs only [go_sem, r0, r8, r9, a1, a2, a3, a4, a5, w1, w0]
          refine ⟨_, ?_, rfl, 0 + 1, by omega, rfl, by simp [hg, chOK, ltr, a1, a2], ?_, ?_, ?_⟩
          · omega
          all_goals simp -implicitDefEqProofs only [go_sem, r0, r8, r9, w1, w0]
        all_goals
          simp -implicitDefEqProofs only [go_sem, r0, r8, r9, a1, a2, a3, a4, a5, w1]
          exact .same (.refl _) ⟨by simp [nameOK, hb (by simp [chOK, ltr, a1, a2]), oneOr], rfl⟩
      · have hin : ((i : Int) == 0) = false := by simp; omega
        rcases hcl with ⟨a1, a2, a3, a4, a5⟩ | ⟨a1, a2, a3, a4, a5⟩ | ⟨a1, a2, a3, a4, a5⟩ | ⟨a1, a2, a3, a4, a5⟩ | ⟨a1, a2, a3, a4, a5⟩ | ⟨a1, a2, a3, a4, a5⟩
        · simp -implicitDefEqProofs only [go_sem, r0, r8, r9, a1, a2, a3, a4, a5, w1, hin]
          refine ⟨_, ?_, rfl, i + 1, by omega, rfl, by simp [hg, chOK, ltr, dgt, a1, a2, a3, a4, a5, hi0], ?_, ?_, ?_⟩
          · omega
          all_goals simp -implicitDefEqProofs only [go_sem, r0, r8, r9, w1]
        · simp -implicitDefEqProofs only [go_sem, r0, r8, r9, a1, a2, a3, a4, a5, w1, hin]
          refine ⟨_, ?_, rfl, i + 1, by omega, rfl, by simp [hg, chOK, ltr, dgt, a1, a2, a3, a4, a5, hi0], ?_, ?_, ?_⟩
          · omega
          all_goals simp -implicitDefEqProofs only [go_sem, r0, r8, r9, w1]
        · simp -implicitDefEqProofs only [go_sem, r0, r8, r9, a1, a2, a3, a4, a5, w1, hin]
          refine ⟨_, ?_, rfl, i + 1, by omega, rfl, by simp [hg, chOK, ltr, dgt, a1, a2, a3, a4, a5, hi0], ?_, ?_, ?_⟩
          · omega
          all_goals simp -implicitDefEqProofs only [go_sem, r0, r8, r9, w1]
        · simp -implicitDefEqProofs only [go_sem, r0, r8, r9, a1, a2, a3, a4, a5, w1, hin]
          exact .same (.refl _) ⟨by simp [nameOK, hb (by simp [chOK, ltr, dgt, a1, a2, a3, a4, a5]), oneOr], rfl⟩
        · simp -implicitDefEqProofs only [go_sem, r0, r8, r9, a1, a2, a3, a4, a5, w1, hin]
          exact .same (.refl _) ⟨by simp [nameOK, hb (by simp [chOK, ltr, dgt, a1, a2, a3, a4, a5]), oneOr], rfl⟩
        · simp -implicitDefEqProofs only [go_sem, r0, r8, r9, a1, a2, a3, a4, a5, w1, hin]
          exact .same (.refl _) ⟨by simp [nameOK, hb (by simp [chOK, ltr, dgt, a1, a2, a3, a4, a5]), oneOr], rfl⟩
    · have hge : i = l.length := by have := of_decide_eq_false e; omega
      subst hge
      rw [List.take_length] at hc
      by_cases h0 : l = []
      · subst h0
        have b0 : ((([] : Txt) == []) = true) := rfl
        simp -implicitDefEqProofs only [go_sem, r0, r8, r9, b0]
        exact .same (.refl _) ⟨rfl, rfl⟩
      · have b0 : (l == []) = false := by simpa using h0
        have hp : 1 ≤ l.length := List.length_pos_iff.2 h0
        simp -implicitDefEqProofs only [go_sem, r0, r8, r9, b0]
        exact .same (.refl _) ⟨by simp [nameOK, hc, oneOr, hp]; omega, rfl⟩
end Go.Proofs.YtnhelgnmadbpgaaGreatDoor

set_option linter.unusedSimpArgs false
set_option linter.unusedVariables false
namespace Go.Proofs.YtnhelgnmadbpgaaGreatDoor
open Go Go.Ab Go.Bf
theorem attr_ok (a : AttrD) (h : Heap) : FnOK Tryz.prog 202 [attrA a] h fun r h' => r = .v (.bool (attrOK a)) ∧ h' = h := by
  refine FnOK.body hU hm Tryz.func202 rfl (by kernel_rfl) 16 rfl [.tmp 2] rfl (Nat.le_of_ble_eq_true rfl) (fun hwf => ?_)
  simp -implicitDefEqProofs only [go_sem, attrA]
  intro id hid
  cases d1 : decide (1 ≤ a.cat)
  · simp -implicitDefEqProofs only [go_sem, d1]
    exact .mk _ (.refl _) (.upd_new hid) ⟨by simp [attrOK, d1, oneOr], rfl⟩
  cases d2 : decide (a.cat ≤ 4)
  · simp -implicitDefEqProofs only [go_sem, d1, d2]
    exact .mk _ (.refl _) (.upd_new hid) ⟨by simp [attrOK, d1, d2, oneOr], rfl⟩
  simp -implicitDefEqProofs only [go_sem, d1, d2]
  refine (name_ok _ _).pthen ?_
  simp -implicitDefEqProofs only [go_sem, d1, d2]
  exact .mk _ (.refl _) (.upd_new hid) ⟨by simp [attrOK, d1, d2, oneOr], rfl⟩
theorem valRight_ok (v : ValD) (h : Heap) : FnOK Tryz.prog 42 [valA v] h fun r h' => r = .v (.bool (valOK v)) ∧ h' = h := by
  refine FnOK.body hU hm Tryz.func42 rfl (by kernel_rfl) 61 rfl [.tmp 2] rfl (Nat.le_of_ble_eq_true rfl) (fun hwf => ?_)
  simp -implicitDefEqProofs only [go_sem, valA]
  intro id hid
  cases k1 : (v.kind == 1)
  case true =>
    have e1 : v.kind = 1 := by simpa using k1
    cases d1 : (v.n == 0) <;> cases d2 : (v.n == 1)
    · simp -implicitDefEqProofs only [go_sem, k1, d1, d2]
      exact .mk _ (.refl _) (.upd_new hid) ⟨by simp [valOK, e1, d1, d2, oneOr], rfl⟩
    all_goals
      simp -implicitDefEqProofs only [go_sem, k1, d1, d2]
      exact .mk _ (.refl _) (.upd_new hid) ⟨by simp [valOK, e1, d1, d2, oneOr], rfl⟩
  have n1 : v.kind ≠ 1 := by simpa using k1
  cases k2 : (v.kind == 2)
  case true =>
    have e1 : v.kind = 2 := by simpa using k2
    simp -implicitDefEqProofs only [go_sem, k1, k2]
    exact .mk _ (.refl _) (.upd_new hid) ⟨by simp [valOK, e1, oneOr], rfl⟩
  have n2 : v.kind ≠ 2 := by simpa using k2
  cases k3 : (v.kind == 3)
  case true =>
    have e1 : v.kind = 3 := by simpa using k3
    cases d1 : (v.n == 0)
    all_goals
      simp -implicitDefEqProofs only [go_sem, k1, k2, k3, d1]
      exact .mk _ (.refl _) (.upd_new hid) ⟨by simp [valOK, e1, d1, oneOr] <;> omega, rfl⟩
  have n3 : v.kind ≠ 3 := by simpa using k3
  cases k4 : (v.kind == 4)
  case true =>
    have e1 : v.kind = 4 := by simpa using k4
    cases d1 : decide (0 ≤ v.n) <;> cases d2 : decide (v.n ≤ 1099511627776)
    all_goals
      simp -implicitDefEqProofs only [go_sem, k1, k2, k3, k4, d1, d2]
      exact .mk _ (.refl _) (.upd_new hid) ⟨by simp [valOK, e1, d1, d2, oneOr], rfl⟩
  have n4 : v.kind ≠ 4 := by simpa using k4
  cases k5 : (v.kind == 5)
  case true =>
    have e1 : v.kind = 5 := by simpa using k5
    cases d1 : (v.n == 0)
    · simp -implicitDefEqProofs only [go_sem, k1, k2, k3, k4, k5, d1]
      exact .mk _ (.refl _) (.upd_new hid) ⟨by simp [valOK, e1, d1, oneOr], rfl⟩
    · simp -implicitDefEqProofs only [go_sem, k1, k2, k3, k4, k5, d1]
      refine (name_ok _ _).pthen ?_
      simp -implicitDefEqProofs only [go_sem, d1]
      exact .mk _ (.refl _) (.upd_new hid) ⟨by simp [valOK, e1, d1, oneOr], rfl⟩
  have n5 : v.kind ≠ 5 := by simpa using k5
  simp -implicitDefEqProofs only [go_sem, k1, k2, k3, k4, k5]
  exact .mk _ (.refl _) (.upd_new hid) ⟨by simp [valOK, n1, n2, n3, n4, n5, oneOr], rfl⟩
theorem match_ok (m : MatchD) (h : Heap) : FnOK Tryz.prog 201 [matchA m] h fun r h' => r = .v (.bool (matchOK m)) ∧ h' = h := by
  refine FnOK.body hU hm Tryz.func201 rfl (by kernel_rfl) 21 rfl [.tmp 2] rfl (Nat.le_of_ble_eq_true rfl) (fun hwf => ?_)
  simp -implicitDefEqProofs only [go_sem, matchA]
  intro id hid
  simp -implicitDefEqProofs only [go_sem]
  refine (attr_ok m.attr _).pthen ?_
  cases d0 : attrOK m.attr
  · simp -implicitDefEqProofs only [go_sem, d0]
    exact .mk _ (.refl _) (.upd_new hid) ⟨by simp [matchOK, d0, oneOr], rfl⟩
  cases d1 : decide (1 ≤ m.op)
  · simp -implicitDefEqProofs only [go_sem, d0, d1]
    exact .mk _ (.refl _) (.upd_new hid) ⟨by simp [matchOK, d0, d1, oneOr], rfl⟩
  cases d2 : decide (m.op ≤ 3)
  · simp -implicitDefEqProofs only [go_sem, d0, d1, d2]
    exact .mk _ (.refl _) (.upd_new hid) ⟨by simp [matchOK, d0, d1, d2, oneOr], rfl⟩
  simp -implicitDefEqProofs only [go_sem, d0, d1, d2]
  refine (valRight_ok m.val _).pthen ?_
  simp -implicitDefEqProofs only [go_sem, d0, d1, d2]
  exact .mk _ (.refl _) (.upd_new hid) ⟨by simp [matchOK, d0, d1, d2, oneOr], rfl⟩
theorem many_ok (n : Nat) (h : Heap) : FnOK Tryz.prog 191 [.v (.int .i64 n)] h fun r h' => r = .v (.int .i64 (manyE n)) ∧ h' = h := by
  refine FnOK.body hU hm Tryz.func191 rfl (by kernel_rfl) 9 rfl [.tmp 2] rfl (Nat.le_of_ble_eq_true rfl) (fun hwf => ?_)
  cases d1 : ((n : Int) == 0)
  case true =>
    have e1 : n = 0 := by simpa using d1
    simp -implicitDefEqProofs only [go_sem, d1]
    exact .same (.refl _) ⟨by simp [manyE, e1, oneOr], rfl⟩
  have e1 : n ≠ 0 := by simpa using d1
  cases d2 : decide (8 < (n : Int))
  · have e2 : ¬ n > 8 := by have := of_decide_eq_false d2; omega
    simp -implicitDefEqProofs only [go_sem, d1, d2]
    exact .same (.refl _) ⟨by simp [manyE, e1, e2, oneOr], rfl⟩
  · have e2 : n > 8 := by have := of_decide_eq_true d2; omega
    simp -implicitDefEqProofs only [go_sem, d1, d2]
    exact .same (.refl _) ⟨by simp [manyE, e1, e2, oneOr], rfl⟩
theorem manyE_le {n : Nat} (h : manyE n = 0) : 1 ≤ n ∧ n ≤ 8 := by
  unfold manyE at h
  split at h
  · cases h
  · split at h
    · cases h
    · omega
theorem allOf_ok (l : List MatchD) (h : Heap) : FnOK Tryz.prog 192 [allA l] h fun r h' => r = .v (.int .i64 (allE l)) ∧ h' = h := by
  refine FnOK.body hU hm Tryz.func192 rfl (by kernel_rfl) 22 rfl [.tmp 2] rfl (Nat.le_of_ble_eq_true rfl) (fun hwf => ?_)
  simp -implicitDefEqProofs only [go_sem, allA, List.length_map]
  refine (many_ok _ _).pthen ?_
  cases d1 : (manyE l.length != 0)
  case true =>
    have e1 : manyE l.length ≠ 0 := by simpa using d1
    simp -implicitDefEqProofs only [go_sem, d1]
    exact .same (.refl _) ⟨by simp [allE, e1, oneOr], rfl⟩
  have e1 : manyE l.length = 0 := by simpa using d1
  have hlen := manyE_le e1
  simp -implicitDefEqProofs only [go_sem, d1, List.length_map]
  refine .intro (fun m ρ h' => Ab.Sub h h' ∧ ∃ i : Nat, i ≤ l.length ∧ m = l.length - i ∧ (l.take i).all matchOK = true ∧ lk ρ 12 = some (allA l) ∧ lk ρ 13 = some (.v (.int .i64 l.length)) ∧ lk ρ 14 = some (.v (.int .i64 i))) l.length ?_ ?_
  · refine ⟨.refl _, 0, by omega, rfl, rfl, ?_, ?_, ?_⟩ <;> simp -implicitDefEqProofs only [go_sem, allA]
  · rintro m ρ h' ⟨hs, i, hi, rfl, hc, r12, r13, r14⟩
    simp -implicitDefEqProofs only [go_sem, r12, r13, r14]
    refine .intro (fun e => ?_) (fun e => ?_)
    · have hlt : i < l.length := Int.ofNat_lt.1 (of_decide_eq_true e)
      have w1 : IntKind.i64.wrap ((i : Int) + 1) = ((i + 1 : Nat) : Int) := by rw [wr64 _ (by omega)]; omega
      simp -implicitDefEqProofs only [go_sem, r12, r13, r14, allA]
      refine .at i (by simpa using hlt) (by rw [List.getElem_map]; rfl) ?_
      simp -implicitDefEqProofs only [go_sem, r12, r13, r14, List.getElem_map, matchA]
      intro id hid
      simp -implicitDefEqProofs only [go_sem, r12, r13, r14]
      refine (match_ok l[i] _).pthen ?_
      cases d2 : matchOK l[i]
      · simp -implicitDefEqProofs only [go_sem, r12, r13, r14, d2]
        refine .mk _ (.refl _) (hs.new hid _) ⟨?_, rfl⟩
        have : l.all matchOK = false := List.all_eq_false.2 ⟨_, List.getElem_mem hlt, by simp [d2]⟩
        simp [allE, e1, this, oneOr]
      · simp -implicitDefEqProofs only [go_sem, r12, r13, r14, d2, w1]
        refine ⟨_, ?_, hs.new hid _, i + 1, by omega, rfl, ?_, ?_, ?_, ?_⟩
        · omega
        · rw [List.take_succ_eq_append_getElem hlt, List.all_append, hc]; simp [d2]
        all_goals simp -implicitDefEqProofs only [go_sem, r12, r13, r14, w1, allA]
    · have hge : i = l.length := by have := of_decide_eq_false e; omega
      subst hge
      rw [List.take_length] at hc
      simp -implicitDefEqProofs only [go_sem, r12, r13, r14]
      exact .mk _ (.refl _) hs ⟨by simp [allE, e1, hc, oneOr], rfl⟩
end Go.Proofs.YtnhelgnmadbpgaaGreatDoor

set_option linter.unusedSimpArgs false
set_option linter.unusedVariables false
namespace Go.Proofs.YtnhelgnmadbpgaaGreatDoor
open Go Go.Ab Go.Bf
theorem upd_none {h : Heap} {i j : Nat} {b : Blk} (e : upd h i (some b) j = none) : h j = none := by rwa [upd_other _ _ (ne_upd e)] at e
theorem val_ne {v : ValD} (h : (v.kind == (0 : Int) && (v.n == (0 : Int) && v.s == ([] : Txt))) = false) : ¬v.kind = 0 ∨ ¬v.n = 0 ∨ ¬v.s = [] := by
  by_cases a1 : v.kind = 0
  · by_cases a2 : v.n = 0
    · by_cases a3 : v.s = []
      · simp [a1, a2, a3] at h
      · exact .inr (.inr a3)
    · exact .inr (.inl a2)
  · exact .inl a1
theorem val_eq {v : ValD} (h : (v.kind == (0 : Int) && (v.n == (0 : Int) && v.s == ([] : Txt))) = true) : v.kind = 0 ∧ v.n = 0 ∧ v.s = [] := by
  simpa [Bool.and_eq_true] using h
theorem onCase_ok (k : Int) (h : Heap) : FnOK Tryz.prog 105 [.v (.int .i64 k)] h fun r h' => r = .v (.bool (onCase k)) ∧ h' = h := by
  refine FnOK.body hU hm Tryz.func105 rfl (by kernel_rfl) 9 rfl [.tmp 2] rfl (Nat.le_of_ble_eq_true rfl) (fun hwf => ?_)
  cases d1 : decide (1 ≤ k)
  · simp -implicitDefEqProofs only [go_sem, d1]
    exact .same (.refl _) ⟨by simp only [onCase, d1, oneOr, Bool.false_and], rfl⟩
  · simp -implicitDefEqProofs only [go_sem, d1]
    exact .same (.refl _) ⟨by simp only [onCase, d1, oneOr, Bool.true_and], rfl⟩
theorem empty_ok (s : Txt) (h : Heap) : FnOK Tryz.prog 59 [.s s] h fun r h' => r = .v (.bool (emptyD s)) ∧ h' = h := by
  refine FnOK.body hU hm Tryz.func59 rfl (by kernel_rfl) 9 rfl [.tmp 2] rfl (Nat.le_of_ble_eq_true rfl) (fun hwf => ?_)
  cases d1 : (s == ([] : Txt))
  · simp -implicitDefEqProofs only [go_sem, d1]
    refine (name_ok s h).pthen ?_
    simp -implicitDefEqProofs only [go_sem]
    exact .same (.refl _) ⟨by simp only [emptyD, d1, oneOr, Bool.false_or], rfl⟩
  · simp -implicitDefEqProofs only [go_sem, d1]
    exact .same (.refl _) ⟨by simp only [emptyD, d1, oneOr, Bool.true_or], rfl⟩
theorem follows_ok (a b : Txt) (h : Heap) : FnOK Tryz.prog 37 [.s a, .s b] h fun r h' => r = .v (.bool (followsD a b)) ∧ h' = h := by
  refine FnOK.body hU hm Tryz.func37 rfl (by kernel_rfl) 22 rfl [.tmp 4] rfl (Nat.le_of_ble_eq_true rfl) (fun hwf => ?_)
  cases d1 : (a == openT) <;> cases d2 : (a == workT) <;> cases d3 : (a == doneT) <;> cases d4 : (b == workT) <;> simp only [openT, workT, doneT] at d1 d2 d3 d4 <;> simp -implicitDefEqProofs only [go_sem, d1, d2, d3, d4] <;>
    exact .same (.refl _) ⟨by simp only [followsD, d1, d2, d3, d4, oneOr, openT, workT, doneT, closedT, if_true, Bool.false_eq_true, if_false, Bool.true_or, Bool.false_or], rfl⟩
theorem action_ok (k : Int) (hk : i64 k) (h : Heap) : FnOK Tryz.prog 38 [.v (.int .i64 k)] h fun r h' => r = .s (actionD k) ∧ h' = h := by
  refine FnOK.body hU hm Tryz.func38 rfl (by kernel_rfl) 18 rfl [.tmp 2] rfl (Nat.le_of_ble_eq_true rfl) (fun hwf => ?_)
  simp -implicitDefEqProofs only [go_sem]
  cases d1 : decide (k < 1)
  case true =>
    simp -implicitDefEqProofs only [go_sem, d1]
    exact .same (.refl _) ⟨by simp only [actionD, of_decide_eq_true d1, true_or, if_true, oneOr], rfl⟩
  cases d2 : decide ((7 : Int) < k)
  case true =>
    simp -implicitDefEqProofs only [go_sem, d1, d2]
    exact .same (.refl _) ⟨by simp only [actionD, show k > 7 from of_decide_eq_true d2, or_true, if_true, oneOr], rfl⟩
  have h1 := of_decide_eq_false d1
  have h2 := of_decide_eq_false d2
  obtain ⟨j, rfl⟩ : ∃ j : Nat, k = (j : Int) + 1 := ⟨(k - 1).toNat, by omega⟩
  have hj : j < 7 := by omega
  have w1 : IntKind.i64.wrap ((j : Int) + 1 - 1) = (j : Int) := by rw [wr64 _ (by omega)]; omega
  simp -implicitDefEqProofs only [go_sem, d1, d2, w1]
  refine .at j (by simpa using hj) (by rcases j with _ | _ | _ | _ | _ | _ | _ | j <;> first | rfl | omega) ?_
  rcases j with _ | _ | _ | _ | _ | _ | _ | j
  all_goals first | omega | skip
  all_goals
    simp -implicitDefEqProofs only [go_sem, List.getElem_cons_zero, List.getElem_cons_succ]
    exact .same (.refl _) ⟨by rfl, rfl⟩
theorem reason_ok (o : OpD) (h : Heap) : FnOK Tryz.prog 58 [opA o] h fun r h' => r = .v (.bool (reasonD o)) ∧ h' = h := by
  refine FnOK.body hU hm Tryz.func58 rfl (by kernel_rfl) 23 rfl [.tmp 2] rfl (Nat.le_of_ble_eq_true rfl) (fun hwf => ?_)
  simp -implicitDefEqProofs only [go_sem, opA, opC]
  intro id hid
  cases d1 : o.glass
  · simp -implicitDefEqProofs only [go_sem, d1]
    exact .mk _ (.refl _) (.upd_new hid) ⟨by simp [reasonD, d1, oneOr], rfl⟩
  simp -implicitDefEqProofs only [go_sem, d1]
  refine (onCase_ok _ _).pthen ?_
  cases d2 : onCase o.kind
  · simp -implicitDefEqProofs only [go_sem, d2]
    exact .mk _ (.refl _) (.upd_new hid) ⟨by simp [reasonD, d1, d2, oneOr], rfl⟩
  cases d3 : (o.reason == ([] : Txt))
  · simp -implicitDefEqProofs only [go_sem, d2, d3]
    exact .mk _ (.refl _) (.upd_new hid) ⟨by
      simp only [reasonD, d1, d2, d3, oneOr, if_true, Bool.not_false, Bool.true_and]
      congr 2
      simp only [Bool.and_true, decide_eq_decide]
      omega, rfl⟩
  · simp -implicitDefEqProofs only [go_sem, d2, d3]
    exact .mk _ (.refl _) (.upd_new hid) ⟨by simp [reasonD, d1, d2, d3, oneOr], rfl⟩
theorem bare_ok (o : OpD) (h : Heap) : FnOK Tryz.prog 106 [opA o] h fun r h' => r = opA (bareD o) ∧ h' = h := by
  refine FnOK.body hU hm Tryz.func106 rfl (by kernel_rfl) 7 rfl [.cell 2 40] rfl (Nat.le_of_ble_eq_true rfl) (fun hwf => ?_)
  simp -implicitDefEqProofs only [go_sem, opA, opC]
  intro i1 h1
  simp -implicitDefEqProofs only [go_sem]
  intro i2 h2
  have hne := ne_upd h2
  simp -implicitDefEqProofs only [go_sem, upd_ne, hne, hne.symm]
  have n2 := upd_none h2
  exact .mk _ (.refl _) (((((Sub.refl h).put h1 _).put n2 _).put h1 _).put n2 _) ⟨rfl, rfl⟩
set_option maxRecDepth 100000 in
theorem takes_ok (o : OpD) (h : Heap) : FnOK Tryz.prog 60 [opA o] h fun r h' => r = .v (.bool (takesD o)) ∧ h' = h := by
  have hb := fun hh => bare_ok o hh
  simp only [bareD, opA, opC] at hb
  refine FnOK.body hU hm Tryz.func60 rfl (by kernel_rfl) 111 rfl [.tmp 2] rfl (Nat.le_of_ble_eq_true rfl) (fun hwf => ?_)
  simp -implicitDefEqProofs only [go_sem, opA, opC]
  intro i1 h1
  simp -implicitDefEqProofs only [go_sem]
  refine (hb _).pthen ?_
  simp -implicitDefEqProofs only [go_sem]
  intro i3 h3
  have n31 := ne_upd h3
  have n3 := upd_none h3
  simp -implicitDefEqProofs only [go_sem, upd_ne, n31, n31.symm]
  intro i4 h4
  have n43 := ne_upd h4
  have h4' := upd_none h4
  have n41 := ne_upd h4'
  have n4 := upd_none h4'
  have bnd : o.kind ≠ 1 → o.kind ≠ 2 → o.kind ≠ 3 → o.kind ≠ 4 → o.kind ≠ 5 → o.kind ≠ 6 → o.kind ≠ 7 → o.kind ≠ 8 → (decide (1 ≤ o.kind) && decide (o.kind ≤ 8)) = false := by
    intro a1 a2 a3 a4 a5 a6 a7 a8
    simp only [Bool.and_eq_false_iff, decide_eq_false_iff_not]
    omega
  by_cases k1 : o.kind = 1
  · simp -implicitDefEqProofs only [go_sem, upd_ne, n31, n31.symm, n43, n43.symm, n41, n41.symm, k1, decide_true, Int.reduceBEq, Int.reduceBNe]
    cases dcase : (o.case == ([] : Txt))
    · simp -implicitDefEqProofs only [go_sem, upd_ne, n31, n31.symm, n43, n43.symm, n41, n41.symm, k1, decide_true, Int.reduceBEq, Int.reduceBNe, dcase]
      exact .mk _ (.refl _) (by repeat' first | exact .refl _ | (refine Sub.put ?_ (by assumption) _)) ⟨by simp [takesD, okD, onlyD, bareD, eqOp, eqV, zeroVal, oneOr, k1, decide_true, dcase, beq_self_eq_true, Bool.and_true, Bool.true_and, Bool.false_and, Bool.and_false, Bool.not_true, Bool.not_false], rfl⟩
    · simp -implicitDefEqProofs only [go_sem, upd_ne, n31, n31.symm, n43, n43.symm, n41, n41.symm, k1, decide_true, Int.reduceBEq, Int.reduceBNe, dcase]
      exact .mk _ (.refl _) (by repeat' first | exact .refl _ | (refine Sub.put ?_ (by assumption) _)) ⟨by simp [takesD, okD, onlyD, bareD, eqOp, eqV, zeroVal, oneOr, k1, decide_true, dcase, beq_self_eq_true, Bool.and_true, Bool.true_and, Bool.false_and, Bool.and_false, Bool.not_true, Bool.not_false], rfl⟩
  by_cases k2 : o.kind = 2
  · simp -implicitDefEqProofs only [go_sem, upd_ne, n31, n31.symm, n43, n43.symm, n41, n41.symm, k2, decide_true, Int.reduceBEq, Int.reduceBNe]
    refine .calls (hm1 i1 _) [0, 1, 2, 3, 4, 5, 6, 7] (.hm1 (by rw [upd_other _ _ n41.symm, upd_other _ _ n31.symm, upd_same])) (by kernel_rfl) rfl ?_
    simp -implicitDefEqProofs only [go_sem, upd_ne, n31, n31.symm, n43, n43.symm, n41, n41.symm, k2, decide_true, Int.reduceBEq, Int.reduceBNe]
    refine ⟨(.hm1 (by simp only [upd_ne, n41, n41.symm, n31, n31.symm, n43, n43.symm, upd_same', not_false_eq_true])), (.hm1 (by simp only [upd_ne, n41, n41.symm, n31, n31.symm, n43, n43.symm, upd_same', not_false_eq_true])), ?_⟩
    cases dcase : (o.case == ([] : Txt))
    · simp -implicitDefEqProofs only [go_sem, upd_ne, n31, n31.symm, n43, n43.symm, n41, n41.symm, k2, decide_true, Int.reduceBEq, Int.reduceBNe, dcase]
      cases dfield : (o.field == ([] : Txt))
      · simp -implicitDefEqProofs only [go_sem, upd_ne, n31, n31.symm, n43, n43.symm, n41, n41.symm, k2, decide_true, Int.reduceBEq, Int.reduceBNe, dcase, dfield]
        exact .mk _ (.refl _) (by repeat' first | exact .refl _ | (refine Sub.put ?_ (by assumption) _)) ⟨by simp [takesD, okD, onlyD, bareD, eqOp, eqV, zeroVal, oneOr, k2, decide_true, dcase, dfield, beq_self_eq_true, Bool.and_true, Bool.true_and, Bool.false_and, Bool.and_false, Bool.not_true, Bool.not_false], rfl⟩
      · simp -implicitDefEqProofs only [go_sem, upd_ne, n31, n31.symm, n43, n43.symm, n41, n41.symm, k2, decide_true, Int.reduceBEq, Int.reduceBNe, dcase, dfield]
        exact .mk _ (.refl _) (by repeat' first | exact .refl _ | (refine Sub.put ?_ (by assumption) _)) ⟨by simp [takesD, okD, onlyD, bareD, eqOp, eqV, zeroVal, oneOr, k2, decide_true, dcase, dfield, beq_self_eq_true, Bool.and_true, Bool.true_and, Bool.false_and, Bool.and_false, Bool.not_true, Bool.not_false], rfl⟩
    · simp -implicitDefEqProofs only [go_sem, upd_ne, n31, n31.symm, n43, n43.symm, n41, n41.symm, k2, decide_true, Int.reduceBEq, Int.reduceBNe, dcase]
      exact .mk _ (.refl _) (by repeat' first | exact .refl _ | (refine Sub.put ?_ (by assumption) _)) ⟨by simp [takesD, okD, onlyD, bareD, eqOp, eqV, zeroVal, oneOr, k2, decide_true, dcase, beq_self_eq_true, Bool.and_true, Bool.true_and, Bool.false_and, Bool.and_false, Bool.not_true, Bool.not_false], rfl⟩
  by_cases k6 : o.kind = 6
  · simp -implicitDefEqProofs only [go_sem, upd_ne, n31, n31.symm, n43, n43.symm, n41, n41.symm, k6, decide_true, Int.reduceBEq, Int.reduceBNe]
    refine .calls (hm1 i1 _) [0, 1, 2, 3, 4, 5, 6, 7] (.hm1 (by rw [upd_other _ _ n41.symm, upd_other _ _ n31.symm, upd_same])) (by kernel_rfl) rfl ?_
    simp -implicitDefEqProofs only [go_sem, upd_ne, n31, n31.symm, n43, n43.symm, n41, n41.symm, k6, decide_true, Int.reduceBEq, Int.reduceBNe]
    refine ⟨(.hm1 (by simp only [upd_ne, n41, n41.symm, n31, n31.symm, n43, n43.symm, upd_same', not_false_eq_true])), (.hm1 (by simp only [upd_ne, n41, n41.symm, n31, n31.symm, n43, n43.symm, upd_same', not_false_eq_true])), ?_⟩
    cases dcase : (o.case == ([] : Txt))
    · simp -implicitDefEqProofs only [go_sem, upd_ne, n31, n31.symm, n43, n43.symm, n41, n41.symm, k6, decide_true, Int.reduceBEq, Int.reduceBNe, dcase]
      cases dfield : (o.field == ([] : Txt))
      · simp -implicitDefEqProofs only [go_sem, upd_ne, n31, n31.symm, n43, n43.symm, n41, n41.symm, k6, decide_true, Int.reduceBEq, Int.reduceBNe, dcase, dfield]
        exact .mk _ (.refl _) (by repeat' first | exact .refl _ | (refine Sub.put ?_ (by assumption) _)) ⟨by simp [takesD, okD, onlyD, bareD, eqOp, eqV, zeroVal, oneOr, k6, decide_true, dcase, dfield, beq_self_eq_true, Bool.and_true, Bool.true_and, Bool.false_and, Bool.and_false, Bool.not_true, Bool.not_false], rfl⟩
      · simp -implicitDefEqProofs only [go_sem, upd_ne, n31, n31.symm, n43, n43.symm, n41, n41.symm, k6, decide_true, Int.reduceBEq, Int.reduceBNe, dcase, dfield]
        exact .mk _ (.refl _) (by repeat' first | exact .refl _ | (refine Sub.put ?_ (by assumption) _)) ⟨by simp [takesD, okD, onlyD, bareD, eqOp, eqV, zeroVal, oneOr, k6, decide_true, dcase, dfield, beq_self_eq_true, Bool.and_true, Bool.true_and, Bool.false_and, Bool.and_false, Bool.not_true, Bool.not_false], rfl⟩
    · simp -implicitDefEqProofs only [go_sem, upd_ne, n31, n31.symm, n43, n43.symm, n41, n41.symm, k6, decide_true, Int.reduceBEq, Int.reduceBNe, dcase]
      exact .mk _ (.refl _) (by repeat' first | exact .refl _ | (refine Sub.put ?_ (by assumption) _)) ⟨by simp [takesD, okD, onlyD, bareD, eqOp, eqV, zeroVal, oneOr, k6, decide_true, dcase, beq_self_eq_true, Bool.and_true, Bool.true_and, Bool.false_and, Bool.and_false, Bool.not_true, Bool.not_false], rfl⟩
  by_cases k3 : o.kind = 3
  · simp -implicitDefEqProofs only [go_sem, upd_ne, n31, n31.symm, n43, n43.symm, n41, n41.symm, k3, decide_true, Int.reduceBEq, Int.reduceBNe]
    refine .calls (hm1 i1 _) [0, 1, 2, 3, 4, 5, 6, 7, 8, 9, 10, 11] (.hm1 (by rw [upd_other _ _ n41.symm, upd_other _ _ n31.symm, upd_same])) (by kernel_rfl) rfl ?_
    simp -implicitDefEqProofs only [go_sem, upd_ne, n31, n31.symm, n43, n43.symm, n41, n41.symm, k3, decide_true, Int.reduceBEq, Int.reduceBNe]
    refine ⟨(.hm1 (by simp only [upd_ne, n41, n41.symm, n31, n31.symm, n43, n43.symm, upd_same', not_false_eq_true])), (.hm1 (by simp only [upd_ne, n41, n41.symm, n31, n31.symm, n43, n43.symm, upd_same', not_false_eq_true])), (.hm1 (by simp only [upd_ne, n41, n41.symm, n31, n31.symm, n43, n43.symm, upd_same', not_false_eq_true])), ?_⟩
    cases dcase : (o.case == ([] : Txt))
    · simp -implicitDefEqProofs only [go_sem, upd_ne, n31, n31.symm, n43, n43.symm, n41, n41.symm, k3, decide_true, Int.reduceBEq, Int.reduceBNe, dcase]
      cases dfield : (o.field == ([] : Txt))
      · simp -implicitDefEqProofs only [go_sem, upd_ne, n31, n31.symm, n43, n43.symm, n41, n41.symm, k3, decide_true, Int.reduceBEq, Int.reduceBNe, dcase, dfield]
        cases dval : (o.val.kind == (0 : Int) && (o.val.n == (0 : Int) && o.val.s == ([] : Txt)))
        · simp -implicitDefEqProofs only [go_sem, upd_ne, n31, n31.symm, n43, n43.symm, n41, n41.symm, k3, decide_true, Int.reduceBEq, Int.reduceBNe, dcase, dfield, dval]
          exact .mk _ (.refl _) (by repeat' first | exact .refl _ | (refine Sub.put ?_ (by assumption) _)) ⟨by simp [takesD, okD, onlyD, bareD, eqOp, eqV, zeroVal, oneOr, k3, decide_true, dcase, dfield, dval, beq_self_eq_true, Bool.and_true, Bool.true_and, Bool.false_and, Bool.and_false, Bool.not_true, Bool.not_false]; first | exact fun _ _ _ => val_ne dval | (intro hh; obtain ⟨a, b, c⟩ := val_eq dval; simp [a, b, c] at hh), rfl⟩
        · simp -implicitDefEqProofs only [go_sem, upd_ne, n31, n31.symm, n43, n43.symm, n41, n41.symm, k3, decide_true, Int.reduceBEq, Int.reduceBNe, dcase, dfield, dval]
          exact .mk _ (.refl _) (by repeat' first | exact .refl _ | (refine Sub.put ?_ (by assumption) _)) ⟨by simp [takesD, okD, onlyD, bareD, eqOp, eqV, zeroVal, oneOr, k3, decide_true, dcase, dfield, dval, beq_self_eq_true, Bool.and_true, Bool.true_and, Bool.false_and, Bool.and_false, Bool.not_true, Bool.not_false]; first | exact fun _ _ _ => val_ne dval | (intro hh; obtain ⟨a, b, c⟩ := val_eq dval; simp [a, b, c] at hh), rfl⟩
      · simp -implicitDefEqProofs only [go_sem, upd_ne, n31, n31.symm, n43, n43.symm, n41, n41.symm, k3, decide_true, Int.reduceBEq, Int.reduceBNe, dcase, dfield]
        exact .mk _ (.refl _) (by repeat' first | exact .refl _ | (refine Sub.put ?_ (by assumption) _)) ⟨by simp [takesD, okD, onlyD, bareD, eqOp, eqV, zeroVal, oneOr, k3, decide_true, dcase, dfield, beq_self_eq_true, Bool.and_true, Bool.true_and, Bool.false_and, Bool.and_false, Bool.not_true, Bool.not_false], rfl⟩
    · simp -implicitDefEqProofs only [go_sem, upd_ne, n31, n31.symm, n43, n43.symm, n41, n41.symm, k3, decide_true, Int.reduceBEq, Int.reduceBNe, dcase]
      exact .mk _ (.refl _) (by repeat' first | exact .refl _ | (refine Sub.put ?_ (by assumption) _)) ⟨by simp [takesD, okD, onlyD, bareD, eqOp, eqV, zeroVal, oneOr, k3, decide_true, dcase, beq_self_eq_true, Bool.and_true, Bool.true_and, Bool.false_and, Bool.and_false, Bool.not_true, Bool.not_false], rfl⟩
  by_cases k4 : o.kind = 4
  · simp -implicitDefEqProofs only [go_sem, upd_ne, n31, n31.symm, n43, n43.symm, n41, n41.symm, k4, decide_true, Int.reduceBEq, Int.reduceBNe]
    refine .calls (hm1 i1 _) [0, 1, 2, 3, 4, 5, 6, 7] (.hm1 (by rw [upd_other _ _ n41.symm, upd_other _ _ n31.symm, upd_same])) (by kernel_rfl) rfl ?_
    simp -implicitDefEqProofs only [go_sem, upd_ne, n31, n31.symm, n43, n43.symm, n41, n41.symm, k4, decide_true, Int.reduceBEq, Int.reduceBNe]
    refine ⟨(.hm1 (by simp only [upd_ne, n41, n41.symm, n31, n31.symm, n43, n43.symm, upd_same', not_false_eq_true])), (.hm1 (by simp only [upd_ne, n41, n41.symm, n31, n31.symm, n43, n43.symm, upd_same', not_false_eq_true])), ?_⟩
    cases dcase : (o.case == ([] : Txt))
    · simp -implicitDefEqProofs only [go_sem, upd_ne, n31, n31.symm, n43, n43.symm, n41, n41.symm, k4, decide_true, Int.reduceBEq, Int.reduceBNe, dcase]
      cases dto : (o.to == ([] : Txt))
      · simp -implicitDefEqProofs only [go_sem, upd_ne, n31, n31.symm, n43, n43.symm, n41, n41.symm, k4, decide_true, Int.reduceBEq, Int.reduceBNe, dcase, dto]
        exact .mk _ (.refl _) (by repeat' first | exact .refl _ | (refine Sub.put ?_ (by assumption) _)) ⟨by simp [takesD, okD, onlyD, bareD, eqOp, eqV, zeroVal, oneOr, k4, decide_true, dcase, dto, beq_self_eq_true, Bool.and_true, Bool.true_and, Bool.false_and, Bool.and_false, Bool.not_true, Bool.not_false], rfl⟩
      · simp -implicitDefEqProofs only [go_sem, upd_ne, n31, n31.symm, n43, n43.symm, n41, n41.symm, k4, decide_true, Int.reduceBEq, Int.reduceBNe, dcase, dto]
        exact .mk _ (.refl _) (by repeat' first | exact .refl _ | (refine Sub.put ?_ (by assumption) _)) ⟨by simp [takesD, okD, onlyD, bareD, eqOp, eqV, zeroVal, oneOr, k4, decide_true, dcase, dto, beq_self_eq_true, Bool.and_true, Bool.true_and, Bool.false_and, Bool.and_false, Bool.not_true, Bool.not_false], rfl⟩
    · simp -implicitDefEqProofs only [go_sem, upd_ne, n31, n31.symm, n43, n43.symm, n41, n41.symm, k4, decide_true, Int.reduceBEq, Int.reduceBNe, dcase]
      exact .mk _ (.refl _) (by repeat' first | exact .refl _ | (refine Sub.put ?_ (by assumption) _)) ⟨by simp [takesD, okD, onlyD, bareD, eqOp, eqV, zeroVal, oneOr, k4, decide_true, dcase, beq_self_eq_true, Bool.and_true, Bool.true_and, Bool.false_and, Bool.and_false, Bool.not_true, Bool.not_false], rfl⟩
  by_cases k5 : o.kind = 5
  · simp -implicitDefEqProofs only [go_sem, upd_ne, n31, n31.symm, n43, n43.symm, n41, n41.symm, k5, decide_true, Int.reduceBEq, Int.reduceBNe]
    cases drev0 : decide ((0 : Int) < o.review)
    · simp -implicitDefEqProofs only [go_sem, upd_ne, n31, n31.symm, n43, n43.symm, n41, n41.symm, k5, decide_true, Int.reduceBEq, Int.reduceBNe, drev0]
      exact .mk _ (.refl _) (by repeat' first | exact .refl _ | (refine Sub.put ?_ (by assumption) _)) ⟨by simp [takesD, okD, onlyD, bareD, eqOp, eqV, zeroVal, oneOr, k5, decide_true, drev0, beq_self_eq_true, Bool.and_true, Bool.true_and, Bool.false_and, Bool.and_false, Bool.not_true, Bool.not_false], rfl⟩
    · simp -implicitDefEqProofs only [go_sem, upd_ne, n31, n31.symm, n43, n43.symm, n41, n41.symm, k5, decide_true, Int.reduceBEq, Int.reduceBNe, drev0]
      exact .mk _ (.refl _) (by repeat' first | exact .refl _ | (refine Sub.put ?_ (by assumption) _)) ⟨by simp [takesD, okD, onlyD, bareD, eqOp, eqV, zeroVal, oneOr, k5, decide_true, drev0, beq_self_eq_true, Bool.and_true, Bool.true_and, Bool.false_and, Bool.and_false, Bool.not_true, Bool.not_false], rfl⟩
  by_cases k7 : o.kind = 7
  · simp -implicitDefEqProofs only [go_sem, upd_ne, n31, n31.symm, n43, n43.symm, n41, n41.symm, k7, decide_true, Int.reduceBEq, Int.reduceBNe]
    exact .mk _ (.refl _) (by repeat' first | exact .refl _ | (refine Sub.put ?_ (by assumption) _)) ⟨by simp [takesD, okD, onlyD, bareD, eqOp, eqV, zeroVal, oneOr, k7, decide_true, beq_self_eq_true, Bool.and_true, Bool.true_and, Bool.false_and, Bool.and_false, Bool.not_true, Bool.not_false], rfl⟩
  by_cases k8 : o.kind = 8
  · simp -implicitDefEqProofs only [go_sem, upd_ne, n31, n31.symm, n43, n43.symm, n41, n41.symm, k8, decide_true, Int.reduceBEq, Int.reduceBNe]
    cases drev0 : decide ((0 : Int) < o.review)
    · simp -implicitDefEqProofs only [go_sem, upd_ne, n31, n31.symm, n43, n43.symm, n41, n41.symm, k8, decide_true, Int.reduceBEq, Int.reduceBNe, drev0]
      exact .mk _ (.refl _) (by repeat' first | exact .refl _ | (refine Sub.put ?_ (by assumption) _)) ⟨by simp [takesD, okD, onlyD, bareD, eqOp, eqV, zeroVal, oneOr, k8, decide_true, drev0, beq_self_eq_true, Bool.and_true, Bool.true_and, Bool.false_and, Bool.and_false, Bool.not_true, Bool.not_false], rfl⟩
    · simp -implicitDefEqProofs only [go_sem, upd_ne, n31, n31.symm, n43, n43.symm, n41, n41.symm, k8, decide_true, Int.reduceBEq, Int.reduceBNe, drev0]
      cases drev1 : decide (o.review ≤ (1099511627776 : Int))
      · simp -implicitDefEqProofs only [go_sem, upd_ne, n31, n31.symm, n43, n43.symm, n41, n41.symm, k8, decide_true, Int.reduceBEq, Int.reduceBNe, drev0, drev1]
        exact .mk _ (.refl _) (by repeat' first | exact .refl _ | (refine Sub.put ?_ (by assumption) _)) ⟨by simp [takesD, okD, onlyD, bareD, eqOp, eqV, zeroVal, oneOr, k8, decide_true, drev0, drev1, beq_self_eq_true, Bool.and_true, Bool.true_and, Bool.false_and, Bool.and_false, Bool.not_true, Bool.not_false], rfl⟩
      · simp -implicitDefEqProofs only [go_sem, upd_ne, n31, n31.symm, n43, n43.symm, n41, n41.symm, k8, decide_true, Int.reduceBEq, Int.reduceBNe, drev0, drev1]
        exact .mk _ (.refl _) (by repeat' first | exact .refl _ | (refine Sub.put ?_ (by assumption) _)) ⟨by simp [takesD, okD, onlyD, bareD, eqOp, eqV, zeroVal, oneOr, k8, decide_true, drev0, drev1, beq_self_eq_true, Bool.and_true, Bool.true_and, Bool.false_and, Bool.and_false, Bool.not_true, Bool.not_false], rfl⟩
  simp -implicitDefEqProofs only [go_sem, upd_ne, n31, n31.symm, n43, n43.symm, n41, n41.symm, beq_eq_false_iff_ne.2 k1, beq_eq_false_iff_ne.2 k2, beq_eq_false_iff_ne.2 k6, beq_eq_false_iff_ne.2 k3, beq_eq_false_iff_ne.2 k4, beq_eq_false_iff_ne.2 k5, beq_eq_false_iff_ne.2 k7, beq_eq_false_iff_ne.2 k8]
  exact .mk _ (.refl _) (by repeat' first | exact .refl _ | (refine Sub.put ?_ (by assumption) _)) ⟨by simp only [takesD, bnd k1 k2 k3 k4 k5 k6 k7 k8, Bool.false_and, oneOr], rfl⟩
theorem form_ok (o : OpD) (h : Heap) : FnOK Tryz.prog 21 [opA o] h fun r h' => r = .v (.bool (formD o)) ∧ h' = h := by
  have hr := fun hh => reason_ok o hh
  have ht := fun hh => takes_ok o hh
  have hv := fun hh => valRight_ok o.val hh
  simp only [opA, opC, valA] at hr ht hv
  refine FnOK.body hU hm Tryz.func21 rfl (by kernel_rfl) 48 rfl [.tmp 2] rfl (Nat.le_of_ble_eq_true rfl) (fun hwf => ?_)
  simp -implicitDefEqProofs only [go_sem, opA, opC]
  intro i1 h1
  simp -implicitDefEqProofs only [go_sem]
  refine (name_ok o.subj _).pthen ?_
  cases d1 : nameOK o.subj
  · simp -implicitDefEqProofs only [go_sem, d1]
    exact .mk _ (.refl _) (.upd_new h1) ⟨by simp only [formD, d1, Bool.false_and, oneOr], rfl⟩
  simp -implicitDefEqProofs only [go_sem, d1]
  refine (hr _).pthen ?_
  cases d2 : reasonD o
  · simp -implicitDefEqProofs only [go_sem, d1, d2]
    exact .mk _ (.refl _) (.upd_new h1) ⟨by simp only [formD, d1, d2, Bool.false_and, Bool.true_and, oneOr], rfl⟩
  cases d3 : decide ((4096 : Int) < (o.text.length : Int))
  case true =>
    have e3 : decide (o.text.length ≤ 4096) = false := decide_eq_false (by have := of_decide_eq_true d3; omega)
    simp -implicitDefEqProofs only [go_sem, d1, d2, d3]
    exact .mk _ (.refl _) (.upd_new h1) ⟨by simp only [formD, d1, d2, e3, Bool.false_and, Bool.true_and, oneOr], rfl⟩
  have e3 : decide (o.text.length ≤ 4096) = true := decide_eq_true (by have := of_decide_eq_false d3; omega)
  simp -implicitDefEqProofs only [go_sem, d1, d2, d3]
  refine (empty_ok o.case _).pthen ?_
  cases d4 : emptyD o.case
  · simp -implicitDefEqProofs only [go_sem, d4]
    exact .mk _ (.refl _) (.upd_new h1) ⟨by simp only [formD, d1, d2, e3, d4, Bool.false_and, Bool.true_and, oneOr], rfl⟩
  simp -implicitDefEqProofs only [go_sem, d4]
  refine (empty_ok o.field _).pthen ?_
  cases d5 : emptyD o.field
  · simp -implicitDefEqProofs only [go_sem, d4, d5]
    exact .mk _ (.refl _) (.upd_new h1) ⟨by simp only [formD, d1, d2, e3, d4, d5, Bool.false_and, Bool.true_and, oneOr], rfl⟩
  simp -implicitDefEqProofs only [go_sem, d4, d5]
  refine (empty_ok o.to _).pthen ?_
  cases d6 : emptyD o.to
  · simp -implicitDefEqProofs only [go_sem, d4, d5, d6]
    exact .mk _ (.refl _) (.upd_new h1) ⟨by simp only [formD, d1, d2, e3, d4, d5, d6, Bool.false_and, Bool.true_and, oneOr], rfl⟩
  cases d7 : (o.val.kind == (0 : Int) && (o.val.n == (0 : Int) && o.val.s == ([] : Txt)))
  · simp -implicitDefEqProofs only [go_sem, d4, d5, d6, d7]
    refine (hv _).pthen ?_
    have e7 : eqV o.val zeroVal = false := d7
    cases d8 : valOK o.val
    · simp -implicitDefEqProofs only [go_sem, d4, d5, d6, d7, d8]
      exact .mk _ (.refl _) (.upd_new h1) ⟨by simp only [formD, d1, d2, e3, d4, d5, d6, e7, d8, Bool.or_self, Bool.false_and, Bool.true_and, oneOr], rfl⟩
    simp -implicitDefEqProofs only [go_sem, d4, d5, d6, d7, d8]
    refine (ht _).pthen ?_
    simp -implicitDefEqProofs only [go_sem]
    exact .mk _ (.refl _) (.upd_new h1) ⟨by simp only [formD, d1, d2, e3, d4, d5, d6, e7, d8, Bool.false_or, Bool.true_and, oneOr], rfl⟩
  · simp -implicitDefEqProofs only [go_sem, d4, d5, d6, d7]
    have e7 : eqV o.val zeroVal = true := d7
    refine (ht _).pthen ?_
    simp -implicitDefEqProofs only [go_sem]
    exact .mk _ (.refl _) (.upd_new h1) ⟨by simp only [formD, d1, d2, e3, d4, d5, d6, e7, Bool.true_or, Bool.true_and, oneOr], rfl⟩
end Go.Proofs.YtnhelgnmadbpgaaGreatDoor

set_option linter.unusedSimpArgs false
set_option linter.unusedVariables false
namespace Go.Bf
open Go Go.Ab
def ixD {α : Type} (q : α → Bool) (l : List α) : Int := if l.findIdx q < l.length then (l.findIdx q : Nat) else -1
theorem ixD_at {α : Type} {q : α → Bool} {l : List α} {i : Nat} (hi : i < l.length) (h1 : q l[i] = true) (h2 : ∀ j (hj : j < i), q (l[j]'(by omega)) = false) : ixD q l = (i : Nat) := by
  have e : l.findIdx q = i := (List.findIdx_eq hi).2 ⟨h1, fun j hj => h2 j hj⟩
  rw [ixD, e, if_pos hi]
theorem ixD_none {α : Type} {q : α → Bool} {l : List α} (h : ∀ j (hj : j < l.length), q l[j] = false) : ixD q l = -1 := by
  have e : l.findIdx q = l.length := List.findIdx_eq_length.2 fun x hx => by
    obtain ⟨j, hj, rfl⟩ := List.mem_iff_getElem.1 hx
    exact h j hj
  rw [ixD, e, if_neg (Nat.lt_irrefl _)]
end Go.Bf
namespace Go.Proofs.YtnhelgnmadbpgaaGreatDoor
open Go Go.Ab Go.Bf
theorem ixCase_ok {α : Type} (y : AV) (xs : List AV) (ds : List α) (q : α → Bool) (g : FuncId) (cap : List AV) (h : Heap) (hb : Rd h 5 y xs) (hn : xs.length = ds.length) (hl : xs.length ≤ 1000000000) (hx : ∀ x ∈ xs, isAggA x = true)
    (hp : ∀ i (h1 : i < xs.length) (h2 : i < ds.length), FnOK Tryz.prog g (xs[i] :: cap) h fun r h' => r = .v (.bool (q ds[i])) ∧ h' = h) :
    FnOK Tryz.prog 91 [y, .fn g cap] h fun r h' => r = .v (.int .i64 (ixD q ds)) ∧ h' = h := by
  refine FnOK.body hU hm Tryz.func91 rfl (by kernel_rfl) 19 rfl [.tmp 4] rfl (Nat.le_of_ble_eq_true rfl) (fun hwf => ?_)
  simp -implicitDefEqProofs only [go_sem, hb.len]
  refine .intro (fun m ρ h' => h' = h ∧ ∃ i : Nat, i ≤ xs.length ∧ m = xs.length - i ∧ (∀ j (hj : j < i) (h2 : j < ds.length), q ds[j] = false) ∧ lk ρ 0 = some y ∧ lk ρ 1 = some (.fn g cap) ∧ lk ρ 7 = some (.v (.int .i64 xs.length)) ∧ lk ρ 8 = some (.v (.int .i64 i))) xs.length ?_ ?_
  · refine ⟨rfl, 0, by omega, rfl, fun j hj => (by omega), ?_, ?_, ?_, ?_⟩ <;> simp -implicitDefEqProofs only [go_sem]
  · rintro m ρ h' ⟨rfl, i, hi, rfl, hc, r0, r1, r7, r8⟩
    simp -implicitDefEqProofs only [go_sem, r0, r1, r7, r8]
    refine .intro (fun e => ?_) (fun e => ?_)
    · have hlt : i < xs.length := Int.ofNat_lt.1 (of_decide_eq_true e)
      have hlt2 : i < ds.length := by omega
      have w1 : IntKind.i64.wrap ((i : Int) + 1) = ((i + 1 : Nat) : Int) := by rw [wr64 _ (by omega)]; omega
      simp -implicitDefEqProofs only [go_sem, r0, r1, r7, r8]
      refine hb.idx (e := 63) i rfl hlt (by simp only [go_sem]) (by decide) fun p hp1 => ?_
      have hld := hp1.all (U := U) (ty := 63) (by simp only [go_sem]) (by simp only [go_sem]; exact hb.1 _ (List.getElem_mem hlt)) (by simp only [go_sem]; rw [hx _ (List.getElem_mem hlt)])
      simp -implicitDefEqProofs only [go_sem, r0, r1, r7, r8, hld]
      refine (show FnOK Tryz.prog g (xs[i] :: cap) _ _ from hp i hlt hlt2).pthen ?_
      cases d1 : q ds[i]
      · simp -implicitDefEqProofs only [go_sem, r0, r1, r7, r8, w1]
        refine ⟨_, ?_, rfl, i + 1, by omega, rfl, fun j hj h2 => ?_, ?_, ?_, ?_, ?_⟩
        · omega
        · by_cases hji : j = i
          · subst hji; exact d1
          · exact hc j (by omega) h2
        all_goals simp -implicitDefEqProofs only [go_sem, r0, r1, r7, r8, w1]
      · simp -implicitDefEqProofs only [go_sem, r0, r1, r7, r8]
        exact .same (.refl _) ⟨by rw [ixD_at hlt2 d1 fun j hj => hc j hj (by omega)]; rfl, rfl⟩
    · have hge : i = xs.length := by have := of_decide_eq_false e; omega
      simp -implicitDefEqProofs only [go_sem, r0, r1, r7, r8]
      exact .same (.refl _) ⟨by rw [ixD_none fun j hj => hc j (by omega) hj]; rfl, rfl⟩
theorem ixField_ok {α : Type} (y : AV) (xs : List AV) (ds : List α) (q : α → Bool) (g : FuncId) (cap : List AV) (h : Heap) (hb : Rd h 4 y xs) (hn : xs.length = ds.length) (hl : xs.length ≤ 1000000000) (hx : ∀ x ∈ xs, isAggA x = true)
    (hp : ∀ i (h1 : i < xs.length) (h2 : i < ds.length), FnOK Tryz.prog g (xs[i] :: cap) h fun r h' => r = .v (.bool (q ds[i])) ∧ h' = h) :
    FnOK Tryz.prog 71 [y, .fn g cap] h fun r h' => r = .v (.int .i64 (ixD q ds)) ∧ h' = h := by
  refine FnOK.body hU hm Tryz.func71 rfl (by kernel_rfl) 19 rfl [.tmp 4] rfl (Nat.le_of_ble_eq_true rfl) (fun hwf => ?_)
  simp -implicitDefEqProofs only [go_sem, hb.len]
  refine .intro (fun m ρ h' => h' = h ∧ ∃ i : Nat, i ≤ xs.length ∧ m = xs.length - i ∧ (∀ j (hj : j < i) (h2 : j < ds.length), q ds[j] = false) ∧ lk ρ 0 = some y ∧ lk ρ 1 = some (.fn g cap) ∧ lk ρ 7 = some (.v (.int .i64 xs.length)) ∧ lk ρ 8 = some (.v (.int .i64 i))) xs.length ?_ ?_
  · refine ⟨rfl, 0, by omega, rfl, fun j hj => (by omega), ?_, ?_, ?_, ?_⟩ <;> simp -implicitDefEqProofs only [go_sem]
  · rintro m ρ h' ⟨rfl, i, hi, rfl, hc, r0, r1, r7, r8⟩
    simp -implicitDefEqProofs only [go_sem, r0, r1, r7, r8]
    refine .intro (fun e => ?_) (fun e => ?_)
    · have hlt : i < xs.length := Int.ofNat_lt.1 (of_decide_eq_true e)
      have hlt2 : i < ds.length := by omega
      have w1 : IntKind.i64.wrap ((i : Int) + 1) = ((i + 1 : Nat) : Int) := by rw [wr64 _ (by omega)]; omega
      simp -implicitDefEqProofs only [go_sem, r0, r1, r7, r8]
      refine hb.idx (e := 84) i rfl hlt (by simp only [go_sem]) (by decide) fun p hp1 => ?_
      have hld := hp1.all (U := U) (ty := 84) (by simp only [go_sem]) (by simp only [go_sem]; exact hb.1 _ (List.getElem_mem hlt)) (by simp only [go_sem]; rw [hx _ (List.getElem_mem hlt)])
      simp -implicitDefEqProofs only [go_sem, r0, r1, r7, r8, hld]
      refine (show FnOK Tryz.prog g (xs[i] :: cap) _ _ from hp i hlt hlt2).pthen ?_
      cases d1 : q ds[i]
      · simp -implicitDefEqProofs only [go_sem, r0, r1, r7, r8, w1]
        refine ⟨_, ?_, rfl, i + 1, by omega, rfl, fun j hj h2 => ?_, ?_, ?_, ?_, ?_⟩
        · omega
        · by_cases hji : j = i
          · subst hji; exact d1
          · exact hc j (by omega) h2
        all_goals simp -implicitDefEqProofs only [go_sem, r0, r1, r7, r8, w1]
      · simp -implicitDefEqProofs only [go_sem, r0, r1, r7, r8]
        exact .same (.refl _) ⟨by rw [ixD_at hlt2 d1 fun j hj => hc j hj (by omega)]; rfl, rfl⟩
    · have hge : i = xs.length := by have := of_decide_eq_false e; omega
      simp -implicitDefEqProofs only [go_sem, r0, r1, r7, r8]
      exact .same (.refl _) ⟨by rw [ixD_none fun j hj => hc j (by omega) hj]; rfl, rfl⟩
def RdC (h : Heap) (x : AV) (c : CaseD) : Prop := ∃ f l, x = .agg [.s c.id, .s c.owner, .s c.state, f, l] ∧ Rd h 4 f (c.fields.map fieldA) ∧ Rd h 3 l (c.log.map hapA)
def RdCs (h : Heap) (y : AV) (cs : List CaseD) : Prop := ∃ xs, Rd h 5 y xs ∧ xs.length = cs.length ∧ ∀ i (h1 : i < xs.length) (h2 : i < cs.length), RdC h xs[i] cs[i]
def RdS (h : Heap) (x : AV) (s : StoreD) : Prop := ∃ y1 y2 y3 y4, x = .agg ([.v (.int .i64 s.tick), y1, y2, y3, y4] ++ polC s.policy ++ [.v (.int .i64 s.version)]) ∧ RdCs h y1 s.cases ∧ Rd h 7 y2 (s.reviews.map revA) ∧ Rd h 3 y3 (s.notices.map notA) ∧ Rd h 2 y4 (s.roles.map roleA)
theorem RdC.sub {h h' : Heap} {x : AV} {c : CaseD} (hb : RdC h x c) (hs : Ab.Sub h h') : RdC h' x c := by
  obtain ⟨f, l, e, h1, h2⟩ := hb
  exact ⟨f, l, e, h1.sub hs, h2.sub hs⟩
theorem RdCs.sub {h h' : Heap} {y : AV} {cs : List CaseD} (hb : RdCs h y cs) (hs : Ab.Sub h h') : RdCs h' y cs := by
  obtain ⟨xs, h1, h2, h3⟩ := hb
  exact ⟨xs, h1.sub hs, h2, fun i a b => (h3 i a b).sub hs⟩
theorem RdS.sub {h h' : Heap} {x : AV} {s : StoreD} (hb : RdS h x s) (hs : Ab.Sub h h') : RdS h' x s := by
  obtain ⟨y1, y2, y3, y4, e, h1, h2, h3, h4⟩ := hb
  exact ⟨y1, y2, y3, y4, e, h1.sub hs, h2.sub hs, h3.sub hs, h4.sub hs⟩
theorem sized_map {α : Type} {f : α → AV} {n : Nat} (hf : ∀ a, (f a).cells.length = n) (l : List α) : Sized n (l.map f) := fun z hz => by
  obtain ⟨a, _, rfl⟩ := List.mem_map.1 hz
  exact hf a
theorem agg_map {α : Type} {f : α → AV} (hf : ∀ a, isAggA (f a) = true) (l : List α) : ∀ x ∈ l.map f, isAggA x = true := fun z hz => by
  obtain ⟨a, _, rfl⟩ := List.mem_map.1 hz
  exact hf a
theorem rd_map {α : Type} (f : α → AV) (n : Nat) (hf : ∀ a, (f a).cells.length = n) (h : Heap) (l : List α) : Rd h n (.sl (l.map f) .no) (l.map f) := .sl (sized_map hf l) _
theorem rdC (h : Heap) (c : CaseD) : RdC h (caseA c) c := ⟨_, _, rfl, rd_map fieldA 4 (fun _ => rfl) h _, rd_map hapA 3 (fun _ => rfl) h _⟩
theorem rdCs (h : Heap) (cs : List CaseD) : RdCs h (casesA cs) cs := ⟨_, rd_map caseA 5 (fun _ => rfl) h cs, by simp, fun i h1 h2 => by rw [List.getElem_map]; exact rdC h _⟩
theorem rdS (h : Heap) (s : StoreD) : RdS h (storeA s) s := ⟨_, _, _, _, rfl, rdCs h _, rd_map revA 7 (fun _ => rfl) h _, rd_map notA 3 (fun _ => rfl) h _, rd_map roleA 2 (fun _ => rfl) h _⟩
theorem RdC.agg {h : Heap} {x : AV} {c : CaseD} (hb : RdC h x c) : isAggA x = true := by
  obtain ⟨f, l, rfl, _⟩ := hb
  rfl
theorem RdCs.agg {h : Heap} {xs : List AV} {cs : List CaseD} (hn : xs.length = cs.length) (hb : ∀ i (h1 : i < xs.length) (h2 : i < cs.length), RdC h xs[i] cs[i]) : ∀ x ∈ xs, isAggA x = true := fun x hx => by
  obtain ⟨i, hi, rfl⟩ := List.mem_iff_getElem.1 hx
  exact (hb i hi (by omega)).agg
theorem uCase : (U 63).sz = 5 := by simp only [go_sem]
theorem uField : (U 84).sz = 4 := by simp only [go_sem]
theorem uStr : (U 9).sz ≠ 0 := by simp only [go_sem]
theorem uStr1 : (U 9).sz = 1 := by simp only [go_sem]
theorem find1_ok {h : Heap} {x : AV} {c : CaseD} (hb : RdC h x c) {k : Nat} {id : Txt} (hk : h k = some (.obj [.s id] 9)) : FnOK Tryz.prog 92 [x, .ptr k 0] h fun r h' => r = .v (.bool (geB c.id id)) ∧ h' = h := by
  obtain ⟨f, l, rfl, hf, hl⟩ := hb
  refine FnOK.body hU hm Tryz.func92 rfl (by kernel_rfl) 8 rfl [.tmp 3] rfl (Nat.le_of_ble_eq_true rfl) (fun hwf => ?_)
  simp -implicitDefEqProofs only [go_sem]
  intro i1 h1
  have n1 : k ≠ i1 := fun e => by subst e; rw [hk] at h1; cases h1
  simp -implicitDefEqProofs only [go_sem, upd_ne, n1, n1.symm, hk]
  exact .mk _ (.refl _) (.upd_new h1) ⟨rfl, rfl⟩
structure Few (s : StoreD) : Prop where
  cases : s.cases.length ≤ 1000000
  fields : ∀ c ∈ s.cases, c.fields.length ≤ 1000000
  log : ∀ c ∈ s.cases, c.log.length ≤ 1000000
  reviews : s.reviews.length ≤ 1000000
  notices : s.notices.length ≤ 1000000
  roles : s.roles.length ≤ 1000000
theorem thereD_lt {cs : List CaseD} {id : Txt} (h : thereD cs id = true) : findD cs id < cs.length := by
  unfold thereD at h
  split at h
  · rename_i c hc
    exact (List.getElem?_eq_some_iff.1 hc).1
  · cases h
theorem thereD_eq {cs : List CaseD} {id : Txt} (h : findD cs id < cs.length) : thereD cs id = (cs[findD cs id].id == id) := by
  unfold thereD
  rw [List.getElem?_eq_getElem h]
theorem thereD_no {cs : List CaseD} {id : Txt} (h : ¬ findD cs id < cs.length) : thereD cs id = false := by
  unfold thereD
  rw [List.getElem?_eq_none (by omega)]
theorem find_ok {h : Heap} {x : AV} {s : StoreD} (hb : RdS h x s) (id : Txt) (hl : s.cases.length ≤ 1000000) : FnOK Tryz.prog 46 [x, .s id] h fun r h' => r = .tup [.v (.int .i64 (findD s.cases id : Nat)), .v (.bool (thereD s.cases id))] ∧ h' = h := by
  obtain ⟨y1, y2, y3, y4, rfl, ⟨xs, hc, hn, hcs⟩, h2, h3, h4⟩ := hb
  cases hp : s.policy with
  | mk pid pset palg ptgt prules pkids pobls =>
  refine FnOK.body hU hm Tryz.func46 rfl (by kernel_rfl) 25 rfl [.tmp 4, .tmp 5] rfl (Nat.le_of_ble_eq_true rfl) (fun hwf => ?_)
  simp -implicitDefEqProofs only [go_sem, polC, List.cons_append, List.nil_append]
  intro i1 h1
  simp -implicitDefEqProofs only [go_sem]
  intro i2 h2
  have n21 := ne_upd h2
  have n2 := upd_none h2
  have hs : ∀ a b, Ab.Sub h (upd (upd h i1 a) i2 b) := fun a b => ((Sub.refl h).put h1 a).put n2 b
  simp -implicitDefEqProofs only [go_sem, upd_ne, n21, n21.symm]
  refine (ixCase_ok y1 xs s.cases (fun c => geB c.id id) _ [.ptr i2 0] _ (hc.sub (hs _ _)) hn (by omega) (RdCs.agg hn hcs) fun i a b => find1_ok ((hcs i a b).sub (hs _ _)) (upd_same ..)).pthen ?_
  by_cases hf : findD s.cases id < s.cases.length
  · have e1 : ixD (fun c => geB c.id id) s.cases = (findD s.cases id : Nat) := by rw [ixD]; exact if_pos hf
    have d1 : decide (((findD s.cases id : Nat) : Int) < 0) = false := decide_eq_false (by omega)
    rw [e1]
    simp -implicitDefEqProofs only [go_sem, upd_ne, n21, n21.symm, d1]
    refine ⟨.of (by kernel_rfl), ?_⟩
    obtain ⟨f, l, ex, hfl, hlg⟩ := hcs (findD s.cases id) (by omega) hf
    refine hc.idx (e := 63) (findD s.cases id) rfl (by omega) uCase (by decide) fun p hp1 => ?_
    simp -implicitDefEqProofs only [go_sem, upd_ne, n21, n21.symm]
    refine hp1.field (f := 0) (off := 0) (t := 9) rfl uStr fun p2 hp2 => ?_
    have hld := fun a b => (hp2.sub (hs a b)).part (U := U) (ty := 9) uStr (by rw [ex, uStr1]; exact Nat.le_of_ble_eq_true rfl)
    simp -implicitDefEqProofs only [go_sem, hld, ex, upd_ne, n21, n21.symm]
    exact .mk _ (.refl _) (hs _ _) ⟨by rw [thereD_eq hf]; rfl, rfl⟩
  · have e1 : ixD (fun c => geB c.id id) s.cases = -1 := by rw [ixD]; exact if_neg hf
    have e2 : findD s.cases id = s.cases.length := by
      have : findD s.cases id ≤ s.cases.length := List.findIdx_le_length
      omega
    have d1 : decide ((-1 : Int) < 0) = true := rfl
    rw [e1]
    simp -implicitDefEqProofs only [go_sem, upd_ne, n21, n21.symm, d1]
    simp -implicitDefEqProofs only [go_sem, hc.len]
    exact .mk _ (.refl _) (hs _ _) ⟨by rw [thereD_no hf, e2, hn]; rfl, rfl⟩
end Go.Proofs.YtnhelgnmadbpgaaGreatDoor

set_option linter.unusedSimpArgs false
set_option linter.unusedVariables false
namespace Go.Proofs.YtnhelgnmadbpgaaGreatDoor
open Go Go.Ab Go.Bf
theorem uRole : (U 75).sz = 2 := by simp only [go_sem]
theorem ixRole_ok (y : AV) (ds : List RoleD) (r : RoleD) (h : Heap) (hb : Rd h 2 y (ds.map roleA)) (hl : ds.length ≤ 1000000000) :
    FnOK Tryz.prog 109 [y, roleA r] h fun x h' => x = .v (.int .i64 (ixD (eqRole r) ds)) ∧ h' = h := by
  refine FnOK.body hU hm Tryz.func109 rfl (by kernel_rfl) 19 rfl [.tmp 4] rfl (Nat.le_of_ble_eq_true rfl) (fun hwf => ?_)
  simp -implicitDefEqProofs only [go_sem, roleA]
  intro i1 h1
  have hs : ∀ a, Ab.Sub h (upd h i1 a) := fun a => (Sub.refl h).put h1 a
  simp -implicitDefEqProofs only [go_sem, hb.len, List.length_map]
  refine .intro (fun m ρ h' => h' = upd h i1 (some (.obj [.s r.subj, .s r.role] 75)) ∧ ∃ i : Nat, i ≤ ds.length ∧ m = ds.length - i ∧ (∀ j (hj : j < i) (h2 : j < ds.length), eqRole r ds[j] = false) ∧ lk ρ 0 = some y ∧ lk ρ 3 = some (.ptr i1 0) ∧ lk ρ 7 = some (.v (.int .i64 ds.length)) ∧ lk ρ 8 = some (.v (.int .i64 i))) ds.length ?_ ?_
  · refine ⟨rfl, 0, by omega, rfl, fun j hj => (by omega), ?_, ?_, ?_, ?_⟩ <;> simp -implicitDefEqProofs only [go_sem]
  · rintro m ρ h' ⟨rfl, i, hi, rfl, hc, r0, r3, r7, r8⟩
    simp -implicitDefEqProofs only [go_sem, r0, r3, r7, r8]
    refine .intro (fun e => ?_) (fun e => ?_)
    · have hlt : i < ds.length := Int.ofNat_lt.1 (of_decide_eq_true e)
      have w1 : IntKind.i64.wrap ((i : Int) + 1) = ((i + 1 : Nat) : Int) := by rw [wr64 _ (by omega)]; omega
      simp -implicitDefEqProofs only [go_sem, r0, r3, r7, r8]
      refine ⟨.of (by kernel_rfl), ?_⟩
      refine hb.idx (e := 75) i rfl (by simpa using hlt) uRole (by decide) fun p hp1 => ?_
      have hld := fun a => (hp1.sub (hs a)).all (U := U) (ty := 75) (by simp only [go_sem]) (by rw [uRole, List.getElem_map]; rfl) (by simp only [go_sem]; rw [List.getElem_map]; rfl)
      cases d1 : eqRole r ds[i]
      · have d2 := d1
        simp only [eqRole] at d2
        simp -implicitDefEqProofs only [go_sem, r0, r3, r7, r8, hld, List.getElem_map, roleA, d2, w1]
        refine ⟨_, ?_, rfl, i + 1, by omega, rfl, fun j hj h2 => ?_, ?_, ?_, ?_, ?_⟩
        · omega
        · by_cases hji : j = i
          · subst hji; exact d1
          · exact hc j (by omega) h2
        all_goals simp -implicitDefEqProofs only [go_sem, r0, r3, r7, r8, w1]
      · have d2 := d1
        simp only [eqRole] at d2
        simp -implicitDefEqProofs only [go_sem, r0, r3, r7, r8, hld, List.getElem_map, roleA, d2]
        exact .mk _ (.refl _) (hs _) ⟨by rw [ixD_at hlt d1 fun j hj => hc j hj (by omega)]; rfl, rfl⟩
    · have hge : i = ds.length := by have := of_decide_eq_false e; omega
      simp -implicitDefEqProofs only [go_sem, r0, r3, r7, r8]
      exact .mk _ (.refl _) (hs _) ⟨by rw [ixD_none fun j hj => hc j (by omega) hj]; rfl, rfl⟩
theorem hasRole_ok (y : AV) (ds : List RoleD) (r : RoleD) (h : Heap) (hb : Rd h 2 y (ds.map roleA)) (hl : ds.length ≤ 1000000000) :
    FnOK Tryz.prog 73 [y, roleA r] h fun x h' => x = .v (.bool (hasD ds r)) ∧ h' = h := by
  have hq := fun H (hH : Ab.Sub h H) => ixRole_ok y ds r H (hb.sub hH) hl
  simp only [roleA] at hq
  refine FnOK.body hU hm Tryz.func73 rfl (by kernel_rfl) 9 rfl [.tmp 4] rfl (Nat.le_of_ble_eq_true rfl) (fun hwf => ?_)
  simp -implicitDefEqProofs only [go_sem, roleA]
  intro i1 h1
  simp -implicitDefEqProofs only [go_sem]
  refine (hq _ (.upd_new h1)).pthen ?_
  simp -implicitDefEqProofs only [go_sem]
  refine .mk _ (.refl _) (.upd_new h1) ⟨?_, rfl⟩
  simp only [oneOr]
  congr 2
  unfold hasD ixD
  split
  · rename_i hlt
    rw [decide_eq_true (by omega)]
    exact (List.any_eq_true.2 ⟨_, List.getElem_mem hlt, List.findIdx_getElem (w := hlt)⟩).symm
  · rename_i hge
    rw [decide_eq_false (by omega)]
    refine (List.any_eq_false.2 fun x hx => ?_).symm
    have e : ds.findIdx (eqRole r) = ds.length := by
      have : ds.findIdx (eqRole r) ≤ ds.length := List.findIdx_le_length
      omega
    have := List.findIdx_eq_length.1 e x hx
    rw [this]; simp
theorem has_ok {h : Heap} {x : AV} {s : StoreD} (hb : RdS h x s) (subj role : Txt) (hl : s.roles.length ≤ 1000000000) : FnOK Tryz.prog 31 [x, .s subj, .s role] h fun r h' => r = .v (.bool (hasD s.roles ⟨subj, role⟩)) ∧ h' = h := by
  obtain ⟨y1, y2, y3, y4, rfl, hc, h2, h3, h4⟩ := hb
  have hq := fun H (hH : Ab.Sub h H) => hasRole_ok y4 s.roles ⟨subj, role⟩ H (h4.sub hH) hl
  simp only [roleA] at hq
  cases hp : s.policy with
  | mk pid pset palg ptgt prules pkids pobls =>
  refine FnOK.body hU hm Tryz.func31 rfl (by kernel_rfl) 13 rfl [.tmp 6] rfl (Nat.le_of_ble_eq_true rfl) (fun hwf => ?_)
  simp -implicitDefEqProofs only [go_sem, polC, List.cons_append, List.nil_append]
  intro i1 h1
  simp -implicitDefEqProofs only [go_sem]
  refine (hq _ (.upd_new h1)).pthen ?_
  simp -implicitDefEqProofs only [go_sem]
  exact .mk _ (.refl _) (.upd_new h1) ⟨rfl, rfl⟩
theorem field1_ok {h : Heap} (f : FieldD) {k : Nat} {name : Txt} (hk : h k = some (.obj [.s name] 9)) : FnOK Tryz.prog 72 [fieldA f, .ptr k 0] h fun r h' => r = .v (.bool (f.name == name)) ∧ h' = h := by
  refine FnOK.body hU hm Tryz.func72 rfl (by kernel_rfl) 8 rfl [.tmp 3] rfl (Nat.le_of_ble_eq_true rfl) (fun hwf => ?_)
  simp -implicitDefEqProofs only [go_sem, fieldA]
  intro i1 h1
  have n1 : k ≠ i1 := fun e => by subst e; rw [hk] at h1; cases h1
  simp -implicitDefEqProofs only [go_sem, upd_ne, n1, n1.symm, hk]
  exact .mk _ (.refl _) (.upd_new h1) ⟨rfl, rfl⟩
theorem fieldD_at {fs : List FieldD} {name : Txt} (h : fs.findIdx (fun f => f.name == name) < fs.length) : fieldD fs name = fs[fs.findIdx fun f => f.name == name].val := by
  unfold fieldD
  rw [show fs.find? (fun f => f.name == name) = some fs[fs.findIdx fun f => f.name == name] from List.find?_eq_some_iff_getElem.2 ⟨List.findIdx_getElem (w := h), _, h, rfl, fun j hj => by simpa using List.not_of_lt_findIdx hj⟩]
theorem fieldD_no {fs : List FieldD} {name : Txt} (h : ¬ fs.findIdx (fun f => f.name == name) < fs.length) : fieldD fs name = zeroVal := by
  unfold fieldD
  have e : fs.findIdx (fun f => f.name == name) = fs.length := by
    have : fs.findIdx (fun f => f.name == name) ≤ fs.length := List.findIdx_le_length
    omega
  rw [List.find?_eq_none.2 fun x hx => by simpa using List.findIdx_eq_length.1 e x hx]
theorem field_ok {h : Heap} {x : AV} {c : CaseD} (hb : RdC h x c) (name : Txt) (hl : c.fields.length ≤ 1000000000) : FnOK Tryz.prog 29 [x, .s name] h fun r h' => r = valA (fieldD c.fields name) ∧ h' = h := by
  obtain ⟨f, l, rfl, hf, hlg⟩ := hb
  refine FnOK.body hU hm Tryz.func29 rfl (by kernel_rfl) 19 rfl [.cell 4 38] rfl (Nat.le_of_ble_eq_true rfl) (fun hwf => ?_)
  simp -implicitDefEqProofs only [go_sem]
  intro i1 h1
  simp -implicitDefEqProofs only [go_sem]
  intro i2 h2
  have n21 := ne_upd h2
  have n2 := upd_none h2
  simp -implicitDefEqProofs only [go_sem, upd_ne, n21, n21.symm]
  intro i3 h3
  have n32 := ne_upd h3
  have h3' := upd_none h3
  have n31 := ne_upd h3'
  have n3 := upd_none h3'
  have hs : ∀ a b d, Ab.Sub h (upd (upd (upd h i1 a) i2 b) i3 d) := fun a b d => (((Sub.refl h).put h1 a).put n2 b).put n3 d
  simp -implicitDefEqProofs only [go_sem, upd_ne, n21, n21.symm, n31, n31.symm, n32, n32.symm]
  refine (ixField_ok f _ c.fields (fun f => f.name == name) _ [.ptr i2 0] _ (hf.sub (hs _ _ _)) (by simp) (by simpa using hl) (agg_map (fun _ => rfl) _) fun i a b => by
    rw [List.getElem_map]; exact field1_ok _ (by simp only [upd_ne, n32.symm, upd_same', not_false_eq_true])).pthen ?_
  by_cases hx : c.fields.findIdx (fun f => f.name == name) < c.fields.length
  · have e1 : ixD (fun f => f.name == name) c.fields = (c.fields.findIdx (fun f => f.name == name) : Nat) := by rw [ixD]; exact if_pos hx
    have d1 : decide ((0 : Int) ≤ ((c.fields.findIdx (fun f => f.name == name) : Nat) : Int)) = true := decide_eq_true (by omega)
    rw [e1]
    simp -implicitDefEqProofs only [go_sem, upd_ne, n21, n21.symm, n31, n31.symm, n32, n32.symm, d1]
    refine hf.idx (e := 84) (c.fields.findIdx fun f => f.name == name) rfl (by simpa using hx) uField (by decide) fun p hp1 => ?_
    simp -implicitDefEqProofs only [go_sem, upd_ne, n21, n21.symm, n31, n31.symm, n32, n32.symm]
    refine hp1.field (f := 1) (off := 1) (t := 38) rfl (by simp only [go_sem]) fun p2 hp2 => ?_
    have hld := fun a b d => (hp2.sub (hs a b d)).part (U := U) (ty := 38) (by simp only [go_sem]) (by rw [List.getElem_map, show (U 38).sz = 3 by simp only [go_sem]]; exact Nat.le_of_ble_eq_true rfl)
    simp -implicitDefEqProofs only [go_sem, hld, List.getElem_map, fieldA, upd_ne, n21, n21.symm, n31, n31.symm, n32, n32.symm]
    exact .mk _ (.refl _) (by repeat' first | exact .refl _ | (refine Sub.put ?_ (by assumption) _)) ⟨by rw [fieldD_at hx]; rfl, rfl⟩
  · have e1 : ixD (fun f => f.name == name) c.fields = -1 := by rw [ixD]; exact if_neg hx
    have d1 : decide ((0 : Int) ≤ -1) = false := rfl
    rw [e1]
    simp -implicitDefEqProofs only [go_sem, upd_ne, n21, n21.symm, n31, n31.symm, n32, n32.symm, d1]
    exact .mk _ (.refl _) (by repeat' first | exact .refl _ | (refine Sub.put ?_ (by assumption) _)) ⟨by rw [fieldD_no hx]; rfl, rfl⟩
end Go.Proofs.YtnhelgnmadbpgaaGreatDoor

set_option linter.unusedSimpArgs false
set_option linter.unusedVariables false
namespace Go.Ab
open Go
mutual
def pureB : AV → Bool
  | .v _ => true
  | .s _ => true
  | .agg xs => pureL xs
  | .tup xs => pureL xs
  | .sl xs (.own _) => false
  | .sl xs _ => pureL xs
  | .pe x _ => pureB x
  | .ifc _ x => pureB x
  | _ => false
def pureL : List AV → Bool
  | [] => true
  | x :: r => pureB x && pureL r
end
mutual
theorem pureB_av {F : Nat → Prop} : ∀ x : AV, pureB x = true → Av F x
  | .v x, _ => .v x
  | .s l, _ => .s l
  | .agg xs, h => .agg xs (pureL_av xs (by simpa [pureB] using h))
  | .tup xs, h => .tup xs (pureL_av xs (by simpa [pureB] using h))
  | .sl xs .no, h => .sl xs .no (pureL_av xs (by simpa [pureB] using h)) fun _ e => by cases e
  | .sl xs .full, h => .sl xs .full (pureL_av xs (by simpa [pureB] using h)) fun _ e => by cases e
  | .sl xs (.own _), h => by simp [pureB] at h
  | .pe x o, h => .pe x o (pureB_av x (by simpa [pureB] using h))
  | .ptr i o, h => by simp [pureB] at h
  | .oa i o l, h => by simp [pureB] at h
  | .ifc t x, h => .ifc t x (pureB_av x (by simpa [pureB] using h))
  | .fn f c, h => by simp [pureB] at h
  | .mp i, h => by simp [pureB] at h
  | .ob i o l c z, h => by simp [pureB] at h
theorem pureL_av {F : Nat → Prop} : ∀ xs : List AV, pureL xs = true → ∀ x ∈ xs, Av F x
  | [], _, x, hx => by cases hx
  | y :: r, h, x, hx => by
    simp only [pureL, Bool.and_eq_true] at h
    rcases List.mem_cons.1 hx with e | e
    · rw [e]; exact pureB_av y h.1
    · exact pureL_av r h.2 x e
end
theorem pureL_map {α : Type} {f : α → AV} (hf : ∀ a, pureB (f a) = true) : ∀ l : List α, pureL (l.map f) = true
  | [] => rfl
  | a :: r => by simp [pureL, hf a, pureL_map hf r]
theorem pureL_mem {xs : List AV} (h : pureL xs = true) : ∀ x ∈ xs, pureB x = true := by
  induction xs with
  | nil => intro x hx; cases hx
  | cons y r ih =>
    simp only [pureL, Bool.and_eq_true] at h
    intro x hx
    rcases List.mem_cons.1 hx with e | e
    · rw [e]; exact h.1
    · exact ih h.2 x e
theorem pureB_cells {x : AV} (h : pureB x = true) : ∀ c ∈ x.cells, pureB c = true := by
  cases x with
  | agg cs => exact pureL_mem (show pureL cs = true by simpa [pureB] using h)
  | _ => intro c hc; rw [List.mem_singleton.1 hc]; exact h
theorem Frz.pure {g h : Heap} {x : AV} (hx : pureB x = true) : Frz g h x x := .keep x (pureB_av x hx)
theorem Ow.frz {g h : Heap} {tb : TypeId} {sz id : Nat} {y : AV} {xs ys : List AV} (hw : Ow tb h sz id y xs) (hg : g id = Option.none) (hn : xs.length = ys.length) (hz : ∀ i (h1 : i < xs.length) (h2 : i < ys.length), xs[i].cells.length = ys[i].cells.length)
    (hr : ∀ i (h1 : i < xs.length) (h2 : i < ys.length) j (h3 : j < xs[i].cells.length) (h4 : j < ys[i].cells.length), Frz g h xs[i].cells[j] ys[i].cells[j]) : Frz g h y (.sl ys .no) := by
  obtain ⟨cap, rest, rfl, h1, h2, h3, h4⟩ := hw
  have hl := flatA_length h4
  refine .ob id 0 _ cap sz _ tb ys hg h1 (by rw [List.length_append]; omega) hn.symm (fun i hi => by rw [← hz i (by omega) hi]; exact h4 _ (List.getElem_mem _)) fun i hi j hj hb => ?_
  have hj' : j < sz := by rw [← h4 xs[i] (List.getElem_mem _), hz i (by omega) hi]; exact hj
  have hbd : i * sz + j < xs.length * sz := by
    have : (i + 1) * sz ≤ xs.length * sz := Nat.mul_le_mul_right _ (by omega)
    rw [Nat.add_mul, Nat.one_mul] at this
    omega
  have hjx : j < xs[i].cells.length := by rw [hz i (by omega) hi]; exact hj
  have e : (flatA xs ++ rest)[0 + (i * sz + j)]? = some (xs[i].cells[j]) := by
    rw [Nat.zero_add, List.getElem?_append_left (by omega), flatA_get h4 (by omega) hj', List.getElem?_eq_getElem hjx]
  rw [List.getElem?_eq_getElem hb, Option.some.injEq] at e
  rw [e]
  exact hr i (by omega) hi j hjx hj
theorem OwE.frz {g h : Heap} {tb : TypeId} {sz : Nat} {y : AV} {xs : List AV} (hw : OwE tb g h sz y xs) (hp : pureL xs = true) : Frz g h y (.sl xs .no) := by
  rcases hw with ⟨rfl, rfl⟩ | ⟨id, hg, hw⟩
  · exact .sl [] [] .full rfl (fun i h1 => by cases h1) (fun i h1 => by cases h1)
  · exact hw.frz hg rfl (fun _ _ _ => rfl) fun i h1 h2 j h3 h4 => .pure (pureB_cells (pureL_mem hp _ (List.getElem_mem h1)) _ (List.getElem_mem h3))
theorem OwE.cloneF {U : TypeId → TI} {h : Heap} {sz : Nat} {tb : TypeId} {xs : List AV} {Q : AV → Heap → Prop} (hz : (U tb).sz = sz) (hf : Ab.fit (U tb).zero sz) (hb : Sized sz xs) (hk : ∀ y' h', OwE tb h h' sz y' xs → Sub h h' → Q y' h') : ApFull U h [] xs tb Q := by
  subst hz
  refine ⟨fun hn => ?_, fun hn => ?_⟩
  · subst hn
    exact hk _ _ (.inl ⟨rfl, rfl⟩) (.refl _)
  · refine .ob hf (newOb.ow hb (by simp [flatA]) (by simp) fun id y' h' hid hw ho => ?_)
    exact hk _ _ (.inr ⟨id, hid, hw⟩) fun j b hj => by rw [ho j (fun e => by subst e; rw [hid] at hj; cases hj)]; exact hj
theorem Rd.nil {h : Heap} {sz : Nat} {y : AV} {xs : List AV} {e : TypeId} {Q : AV → Heap → Prop} (hb : Rd h sz y xs) (hk : ∀ b : Bool, (xs ≠ [] → b = false) → Q (.v (.bool b)) h) : nilK h .eql y Q (.slice e) := by
  obtain ⟨_, ⟨q, rfl⟩ | ⟨id, off, cap, cs, t, rfl, _⟩⟩ := hb
  · exact hk
  · exact hk false fun _ => rfl
def nid : AV → Option Nat
  | .ob id _ _ _ _ => some id
  | _ => none
theorem OwE.nid {tb : TypeId} {h0 h : Heap} {sz : Nat} {y : AV} {xs : List AV} (hw : OwE tb h0 h sz y xs) {id : Nat} (e : Ab.nid y = some id) : h0 id = Option.none ∧ h id ≠ Option.none ∧ Ow tb h sz id y xs := by
  rcases hw with ⟨rfl, rfl⟩ | ⟨id', h1, hw⟩
  · cases e
  · obtain ⟨cap, rest, rfl, h2, h3⟩ := hw
    cases e
    exact ⟨h1, by rw [h2]; simp, cap, rest, rfl, h2, h3⟩
theorem Ow.nid {tb : TypeId} {h : Heap} {sz id : Nat} {y : AV} {xs : List AV} (hw : Ow tb h sz id y xs) : Ab.nid y = some id := by
  obtain ⟨cap, rest, rfl, h2, h3⟩ := hw
  rfl
theorem OwE.keep {tb : TypeId} {h0 h h' : Heap} {sz : Nat} {y : AV} {xs : List AV} (hw : OwE tb h0 h sz y xs) (hs : ∀ id, Ab.nid y = some id → h' id = h id) : OwE tb h0 h' sz y xs := by
  rcases hw with hw | ⟨id, h1, hw⟩
  · exact .inl hw
  · exact .inr ⟨id, h1, hw.same (hs id hw.nid)⟩
theorem OwE.less {tb : TypeId} {h0 h1 h : Heap} {sz : Nat} {y : AV} {xs : List AV} (hw : OwE tb h1 h sz y xs) (hs : Sub h0 h1) : OwE tb h0 h sz y xs := by
  rcases hw with hw | ⟨id, a, hw⟩
  · exact .inl hw
  · exact .inr ⟨id, hs.none a, hw⟩
end Go.Ab
namespace Go.Proofs.YtnhelgnmadbpgaaGreatDoor
open Go Go.Ab Go.Bf
theorem clCase_ok (y : AV) (xs : List AV) (h : Heap) (hb : Rd h 5 y xs) (hl : xs.length ≤ 1000000) : FnOK Tryz.prog 86 [y] h fun r h' => OwE 63 h h' 5 r xs ∧ Ab.Sub h h' := by
  refine FnOK.body hU hm Tryz.func86 rfl (by kernel_rfl) 8 rfl [.tmp 2] rfl (Nat.le_of_ble_eq_true rfl) (fun hwf => ?_)
  simp -implicitDefEqProofs only [go_sem]
  refine hb.nil fun b hxs => ?_
  cases b
  · simp -implicitDefEqProofs only [go_sem]
    refine hb.src (U := U) (e := 63) (by simp only [go_sem]) ⟨hb.1, by omega, OwE.cloneF (U := U) (sz := 5) (by simp only [go_sem]) (by simp only [go_sem]) hb.1 fun y' h' hw hs => ?_⟩
    simp -implicitDefEqProofs only [go_sem]
    exact .same (.refl _) ⟨hw, hs⟩
  · have hx : xs = [] := by
      by_cases hx : xs = []
      · exact hx
      · cases hxs hx
    simp -implicitDefEqProofs only [go_sem]
    exact .same (.refl _) ⟨.inl ⟨hx, rfl⟩, .refl _⟩
theorem clReview_ok (y : AV) (xs : List AV) (h : Heap) (hb : Rd h 7 y xs) (hl : xs.length ≤ 1000000) : FnOK Tryz.prog 87 [y] h fun r h' => OwE 105 h h' 7 r xs ∧ Ab.Sub h h' := by
  refine FnOK.body hU hm Tryz.func87 rfl (by kernel_rfl) 8 rfl [.tmp 2] rfl (Nat.le_of_ble_eq_true rfl) (fun hwf => ?_)
  simp -implicitDefEqProofs only [go_sem]
  refine hb.nil fun b hxs => ?_
  cases b
  · simp -implicitDefEqProofs only [go_sem]
    refine hb.src (U := U) (e := 105) (by simp only [go_sem]) ⟨hb.1, by omega, OwE.cloneF (U := U) (sz := 7) (by simp only [go_sem]) (by simp only [go_sem]) hb.1 fun y' h' hw hs => ?_⟩
    simp -implicitDefEqProofs only [go_sem]
    exact .same (.refl _) ⟨hw, hs⟩
  · have hx : xs = [] := by
      by_cases hx : xs = []
      · exact hx
      · cases hxs hx
    simp -implicitDefEqProofs only [go_sem]
    exact .same (.refl _) ⟨.inl ⟨hx, rfl⟩, .refl _⟩
theorem clNotice_ok (y : AV) (xs : List AV) (h : Heap) (hb : Rd h 3 y xs) (hl : xs.length ≤ 1000000) : FnOK Tryz.prog 88 [y] h fun r h' => OwE 114 h h' 3 r xs ∧ Ab.Sub h h' := by
  refine FnOK.body hU hm Tryz.func88 rfl (by kernel_rfl) 8 rfl [.tmp 2] rfl (Nat.le_of_ble_eq_true rfl) (fun hwf => ?_)
  simp -implicitDefEqProofs only [go_sem]
  refine hb.nil fun b hxs => ?_
  cases b
  · simp -implicitDefEqProofs only [go_sem]
    refine hb.src (U := U) (e := 114) (by simp only [go_sem]) ⟨hb.1, by omega, OwE.cloneF (U := U) (sz := 3) (by simp only [go_sem]) (by simp only [go_sem]) hb.1 fun y' h' hw hs => ?_⟩
    simp -implicitDefEqProofs only [go_sem]
    exact .same (.refl _) ⟨hw, hs⟩
  · have hx : xs = [] := by
      by_cases hx : xs = []
      · exact hx
      · cases hxs hx
    simp -implicitDefEqProofs only [go_sem]
    exact .same (.refl _) ⟨.inl ⟨hx, rfl⟩, .refl _⟩
theorem clRole_ok (y : AV) (xs : List AV) (h : Heap) (hb : Rd h 2 y xs) (hl : xs.length ≤ 1000000) : FnOK Tryz.prog 89 [y] h fun r h' => OwE 75 h h' 2 r xs ∧ Ab.Sub h h' := by
  refine FnOK.body hU hm Tryz.func89 rfl (by kernel_rfl) 8 rfl [.tmp 2] rfl (Nat.le_of_ble_eq_true rfl) (fun hwf => ?_)
  simp -implicitDefEqProofs only [go_sem]
  refine hb.nil fun b hxs => ?_
  cases b
  · simp -implicitDefEqProofs only [go_sem]
    refine hb.src (U := U) (e := 75) (by simp only [go_sem]) ⟨hb.1, by omega, OwE.cloneF (U := U) (sz := 2) (by simp only [go_sem]) (by simp only [go_sem]) hb.1 fun y' h' hw hs => ?_⟩
    simp -implicitDefEqProofs only [go_sem]
    exact .same (.refl _) ⟨hw, hs⟩
  · have hx : xs = [] := by
      by_cases hx : xs = []
      · exact hx
      · cases hxs hx
    simp -implicitDefEqProofs only [go_sem]
    exact .same (.refl _) ⟨.inl ⟨hx, rfl⟩, .refl _⟩
theorem clField_ok (y : AV) (xs : List AV) (h : Heap) (hb : Rd h 4 y xs) (hl : xs.length ≤ 1000000) : FnOK Tryz.prog 107 [y] h fun r h' => OwE 84 h h' 4 r xs ∧ Ab.Sub h h' := by
  refine FnOK.body hU hm Tryz.func107 rfl (by kernel_rfl) 8 rfl [.tmp 2] rfl (Nat.le_of_ble_eq_true rfl) (fun hwf => ?_)
  simp -implicitDefEqProofs only [go_sem]
  refine hb.nil fun b hxs => ?_
  cases b
  · simp -implicitDefEqProofs only [go_sem]
    refine hb.src (U := U) (e := 84) (by simp only [go_sem]) ⟨hb.1, by omega, OwE.cloneF (U := U) (sz := 4) (by simp only [go_sem]) (by simp only [go_sem]) hb.1 fun y' h' hw hs => ?_⟩
    simp -implicitDefEqProofs only [go_sem]
    exact .same (.refl _) ⟨hw, hs⟩
  · have hx : xs = [] := by
      by_cases hx : xs = []
      · exact hx
      · cases hxs hx
    simp -implicitDefEqProofs only [go_sem]
    exact .same (.refl _) ⟨.inl ⟨hx, rfl⟩, .refl _⟩
theorem clHappening_ok (y : AV) (xs : List AV) (h : Heap) (hb : Rd h 3 y xs) (hl : xs.length ≤ 1000000) : FnOK Tryz.prog 108 [y] h fun r h' => OwE 119 h h' 3 r xs ∧ Ab.Sub h h' := by
  refine FnOK.body hU hm Tryz.func108 rfl (by kernel_rfl) 8 rfl [.tmp 2] rfl (Nat.le_of_ble_eq_true rfl) (fun hwf => ?_)
  simp -implicitDefEqProofs only [go_sem]
  refine hb.nil fun b hxs => ?_
  cases b
  · simp -implicitDefEqProofs only [go_sem]
    refine hb.src (U := U) (e := 119) (by simp only [go_sem]) ⟨hb.1, by omega, OwE.cloneF (U := U) (sz := 3) (by simp only [go_sem]) (by simp only [go_sem]) hb.1 fun y' h' hw hs => ?_⟩
    simp -implicitDefEqProofs only [go_sem]
    exact .same (.refl _) ⟨hw, hs⟩
  · have hx : xs = [] := by
      by_cases hx : xs = []
      · exact hx
      · cases hxs hx
    simp -implicitDefEqProofs only [go_sem]
    exact .same (.refl _) ⟨.inl ⟨hx, rfl⟩, .refl _⟩
theorem clObl_ok (y : AV) (xs : List AV) (h : Heap) (hb : Rd h 3 y xs) (hl : xs.length ≤ 1000000) : FnOK Tryz.prog 124 [y] h fun r h' => OwE 166 h h' 3 r xs ∧ Ab.Sub h h' := by
  refine FnOK.body hU hm Tryz.func124 rfl (by kernel_rfl) 8 rfl [.tmp 2] rfl (Nat.le_of_ble_eq_true rfl) (fun hwf => ?_)
  simp -implicitDefEqProofs only [go_sem]
  refine hb.nil fun b hxs => ?_
  cases b
  · simp -implicitDefEqProofs only [go_sem]
    refine hb.src (U := U) (e := 166) (by simp only [go_sem]) ⟨hb.1, by omega, OwE.cloneF (U := U) (sz := 3) (by simp only [go_sem]) (by simp only [go_sem]) hb.1 fun y' h' hw hs => ?_⟩
    simp -implicitDefEqProofs only [go_sem]
    exact .same (.refl _) ⟨hw, hs⟩
  · have hx : xs = [] := by
      by_cases hx : xs = []
      · exact hx
      · cases hxs hx
    simp -implicitDefEqProofs only [go_sem]
    exact .same (.refl _) ⟨.inl ⟨hx, rfl⟩, .refl _⟩
theorem clpObl_ok (y : AV) (xs : List AV) (h : Heap) (hb : Rd h 3 y xs) (hl : xs.length ≤ 1000000) (hp : pureL xs = true) : FnOK Tryz.prog 124 [y] h fun r h' => r = .sl xs .no ∧ h' = h :=
  FnOK.freeze fun g hg _ => (clObl_ok y xs g (hb.sub hg) hl).mono fun r h' ⟨h1, h2⟩ => ⟨h2, _, h1.frz hp, rfl⟩
theorem clRule_ok (y : AV) (xs : List AV) (h : Heap) (hb : Rd h 5 y xs) (hl : xs.length ≤ 1000000) : FnOK Tryz.prog 125 [y] h fun r h' => OwE 169 h h' 5 r xs ∧ Ab.Sub h h' := by
  refine FnOK.body hU hm Tryz.func125 rfl (by kernel_rfl) 8 rfl [.tmp 2] rfl (Nat.le_of_ble_eq_true rfl) (fun hwf => ?_)
  simp -implicitDefEqProofs only [go_sem]
  refine hb.nil fun b hxs => ?_
  cases b
  · simp -implicitDefEqProofs only [go_sem]
    refine hb.src (U := U) (e := 169) (by simp only [go_sem]) ⟨hb.1, by omega, OwE.cloneF (U := U) (sz := 5) (by simp only [go_sem]) (by simp only [go_sem]) hb.1 fun y' h' hw hs => ?_⟩
    simp -implicitDefEqProofs only [go_sem]
    exact .same (.refl _) ⟨hw, hs⟩
  · have hx : xs = [] := by
      by_cases hx : xs = []
      · exact hx
      · cases hxs hx
    simp -implicitDefEqProofs only [go_sem]
    exact .same (.refl _) ⟨.inl ⟨hx, rfl⟩, .refl _⟩
theorem clPolicy_ok (y : AV) (xs : List AV) (h : Heap) (hb : Rd h 7 y xs) (hl : xs.length ≤ 1000000) : FnOK Tryz.prog 126 [y] h fun r h' => OwE 32 h h' 7 r xs ∧ Ab.Sub h h' := by
  refine FnOK.body hU hm Tryz.func126 rfl (by kernel_rfl) 8 rfl [.tmp 2] rfl (Nat.le_of_ble_eq_true rfl) (fun hwf => ?_)
  simp -implicitDefEqProofs only [go_sem]
  refine hb.nil fun b hxs => ?_
  cases b
  · simp -implicitDefEqProofs only [go_sem]
    refine hb.src (U := U) (e := 32) (by simp only [go_sem]) ⟨hb.1, by omega, OwE.cloneF (U := U) (sz := 7) (by simp only [go_sem]) (by simp only [go_sem]) hb.1 fun y' h' hw hs => ?_⟩
    simp -implicitDefEqProofs only [go_sem]
    exact .same (.refl _) ⟨hw, hs⟩
  · have hx : xs = [] := by
      by_cases hx : xs = []
      · exact hx
      · cases hxs hx
    simp -implicitDefEqProofs only [go_sem]
    exact .same (.refl _) ⟨.inl ⟨hx, rfl⟩, .refl _⟩
theorem clNode_ok (y : AV) (xs : List AV) (h : Heap) (hb : Rd h 7 y xs) (hl : xs.length ≤ 1000000) : FnOK Tryz.prog 127 [y] h fun r h' => OwE 172 h h' 7 r xs ∧ Ab.Sub h h' := by
  refine FnOK.body hU hm Tryz.func127 rfl (by kernel_rfl) 8 rfl [.tmp 2] rfl (Nat.le_of_ble_eq_true rfl) (fun hwf => ?_)
  simp -implicitDefEqProofs only [go_sem]
  refine hb.nil fun b hxs => ?_
  cases b
  · simp -implicitDefEqProofs only [go_sem]
    refine hb.src (U := U) (e := 172) (by simp only [go_sem]) ⟨hb.1, by omega, OwE.cloneF (U := U) (sz := 7) (by simp only [go_sem]) (by simp only [go_sem]) hb.1 fun y' h' hw hs => ?_⟩
    simp -implicitDefEqProofs only [go_sem]
    exact .same (.refl _) ⟨hw, hs⟩
  · have hx : xs = [] := by
      by_cases hx : xs = []
      · exact hx
      · cases hxs hx
    simp -implicitDefEqProofs only [go_sem]
    exact .same (.refl _) ⟨.inl ⟨hx, rfl⟩, .refl _⟩
theorem clpNode_ok (y : AV) (xs : List AV) (h : Heap) (hb : Rd h 7 y xs) (hl : xs.length ≤ 1000000) (hp : pureL xs = true) : FnOK Tryz.prog 127 [y] h fun r h' => r = .sl xs .no ∧ h' = h :=
  FnOK.freeze fun g hg _ => (clNode_ok y xs g (hb.sub hg) hl).mono fun r h' ⟨h1, h2⟩ => ⟨h2, _, h1.frz hp, rfl⟩
theorem clMatch_ok (y : AV) (xs : List AV) (h : Heap) (hb : Rd h 7 y xs) (hl : xs.length ≤ 1000000) : FnOK Tryz.prog 163 [y] h fun r h' => OwE 214 h h' 7 r xs ∧ Ab.Sub h h' := by
  refine FnOK.body hU hm Tryz.func163 rfl (by kernel_rfl) 8 rfl [.tmp 2] rfl (Nat.le_of_ble_eq_true rfl) (fun hwf => ?_)
  simp -implicitDefEqProofs only [go_sem]
  refine hb.nil fun b hxs => ?_
  cases b
  · simp -implicitDefEqProofs only [go_sem]
    refine hb.src (U := U) (e := 214) (by simp only [go_sem]) ⟨hb.1, by omega, OwE.cloneF (U := U) (sz := 7) (by simp only [go_sem]) (by simp only [go_sem]) hb.1 fun y' h' hw hs => ?_⟩
    simp -implicitDefEqProofs only [go_sem]
    exact .same (.refl _) ⟨hw, hs⟩
  · have hx : xs = [] := by
      by_cases hx : xs = []
      · exact hx
      · cases hxs hx
    simp -implicitDefEqProofs only [go_sem]
    exact .same (.refl _) ⟨.inl ⟨hx, rfl⟩, .refl _⟩
theorem clpMatch_ok (y : AV) (xs : List AV) (h : Heap) (hb : Rd h 7 y xs) (hl : xs.length ≤ 1000000) (hp : pureL xs = true) : FnOK Tryz.prog 163 [y] h fun r h' => r = .sl xs .no ∧ h' = h :=
  FnOK.freeze fun g hg _ => (clMatch_ok y xs g (hb.sub hg) hl).mono fun r h' ⟨h1, h2⟩ => ⟨h2, _, h1.frz hp, rfl⟩
end Go.Proofs.YtnhelgnmadbpgaaGreatDoor

set_option linter.unusedSimpArgs false
set_option linter.unusedVariables false
namespace Go.Proofs.YtnhelgnmadbpgaaGreatDoor
open Go Go.Ab Go.Bf
def CaseOw (h0 h : Heap) (x : AV) (c : CaseD) : Prop := ∃ f l, x = .agg [.s c.id, .s c.owner, .s c.state, f, l] ∧ OwE 84 h0 h 4 f (c.fields.map fieldA) ∧ OwE 119 h0 h 3 l (c.log.map hapA) ∧ ∀ i, nid f = some i → nid l ≠ some i
theorem ne_of_none {h : Heap} {i j : Nat} {b : Blk} (h1 : h i = none) (h2 : h j = some b) : i ≠ j := fun e => by subst e; rw [h2] at h1; cases h1
theorem ownCase_ok {h : Heap} {x : AV} {c : CaseD} (hb : RdC h x c) (hl : c.fields.length ≤ 1000000) (hl2 : c.log.length ≤ 1000000) : FnOK Tryz.prog 68 [x] h fun r h' => CaseOw h h' r c ∧ Ab.Sub h h' := by
  obtain ⟨f, l, rfl, hf, hlg⟩ := hb
  refine FnOK.body hU hm Tryz.func68 rfl (by kernel_rfl) 12 rfl [.cell 2 63] rfl (Nat.le_of_ble_eq_true rfl) (fun hwf => ?_)
  simp -implicitDefEqProofs only [go_sem]
  intro i1 h1
  simp -implicitDefEqProofs only [go_sem]
  intro i2 h2
  have n21 := ne_upd h2
  have n2 := upd_none h2
  simp -implicitDefEqProofs only [go_sem, upd_ne, n21, n21.symm]
  obtain ⟨H, eH⟩ : ∃ H, upd (upd h i1 (some (.obj [.s c.id, .s c.owner, .s c.state, f, l] 63))) i2 (some (.obj [.s [], .s [], .s [], .sl [] .full, .sl [] .full] 63)) = H := ⟨_, rfl⟩
  have hH : Ab.Sub h H := by rw [← eH]; exact ((Sub.refl h).put h1 _).put n2 _
  have g1 : H i1 = some (.obj [.s c.id, .s c.owner, .s c.state, f, l] 63) := by rw [← eH, upd_other _ _ n21.symm, upd_same]
  have g2 : H i2 = some (.obj [.s [], .s [], .s [], .sl [] .full, .sl [] .full] 63) := by rw [← eH, upd_same]
  rw [eH]
  refine .stage (hm1 i1 _) [0, 1, 3, 4, 2, 6, 5] [7, 8, 9] (.hm1 g1) (by kernel_rfl) ?_
  simp -implicitDefEqProofs only [go_sem, hm1_same]
  refine (clField_ok f _ H (hf.sub hH) (by simpa using hl)).mono fun f' H1 ⟨hf', s1⟩ => ?_
  refine ⟨.hm1 (s1 _ _ g1), ?_⟩
  simp -implicitDefEqProofs only [go_sem, hm1_same]
  refine (clHappening_ok l _ H1 ((hlg.sub hH).sub s1) (by simpa using hl2)).mono fun l' H2 ⟨hl', s2⟩ => ?_
  refine ⟨.hm1 (s2 _ _ (s1 _ _ g1)), noHeap, (fun _ _ e => by cases e), ?_⟩
  have g1' := s2 _ _ (s1 _ _ g1)
  have g2' := s2 _ _ (s1 _ _ g2)
  simp -implicitDefEqProofs only [go_sem, g1', hf'.rd.fit, hf'.rd.cells, hl'.rd.fit, hl'.rd.cells]
  have n1 : ∀ b, upd H2 i1 b i2 = some (.obj [.s [], .s [], .s [], .sl [] .full, .sl [] .full] 63) := fun b => by rw [upd_other _ _ n21]; exact g2'
  refine ⟨fun _ _ e => (by cases e), fun _ _ e => (by cases e), ?_⟩
  simp -implicitDefEqProofs only [go_sem, n1]
  have hid : ∀ {y : AV} {xs : List AV} {G : Heap} {tb : TypeId} {z : Nat}, Ab.Sub H G → OwE tb G H2 z y xs → ∀ a b, OwE tb h (upd (upd H2 i1 a) i2 b) z y xs := fun hG hw a b => (hw.less (hH.trans hG)).keep fun id e => by
    have h0 := hG.none (hw.nid e).1
    rw [upd_other _ _ (ne_of_none h0 g2), upd_other _ _ (ne_of_none h0 g1)]
  refine .mk _ (.refl _) (.refl _) ⟨⟨f', l', rfl, hid (.refl _) (hf'.sub s2) _ _, hid s1 hl' _ _, fun i ef el => ?_⟩, ((hH.trans (s1.trans s2)).put h1 _).put n2 _⟩
  exact (hf'.nid ef).2.1 ((hl'.nid el).1)
theorem ownCasep_ok {h : Heap} {x : AV} {c : CaseD} (hb : RdC h x c) (hl : c.fields.length ≤ 1000000) (hl2 : c.log.length ≤ 1000000) : FnOK Tryz.prog 68 [x] h fun r h' => r = caseA c ∧ h' = h :=
  FnOK.freeze fun g hg _ => (ownCase_ok (hb.sub hg) hl hl2).mono fun r h' ⟨⟨f, l, e, hf, hlg, _⟩, h2⟩ => ⟨h2, caseA c, by
    subst e
    refine .agg _ _ rfl fun i h1 h2 => ?_
    rcases i with _ | _ | _ | _ | _ | i
    · exact .pure rfl
    · exact .pure rfl
    · exact .pure rfl
    · exact hf.frz (pureL_map (fun _ => rfl) _)
    · exact hlg.frz (pureL_map (fun _ => rfl) _)
    · simp at h1; omega, rfl⟩
end Go.Proofs.YtnhelgnmadbpgaaGreatDoor

set_option linter.unusedSimpArgs false
set_option linter.unusedVariables false
namespace Go.Proofs.YtnhelgnmadbpgaaGreatDoor
open Go Go.Ab Go.Bf
theorem pure_all (l : List MatchD) : pureL (l.map matchA) = true := pureL_map (fun _ => rfl) l
theorem uAll : (U 215).sz = 1 := by simp only [go_sem]
theorem uAny : (U 211).sz = 1 := by simp only [go_sem]
theorem ownTarget_ok (t : TgtD) (ht : tgtE t = 0) (h : Heap) : FnOK Tryz.prog 123 [tgtA t] h fun r h' => r = tgtA t ∧ h' = h := by
  obtain ⟨hl, he⟩ := tgtE_zero ht
  refine FnOK.body hU hm Tryz.func123 rfl (by kernel_rfl) 33 rfl [.tmp 2] rfl (Nat.le_of_ble_eq_true rfl) (fun hwf => ?_)
  simp -implicitDefEqProofs only [go_sem, tgtA, List.length_map]
  refine .intro (fun m ρ h' => ∃ (i : Nat) (y : AV) (ys : List AV), Acc U 211 h h' y ys ∧ ys.length = i ∧ (∀ j (h1 : j < ys.length) (h2 : j < t.length), ∃ q, ys[j] = .sl (t[j].map allA) q) ∧ i ≤ t.length ∧ m = t.length - i ∧ lk ρ 3 = some y ∧ lk ρ 9 = some (.sl (t.map anyA) .no) ∧ lk ρ 10 = some (.v (.int .i64 t.length)) ∧ lk ρ 11 = some (.v (.int .i64 i))) t.length ?_ ?_
  · refine ⟨0, _, [], .full (.refl _), rfl, fun j h1 => (by cases h1), by omega, rfl, ?_, ?_, ?_, ?_⟩ <;> simp -implicitDefEqProofs only [go_sem]
  · rintro m ρ h' ⟨i, y, ys, hy, hn, hys, hi, rfl, r3, r9, r10, r11⟩
    simp -implicitDefEqProofs only [go_sem, r3, r9, r10, r11]
    refine .intro (fun e => ?_) (fun e => ?_)
    · have hlt : i < t.length := Int.ofNat_lt.1 (of_decide_eq_true e)
      have w1 : IntKind.i64.wrap ((i : Int) + 1) = ((i + 1 : Nat) : Int) := by rw [wr64 _ (by omega)]; omega
      obtain ⟨ha0, hal, hae⟩ := anyE_zero (he _ (List.getElem_mem hlt))
      simp -implicitDefEqProofs only [go_sem, r3, r9, r10, r11]
      refine .at i (by simpa using hlt) (by rw [List.getElem_map]; rfl) ?_
      simp -implicitDefEqProofs only [go_sem, r3, r9, r10, r11, List.getElem_map, anyA, List.length_map]
      refine .intro (fun m ρ H => ∃ (j : Nat) (z : AV) (zs : List AV), Acc U 215 h' H z zs ∧ zs = (t[i].take j).map allA ∧ j ≤ t[i].length ∧ m = t[i].length - j ∧ lk ρ 3 = some y ∧ lk ρ 9 = some (.sl (t.map anyA) .no) ∧ lk ρ 10 = some (.v (.int .i64 t.length)) ∧ lk ρ 11 = some (.v (.int .i64 i)) ∧ lk ρ 6 = some z ∧ lk ρ 15 = some (.sl (t[i].map allA) .no) ∧ lk ρ 16 = some (.v (.int .i64 t[i].length)) ∧ lk ρ 17 = some (.v (.int .i64 j))) t[i].length ?_ ?_
      · refine ⟨0, _, [], .full (.refl _), rfl, by omega, rfl, ?_, ?_, ?_, ?_, ?_, ?_, ?_, ?_⟩ <;> simp -implicitDefEqProofs only [go_sem, r3, r9, r10, r11]
      · rintro m ρ H ⟨j, z, zs, hz, rfl, hj, rfl, r3, r9, r10, r11, r6, r15, r16, r17⟩
        simp -implicitDefEqProofs only [go_sem, r3, r9, r10, r11, r6, r15, r16, r17]
        refine .intro (fun e => ?_) (fun e => ?_)
        · have hlt2 : j < t[i].length := Int.ofNat_lt.1 (of_decide_eq_true e)
          have w2 : IntKind.i64.wrap ((j : Int) + 1) = ((j + 1 : Nat) : Int) := by rw [wr64 _ (by omega)]; omega
          have hml := (allE_zero (hae _ (List.getElem_mem hlt2))).2.1
          simp -implicitDefEqProofs only [go_sem, r3, r9, r10, r11, r6, r15, r16, r17]
          refine .at j (by simpa using hlt2) (by rw [List.getElem_map]; rfl) ?_
          simp -implicitDefEqProofs only [go_sem, r3, r9, r10, r11, r6, r15, r16, r17, List.getElem_map, allA]
          refine (clpMatch_ok _ (t[i][j].map matchA) _ (rd_map matchA 7 (fun _ => rfl) _ _) (by simp; omega) (pure_all _)).pthen ?_
          simp -implicitDefEqProofs only [go_sem, r3, r9, r10, r11, r6, r15, r16, r17]
          refine hz.app (zs := [allA t[i][j]]) (by rw [uAll]; decide) (by simp only [go_sem, ne_eq, not_false_eq_true]) (fun k hk => hk) (by rw [uAll]; exact sized_map (f := allA) (fun _ => rfl) _) (by rw [uAll]; exact sized_map (f := allA) (fun _ => rfl) [t[i][j]]) (by simp only [go_sem, List.length_map, List.length_cons, List.length_nil, List.length_take]; omega) fun z' H' hz' _ => ?_
          simp -implicitDefEqProofs only [go_sem, r3, r9, r10, r11, r6, r15, r16, r17, w2]
          refine ⟨_, ?_, j + 1, z', _, hz', ?_, by omega, rfl, ?_, ?_, ?_, ?_, ?_, ?_, ?_, ?_⟩
          · omega
          · rw [List.take_succ_eq_append_getElem hlt2, List.map_append]; rfl
          all_goals simp -implicitDefEqProofs only [go_sem, r3, r9, r10, r11, r6, r15, r16, r17, w2]
        · have hge : j = t[i].length := by have := of_decide_eq_false e; omega
          subst hge
          rw [List.take_length] at hz
          have hyH := hy.sub hz.1
          obtain ⟨q, rfl⟩ := hz.row
          simp -implicitDefEqProofs only [go_sem, r3, r9, r10, r11, r6, r15, r16, r17]
          refine hyH.app (zs := [.sl (t[i].map allA) q]) (by rw [uAny]; decide) (by simp only [go_sem, ne_eq, not_false_eq_true]) (fun k hk => hk) (by rw [uAny]; intro w hw; obtain ⟨k, hk, rfl⟩ := List.mem_iff_getElem.1 hw; obtain ⟨q', e'⟩ := hys k hk (by omega); rw [e']; rfl) (by rw [uAny]; intro w hw; rw [List.mem_singleton.1 hw]; rfl) (by simp only [go_sem, hn, List.length_cons, List.length_nil]; omega) fun y' H' hy' _ => ?_
          simp -implicitDefEqProofs only [go_sem, r3, r9, r10, r11, r6, r15, r16, r17, w1]
          refine ⟨_, ?_, i + 1, y', _, hy', by simp [hn], fun k h1 h2 => ?_, by omega, rfl, ?_, ?_, ?_, ?_⟩
          · omega
          · by_cases hk : k < ys.length
            · rw [List.getElem_append_left hk]; exact hys k hk h2
            · have : k = i := by simp at h1; omega
              subst this
              exact ⟨q, by rw [List.getElem_append_right (by omega)]; simp [hn]⟩
          all_goals simp -implicitDefEqProofs only [go_sem, r3, r9, r10, r11, r6, r15, r16, r17, w1]
    · have hge : i = t.length := by have := of_decide_eq_false e; omega
      simp -implicitDefEqProofs only [go_sem, r3, r9, r10, r11]
      obtain ⟨q, rfl⟩ := hy.row
      refine .mk (tgtA t) ?_ hy.1 ⟨rfl, rfl⟩
      refine .deep _ _ q (by simp; omega) (fun k h1 h2 => ?_) fun k h1 h2 j h3 h4 => ?_
      · obtain ⟨q', e'⟩ := hys k h1 (by omega)
        rw [e', List.getElem_map]; rfl
      · obtain ⟨q', e'⟩ := hys k h1 (by omega)
        simp only [e', AV.cells, List.length_singleton] at h3
        obtain rfl : j = 0 := by omega
        simp only [e', List.getElem_map, anyA, AV.cells, List.getElem_singleton]
        exact .sl _ _
end Go.Proofs.YtnhelgnmadbpgaaGreatDoor

set_option linter.unusedSimpArgs false
set_option linter.unusedVariables false
namespace Go.Proofs.YtnhelgnmadbpgaaGreatDoor
open Go Go.Ab Go.Bf
theorem pure_tgt (t : TgtD) : pureB (tgtA t) = true := by
  simp only [tgtA, pureB]
  refine pureL_map (fun a => ?_) t
  simp only [anyA, pureB]
  refine pureL_map (fun b => ?_) a
  simp only [allA, pureB]
  exact pureL_map (fun _ => rfl) b
theorem pure_cond (l : List NodeD) : pureB (condA l) = true := by simp only [condA, pureB]; exact pureL_map (fun _ => rfl) l
theorem pure_obls (l : List OblD) : pureB (oblsA l) = true := by simp only [oblsA, pureB]; exact pureL_map (fun _ => rfl) l
theorem pure_rule (r : RuleD) : pureB (ruleA r) = true := by simp [ruleA, pureB, pureL, pure_tgt, pure_cond, pure_obls]
mutual
theorem pure_pol : ∀ p : PolD, pureB (polA p) = true
  | .mk id set alg tgt rules kids obls => by simp [polA, pureB, pureL, pure_tgt, pure_obls, pureL_map pure_rule rules, pure_kids kids]
theorem pure_kids : ∀ l : List PolD, pureL (kidsA l) = true
  | [] => rfl
  | k :: r => by simp [kidsA, pureL, pure_pol k, pure_kids r]
end
theorem polA_cells (p : PolD) : (polA p).cells.length = 7 := by cases p; simp [polA, AV.cells]
theorem cond_le {l : List NodeD} (h : exprE l = 0) : l.length ≤ 32 := by
  by_cases hn : l = []
  · subst hn; simp
  · exact (exprE_zero h hn).1
theorem obls_le {l : List OblD} (h : oblsE l = 0) : l.length ≤ 8 := (oblsE_zero h).1
theorem upd_id {H : Heap} {i : Nat} {x : Option Blk} (h : H i = x) : upd H i x = H := by
  funext j
  by_cases e : j = i
  · rw [e, upd_same, h]
  · rw [upd_other _ _ e]
theorem ow_ne {tb : TypeId} {h : Heap} {sz id i : Nat} {y : AV} {xs cs : List AV} {t : TypeId} (hw : Ow tb h sz id y xs) (hi : h i = some (.obj cs t)) (ht : t ≠ tb) : id ≠ i := by
  obtain ⟨cap, rest, rfl, h1, _⟩ := hw
  intro e
  rw [e, hi] at h1
  injection h1 with h1
  injection h1 with _ h1
  exact ht h1
theorem put_flat {sz : Nat} {xs : List AV} (hs : Sized sz xs) (j : Nat) (hj : j < xs.length) (o : Nat) (c : List AV) (ho : o + c.length ≤ sz) {rest : List AV} :
    (flatA xs ++ rest).take (j * sz + o) ++ c ++ (flatA xs ++ rest).drop (j * sz + o + c.length) = flatA (xs.set j (.agg (Ab.over xs[j].cells o c))) ++ rest := by
  have hl := flatA_length hs
  have hb : (j + 1) * sz ≤ xs.length * sz := Nat.mul_le_mul_right _ (by omega)
  rw [Nat.add_mul, Nat.one_mul] at hb
  have := over_app (us := flatA xs) (vs := rest) (o := j * sz + o) (c := c) (by omega)
  rw [Ab.over] at this
  rw [this, flatA_put hs j hj o c ho]
theorem set_same {α : Type} {xs : List α} {i : Nat} {x : α} (h : xs[i]? = some x) : xs.set i x = xs := by
  obtain ⟨hi, rfl⟩ := List.getElem?_eq_some_iff.1 h
  exact List.set_getElem_self hi
theorem polC_mk (id : Txt) (set : Bool) (alg : Int) (tgt : TgtD) (rules : List RuleD) (kids : List PolD) (obls : List OblD) : polA (.mk id set alg tgt rules kids obls) = .agg [.s id, .v (.bool set), .v (.int .i64 alg), tgtA tgt, .sl (rules.map ruleA) .no, .sl (kids.map polA) .no, oblsA obls] := by simp [polA, kidsA_eq]
set_option maxRecDepth 100000 in
theorem ownPolicy_ok : ∀ (p : PolD) (d : Nat), polE d p → ∀ h, FnOK Tryz.prog 90 [polA p] h fun r h' => r = polA p ∧ h' = h
  | .mk pid pset palg ptgt prules pkids pobls, d, hp, h => by
    obtain ⟨_, _, _, _, _, _, ht, ho, hr16, hk16, hre, hke⟩ := hp
    rw [kidsE_eq] at hke
    have ih : ∀ (j : Nat) (hj : j < pkids.length) (h : Heap), FnOK Tryz.prog 90 [polA pkids[j]] h fun r h' => r = polA pkids[j] ∧ h' = h := fun j hj h => ownPolicy_ok pkids[j] (d + 1) (hke _ (List.getElem_mem hj)) h
    have hob := obls_le ho
    refine FnOK.freeze fun g hg _ => ?_
    rw [polC_mk]
    refine FnOK.body hU hm Tryz.func90 rfl (by kernel_rfl) 72 rfl [.cell 2 32] rfl (Nat.le_of_ble_eq_true rfl) (fun hwf => ?_)
    simp -implicitDefEqProofs only [go_sem]
    intro i1 h1
    simp -implicitDefEqProofs only [go_sem]
    intro i2 h2
    have n21 := ne_upd h2
    have n2 := upd_none h2
    simp -implicitDefEqProofs only [go_sem, upd_ne, n21, n21.symm]
    obtain ⟨H, eH⟩ : ∃ H, upd (upd g i1 (some (.obj [.s pid, .v (.bool pset), .v (.int .i64 palg), tgtA ptgt, .sl (prules.map ruleA) .no, .sl (pkids.map polA) .no, oblsA pobls] 32))) i2 (some (.obj [.s [], .v (.bool false), .v (.int .i64 0), .sl [] .full, .sl [] .full, .sl [] .full, .sl [] .full] 32)) = H := ⟨_, rfl⟩
    have hH : Ab.Sub g H := by rw [← eH]; exact ((Sub.refl g).put h1 _).put n2 _
    have g1 : H i1 = some (.obj [.s pid, .v (.bool pset), .v (.int .i64 palg), tgtA ptgt, .sl (prules.map ruleA) .no, .sl (pkids.map polA) .no, oblsA pobls] 32) := by rw [← eH, upd_other _ _ n21.symm, upd_same]
    have g2 : H i2 = some (.obj [.s [], .v (.bool false), .v (.int .i64 0), .sl [] .full, .sl [] .full, .sl [] .full, .sl [] .full] 32) := by rw [← eH, upd_same]
    rw [eH]
    refine .stage (hm1 i1 _) [0, 1, 3, 4, 2, 6, 5] [7, 8, 9] (.hm1 g1) (by kernel_rfl) ?_
    simp -implicitDefEqProofs only [go_sem, hm1_same]
    refine (ownTarget_ok ptgt ht H).pthen ?_
    refine ⟨.hm1 g1, ?_⟩
    simp -implicitDefEqProofs only [go_sem, hm1_same]
    refine (clpObl_ok _ (pobls.map oblA) H (rd_map oblA 3 (fun _ => rfl) _ _) (by simp; omega) (pureL_map (fun _ => rfl) _)).pthen ?_
    refine ⟨.hm1 g1, noHeap, (fun _ _ e => by cases e), ?_⟩
    have cT : (tgtA ptgt).cells = [tgtA ptgt] := rfl
    simp -implicitDefEqProofs only [go_sem, g1, show fit (tgtA ptgt) 1 = (1 = 1) from rfl, cT]
    have eo : (.sl (pobls.map oblA) .no : AV) = oblsA pobls := rfl
    rw [eo]
    refine ⟨fun _ _ e => (by cases e), fun _ _ e => (by cases e), ?_⟩
    rw [upd_id g1]
    refine .stage (hm1 i1 _) [0, 1, 3, 4, 2, 6, 5] [7, 8, 9] (.hm1 g1) (by kernel_rfl) ?_
    simp -implicitDefEqProofs only [go_sem, hm1_same]
    refine (clRule_ok _ (prules.map ruleA) H (rd_map ruleA 5 (fun _ => rfl) _ _) (by simp; omega)).mono fun y4 H1 ⟨w4, s1⟩ => ?_
    refine ⟨.hm1 (s1 _ _ g1), ?_⟩
    simp -implicitDefEqProofs only [go_sem, hm1_same]
    refine (clPolicy_ok _ (pkids.map polA) H1 (rd_map polA 7 polA_cells _ _) (by simp; omega)).mono fun y5 H2 ⟨w5, s2⟩ => ?_
    have g1' := s2 _ _ (s1 _ _ g1)
    have g2' := s2 _ _ (s1 _ _ g2)
    refine ⟨.hm1 g1', noHeap, (fun _ _ e => by cases e), ?_⟩
    simp -implicitDefEqProofs only [go_sem, g1', w4.rd.fit, w4.rd.cells, w5.rd.fit, w5.rd.cells]
    refine ⟨fun _ _ e => (by cases e), fun _ _ e => (by cases e), ?_⟩
    have hn4 : ∀ id, nid y4 = some id → id ≠ i2 := fun id e => ne_of_none (w4.nid e).1 g2
    have hn5 : ∀ id, nid y5 = some id → id ≠ i2 := fun id e => ne_of_none (w5.nid e).1 (s1 _ _ g2)
    have hnd : ∀ i, nid y4 = some i → nid y5 ≠ some i := fun i e4 e5 => (w4.nid e4).2.1 (w5.nid e5).1
    have v4 : ∀ b, OwE 169 g (upd H2 i1 b) 5 y4 (prules.map ruleA) := fun b => ((w4.sub s2).less hH).keep fun id e => upd_other _ _ (ne_of_none (w4.nid e).1 g1)
    have v5 : ∀ b, OwE 32 g (upd H2 i1 b) 7 y5 (pkids.map polA) := fun b => (w5.less (hH.trans s1)).keep fun id e => upd_other _ _ (ne_of_none (s1.none (w5.nid e).1) g1)
    have vs : ∀ b, Ab.Sub g (upd H2 i1 b) := fun b => (hH.trans (s1.trans s2)).put h1 b
    have vz : ∀ b, upd H2 i1 b i2 = some (.obj [.s [], .v (.bool false), .v (.int .i64 0), .sl [] .full, .sl [] .full, .sl [] .full, .sl [] .full] 32) := fun b => by rw [upd_other _ _ n21]; exact g2'
    obtain ⟨H3, eH3⟩ : ∃ H3, upd H2 i1 (some (.obj [.s pid, .v (.bool pset), .v (.int .i64 palg), tgtA ptgt, y4, y5, oblsA pobls] 32)) = H3 := ⟨_, rfl⟩
    have q1 : H3 i1 = some (.obj [.s pid, .v (.bool pset), .v (.int .i64 palg), tgtA ptgt, y4, y5, oblsA pobls] 32) := by rw [← eH3, upd_same]
    replace v4 := v4 (some (.obj [.s pid, .v (.bool pset), .v (.int .i64 palg), tgtA ptgt, y4, y5, oblsA pobls] 32))
    replace v5 := v5 (some (.obj [.s pid, .v (.bool pset), .v (.int .i64 palg), tgtA ptgt, y4, y5, oblsA pobls] 32))
    replace vs := vs (some (.obj [.s pid, .v (.bool pset), .v (.int .i64 palg), tgtA ptgt, y4, y5, oblsA pobls] 32))
    replace vz := vz (some (.obj [.s pid, .v (.bool pset), .v (.int .i64 palg), tgtA ptgt, y4, y5, oblsA pobls] 32))
    rw [eH3] at v4 v5 vs vz
    rw [eH3]
    clear eH3
    have hi1 : ∀ id, g id = none → ∀ {K : Heap} {b : Blk}, K id = some b → K id ≠ none := fun id _ K b e => by rw [e]; simp
    simp -implicitDefEqProofs only [go_sem, q1, v4.rd.len, List.length_map]
    refine .intro (fun m ρ G => ∃ i : Nat, G i1 = some (.obj [.s pid, .v (.bool pset), .v (.int .i64 palg), tgtA ptgt, y4, y5, oblsA pobls] 32) ∧ G i2 = some (.obj [.s [], .v (.bool false), .v (.int .i64 0), .sl [] .full, .sl [] .full, .sl [] .full, .sl [] .full] 32) ∧ Ab.Sub g G ∧ OwE 169 g G 5 y4 (prules.map ruleA) ∧ OwE 32 g G 7 y5 (pkids.map polA) ∧ i ≤ prules.length ∧ m = prules.length - i ∧
      lk ρ 1 = some (.ptr i1 0) ∧ lk ρ 2 = some (.ptr i2 0) ∧ lk ρ 24 = some y4 ∧ lk ρ 25 = some (.v (.int .i64 prules.length)) ∧ lk ρ 26 = some (.v (.int .i64 i))) prules.length ?_ ?_
    · refine ⟨0, q1, vz, vs, v4, v5, by omega, rfl, ?_, ?_, ?_, ?_, ?_⟩ <;> simp -implicitDefEqProofs only [go_sem]
    · rintro m ρ G ⟨i, q1, vz, vs, v4, v5, hi, rfl, r1, r2, r24, r25, r26⟩
      simp -implicitDefEqProofs only [go_sem, r1, r2, r24, r25, r26]
      refine .intro (fun e => ?_) (fun e => ?_)
      · have hlt : i < prules.length := Int.ofNat_lt.1 (of_decide_eq_true e)
        have w1 : IntKind.i64.wrap ((i : Int) + 1) = ((i + 1 : Nat) : Int) := by rw [wr64 _ (by omega)]; omega
        obtain ⟨_, rt, rc, ro⟩ := hre _ (List.getElem_mem hlt)
        have hrc := cond_le rc
        have hro := obls_le ro
        simp -implicitDefEqProofs only [go_sem, r1, r2, r24, r25, r26]
        refine v4.rd.idx (e := 169) i rfl (by simpa using hlt) (by simp only [go_sem]) (by decide) fun p hp1 => ?_
        have hld := hp1.all (U := U) (ty := 169) (by simp only [go_sem]) (by simp only [go_sem]; rw [List.getElem_map]; rfl) (by simp only [go_sem]; rw [List.getElem_map]; rfl)
        simp -implicitDefEqProofs only [go_sem, r1, r2, r24, r25, r26, hld, List.getElem_map, ruleA]
        intro i4 h4
        have n41 : i4 ≠ i1 := ne_of_none h4 q1
        simp -implicitDefEqProofs only [go_sem, r1, r2, r24, r25, r26]
        obtain ⟨G4, eG4⟩ : ∃ G4, upd G i4 (some (.obj [.s prules[i].id, .v (.bool prules[i].deny), tgtA prules[i].tgt, condA prules[i].cond, oblsA prules[i].obls] 169)) = G4 := ⟨_, rfl⟩
        rw [eG4]
        have p1 : G4 i1 = some (.obj [.s pid, .v (.bool pset), .v (.int .i64 palg), tgtA ptgt, y4, y5, oblsA pobls] 32) := by rw [← eG4, upd_other _ _ n41.symm]; exact q1
        have p4 : G4 i4 = some (.obj [.s prules[i].id, .v (.bool prules[i].deny), tgtA prules[i].tgt, condA prules[i].cond, oblsA prules[i].obls] 169) := by rw [← eG4, upd_same]
        have sG : Ab.Sub G G4 := by rw [← eG4]; exact .upd_new h4
        refine .calls (hm2 i1 (.obj [.s pid, .v (.bool pset), .v (.int .i64 palg), tgtA ptgt, y4, y5, oblsA pobls] 32) i4 (.obj [.s prules[i].id, .v (.bool prules[i].deny), tgtA prules[i].tgt, condA prules[i].cond, oblsA prules[i].obls] 169)) [0, 1, 2, 3, 4, 5, 6, 7, 8, 9, 10, 12, 13, 15, 16, 11, 14, 17, 18, 19, 20, 21, 22, 23, 24, 25, 26] (.hm2 p1 p4) (by kernel_rfl) rfl ?_
        simp -implicitDefEqProofs only [go_sem, r1, hm2_fst _ _ n41.symm, hm2_snd]
        refine (ownTarget_ok prules[i].tgt rt G4).pthen ?_
        refine ⟨.hm2 p1 p4, ?_⟩
        simp -implicitDefEqProofs only [go_sem, r1, hm2_fst _ _ n41.symm, hm2_snd]
        refine (clpNode_ok _ (prules[i].cond.map nodeA) G4 (rd_map nodeA 7 (fun _ => rfl) _ _) (by simp; omega) (pureL_map (fun _ => rfl) _)).pthen ?_
        refine ⟨.hm2 p1 p4, ?_⟩
        simp -implicitDefEqProofs only [go_sem, r1, hm2_fst _ _ n41.symm, hm2_snd]
        refine (clpObl_ok _ (prules[i].obls.map oblA) G4 (rd_map oblA 3 (fun _ => rfl) _ _) (by simp; omega) (pureL_map (fun _ => rfl) _)).pthen ?_
        refine ⟨.hm2 p1 p4, ?_⟩
        simp -implicitDefEqProofs only [go_sem, r1, hm2_fst _ _ n41.symm, hm2_snd]
        obtain ⟨id4, hg4, o4⟩ := (v4.sub sG).ow (by intro e; rw [List.map_eq_nil_iff] at e; rw [e] at hlt; cases hlt)
        have m1 : id4 ≠ i1 := ow_ne o4 p1 (by decide)
        have m4 : id4 ≠ i4 := fun e => (v4.nid o4.nid).2.1 (by rw [e]; exact h4)
        refine o4.idx (U := U) (e := 169) i rfl (by simpa using hlt) (by simp only [go_sem]) (by decide) ?_
        simp -implicitDefEqProofs only [go_sem, r1, hm2_fst _ _ n41.symm, hm2_snd]
        have o4' := o4
        obtain ⟨cap, rest, ey, hid, hr, hc, hsz⟩ := o4'
        have hbd : i * 5 + 5 ≤ (flatA (prules.map ruleA) ++ rest).length := by
          rw [List.length_append, flatA_length hsz, List.length_map]; omega
        have e2 : List.take (i * 5 + 2) (flatA (prules.map ruleA) ++ rest) ++ (tgtA prules[i].tgt).cells ++ List.drop (i * 5 + 2 + (tgtA prules[i].tgt).cells.length) (flatA (prules.map ruleA) ++ rest) = flatA (prules.map ruleA) ++ rest := by
          refine (put_flat hsz i (by simpa using hlt) 2 ((tgtA prules[i].tgt).cells) (Nat.le_of_ble_eq_true rfl)).trans ?_
          rw [set_same]
          rw [List.getElem?_eq_getElem (by simpa using hlt), List.getElem_map]; rfl
        have e3 : List.take (i * 5 + 3) (flatA (prules.map ruleA) ++ rest) ++ [.sl (prules[i].cond.map nodeA) .no] ++ List.drop (i * 5 + 3 + 1) (flatA (prules.map ruleA) ++ rest) = flatA (prules.map ruleA) ++ rest := by
          refine (put_flat hsz i (by simpa using hlt) 3 ([.sl (prules[i].cond.map nodeA) .no]) (Nat.le_of_ble_eq_true rfl)).trans ?_
          rw [set_same]
          rw [List.getElem?_eq_getElem (by simpa using hlt), List.getElem_map]; rfl
        have e4 : List.take (i * 5 + 4) (flatA (prules.map ruleA) ++ rest) ++ [.sl (prules[i].obls.map oblA) .no] ++ List.drop (i * 5 + 4 + 1) (flatA (prules.map ruleA) ++ rest) = flatA (prules.map ruleA) ++ rest := by
          refine (put_flat hsz i (by simpa using hlt) 4 ([.sl (prules[i].obls.map oblA) .no]) (Nat.le_of_ble_eq_true rfl)).trans ?_
          rw [set_same]
          rw [List.getElem?_eq_getElem (by simpa using hlt), List.getElem_map]; rfl
        simp -implicitDefEqProofs only [go_sem, hid]
        rw [e2, upd_id hid]
        refine ⟨rfl, by omega, .hm2 p1 p4, ?_⟩
        refine o4.idx (U := U) (e := 169) i rfl (by simpa using hlt) (by simp only [go_sem]) (by decide) ?_
        simp -implicitDefEqProofs only [go_sem, r1, hm2_fst _ _ n41.symm, hm2_snd, hid]
        rw [e3, upd_id hid]
        refine ⟨by omega, .hm2 p1 p4, ?_⟩
        refine o4.idx (U := U) (e := 169) i rfl (by simpa using hlt) (by simp only [go_sem]) (by decide) ?_
        simp -implicitDefEqProofs only [go_sem, r1, hm2_fst _ _ n41.symm, hm2_snd, hid]
        rw [e4, upd_id hid]
        refine ⟨by omega, .hm2 p1 p4, ?_⟩
        simp -implicitDefEqProofs only [go_sem, r1, r2, r24, r25, r26, w1]
        refine ⟨_, ?_, i + 1, p1, sG _ _ vz, vs.trans sG, v4.sub sG, v5.sub sG, by omega, rfl, ?_, ?_, ?_, ?_, ?_⟩
        · omega
        all_goals simp -implicitDefEqProofs only [go_sem, r1, r2, r24, r25, r26, w1]
      · have hge : i = prules.length := by have := of_decide_eq_false e; omega
        clear hge
        simp -implicitDefEqProofs only [go_sem, r1, r2, r24, r25, r26, q1, v5.rd.len, List.length_map]
        refine .intro (fun m ρ G => ∃ i : Nat, G i1 = some (.obj [.s pid, .v (.bool pset), .v (.int .i64 palg), tgtA ptgt, y4, y5, oblsA pobls] 32) ∧ G i2 = some (.obj [.s [], .v (.bool false), .v (.int .i64 0), .sl [] .full, .sl [] .full, .sl [] .full, .sl [] .full] 32) ∧ Ab.Sub g G ∧ OwE 169 g G 5 y4 (prules.map ruleA) ∧ OwE 32 g G 7 y5 (pkids.map polA) ∧ i ≤ pkids.length ∧ m = pkids.length - i ∧
          lk ρ 1 = some (.ptr i1 0) ∧ lk ρ 2 = some (.ptr i2 0) ∧ lk ρ 57 = some y5 ∧ lk ρ 58 = some (.v (.int .i64 pkids.length)) ∧ lk ρ 59 = some (.v (.int .i64 i))) pkids.length ?_ ?_
        · refine ⟨0, q1, vz, vs, v4, v5, by omega, rfl, ?_, ?_, ?_, ?_, ?_⟩ <;> simp -implicitDefEqProofs only [go_sem, r1, r2]
        · clear r1 r2 r24 r25 r26 q1 vz vs v4 v5 e hi
          rintro m ρ G ⟨i, q1, vz, vs, v4, v5, hi, rfl, r1, r2, r57, r58, r59⟩
          simp -implicitDefEqProofs only [go_sem, r1, r2, r57, r58, r59]
          refine .intro (fun e => ?_) (fun e => ?_)
          · have hlt : i < pkids.length := Int.ofNat_lt.1 (of_decide_eq_true e)
            have w1 : IntKind.i64.wrap ((i : Int) + 1) = ((i + 1 : Nat) : Int) := by rw [wr64 _ (by omega)]; omega
            have ihi := ih i hlt
            have hci := polA_cells pkids[i]
            cases hpk : pkids[i] with
            | mk kid kset kalg ktgt krules kkids kobls =>
            rw [hpk, polC_mk] at ihi
            simp -implicitDefEqProofs only [go_sem, r1, r2, r57, r58, r59]
            refine v5.rd.idx (e := 32) i rfl (by simpa using hlt) (by simp only [go_sem]) (by decide) fun p hp1 => ?_
            have hld := hp1.all (U := U) (ty := 32) (by simp only [go_sem]) (by simp only [go_sem]; rw [List.getElem_map]; exact hci) (by simp only [go_sem]; rw [List.getElem_map, hpk, polC_mk]; rfl)
            simp -implicitDefEqProofs only [go_sem, r1, r2, r57, r58, r59, hld, List.getElem_map, hpk, polC_mk]
            intro i4 h4
            have n41 : i4 ≠ i1 := ne_of_none h4 q1
            simp -implicitDefEqProofs only [go_sem, r1, r2, r57, r58, r59]
            obtain ⟨G4, eG4⟩ : ∃ G4, upd G i4 (some (.obj [.s kid, .v (.bool kset), .v (.int .i64 kalg), tgtA ktgt, .sl (krules.map ruleA) .no, .sl (kkids.map polA) .no, oblsA kobls] 32)) = G4 := ⟨_, rfl⟩
            rw [eG4]
            have p1 : G4 i1 = some (.obj [.s pid, .v (.bool pset), .v (.int .i64 palg), tgtA ptgt, y4, y5, oblsA pobls] 32) := by rw [← eG4, upd_other _ _ n41.symm]; exact q1
            have p4 : G4 i4 = some (.obj [.s kid, .v (.bool kset), .v (.int .i64 kalg), tgtA ktgt, .sl (krules.map ruleA) .no, .sl (kkids.map polA) .no, oblsA kobls] 32) := by rw [← eG4, upd_same]
            have sG : Ab.Sub G G4 := by rw [← eG4]; exact .upd_new h4
            refine .calls (hm2 i1 (.obj [.s pid, .v (.bool pset), .v (.int .i64 palg), tgtA ptgt, y4, y5, oblsA pobls] 32) i4 (.obj [.s kid, .v (.bool kset), .v (.int .i64 kalg), tgtA ktgt, .sl (krules.map ruleA) .no, .sl (kkids.map polA) .no, oblsA kobls] 32)) [0, 1, 2, 3, 4, 5, 6] (.hm2 p1 p4) (by kernel_rfl) rfl ?_
            simp -implicitDefEqProofs only [go_sem, r1, hm2_fst _ _ n41.symm, hm2_snd]
            refine (ihi G4).pthen ?_
            refine ⟨.hm2 p1 p4, ?_⟩
            simp -implicitDefEqProofs only [go_sem, r1, hm2_fst _ _ n41.symm, hm2_snd]
            obtain ⟨id4, hg4, o4⟩ := (v5.sub sG).ow (by intro e; rw [List.map_eq_nil_iff] at e; rw [e] at hlt; cases hlt)
            have o4' := o4
            obtain ⟨cap, rest, ey, hid, hr, hc, hsz⟩ := o4'
            have hbd : i * 7 + 7 ≤ (flatA (pkids.map polA) ++ rest).length := by
              rw [List.length_append, flatA_length hsz, List.length_map]; omega
            have e2 : List.take (i * 7) (flatA (pkids.map polA) ++ rest) ++ [.s kid, .v (.bool kset), .v (.int .i64 kalg), tgtA ktgt, .sl (krules.map ruleA) .no, .sl (kkids.map polA) .no, oblsA kobls] ++ List.drop (i * 7 + 7) (flatA (pkids.map polA) ++ rest) = flatA (pkids.map polA) ++ rest := by
              refine (put_flat hsz i (by simpa using hlt) 0 [.s kid, .v (.bool kset), .v (.int .i64 kalg), tgtA ktgt, .sl (krules.map ruleA) .no, .sl (kkids.map polA) .no, oblsA kobls] (Nat.le_of_ble_eq_true rfl)).trans ?_
              rw [set_same]
              rw [List.getElem?_eq_getElem (by simpa using hlt), List.getElem_map, hpk, polC_mk]; rfl
            refine o4.idx (U := U) (e := 32) i rfl (by simpa using hlt) (by simp only [go_sem]) (by decide) ?_
            simp -implicitDefEqProofs only [go_sem, r1, hm2_fst _ _ n41.symm, hm2_snd, hid]
            rw [e2, upd_id hid]
            refine ⟨by omega, .hm2 p1 p4, ?_⟩
            simp -implicitDefEqProofs only [go_sem, r1, r2, r57, r58, r59, w1]
            refine ⟨_, ?_, i + 1, p1, sG _ _ vz, vs.trans sG, v4.sub sG, v5.sub sG, by omega, rfl, ?_, ?_, ?_, ?_, ?_⟩
            · omega
            all_goals simp -implicitDefEqProofs only [go_sem, r1, r2, r57, r58, r59, w1]
          · simp -implicitDefEqProofs only [go_sem, r1, r2, r57, r58, r59, q1, vz]
            refine .mk _ (.refl _) (.refl _) ⟨vs.put n2 _, polA (.mk pid pset palg ptgt prules pkids pobls), ?_, polC_mk ..⟩
            rw [polC_mk]
            have z4 : ∀ b, Frz g (upd G i2 b) y4 (.sl (prules.map ruleA) .no) := fun b => (v4.keep fun id e => upd_other _ _ (hn4 id e)).frz (pureL_map pure_rule prules)
            have z5 : ∀ b, Frz g (upd G i2 b) y5 (.sl (pkids.map polA) .no) := fun b => (v5.keep fun id e => upd_other _ _ (hn5 id e)).frz (by rw [← kidsA_eq]; exact pure_kids pkids)
            refine .agg _ _ rfl fun k k1 k2 => ?_
            rcases k with _ | _ | _ | _ | _ | _ | _ | k
            · exact .pure rfl
            · exact .pure rfl
            · exact .pure rfl
            · exact .pure (pure_tgt _)
            · exact z4 _
            · exact z5 _
            · exact .pure (pure_obls _)
            · simp at k1; omega
termination_by p => SizeOf.sizeOf p
decreasing_by
  have := List.sizeOf_lt_of_mem (List.getElem_mem hj)
  simp only [PolD.mk.sizeOf_spec]
  omega
end Go.Proofs.YtnhelgnmadbpgaaGreatDoor

set_option linter.unusedSimpArgs false
set_option linter.unusedVariables false
namespace Go.Ab
open Go
def apart (a b : AV) : Prop := ∀ i, nid a = some i → nid b ≠ some i
theorem apart.symm {a b : AV} (h : apart a b) : apart b a := fun i e1 e2 => h i e2 e1
theorem apart_of {a y : AV} {tb : TypeId} {g h : Heap} {sz : Nat} {xs : List AV} (hw : OwE tb g h sz y xs) (ha : ∀ i, nid a = some i → g i ≠ none) : apart a y := fun i e1 e2 => ha i e1 (hw.nid e2).1
theorem OwE.there {tb : TypeId} {h0 h h' : Heap} {sz : Nat} {y : AV} {xs : List AV} (hw : OwE tb h0 h sz y xs) (hs : ∀ i, h i ≠ Option.none → h' i ≠ Option.none) : ∀ i, Ab.nid y = some i → h' i ≠ Option.none := fun i e => hs i (hw.nid e).2.1
theorem Sub.some {h h' : Heap} (hs : Sub h h') : ∀ i, h i ≠ Option.none → h' i ≠ Option.none := fun i e e' => e (hs.none e')
end Go.Ab
namespace Go.Proofs.YtnhelgnmadbpgaaGreatDoor
open Go Go.Ab Go.Bf
def MyCase (h0 h : Heap) (ys : List AV) (x : AV) (c : CaseD) : Prop := ∃ f l, x = .agg [.s c.id, .s c.owner, .s c.state, f, l] ∧ OwE 84 h0 h 4 f (c.fields.map fieldA) ∧ OwE 119 h0 h 3 l (c.log.map hapA) ∧ apart f l ∧ ∀ y ∈ ys, apart f y ∧ apart l y
def OwnC (h0 h : Heap) (ys : List AV) (y1 : AV) (cs : List CaseD) (i0 : Nat) : Prop := ∃ xs, OwE 63 h0 h 5 y1 xs ∧ xs.length = cs.length ∧ (∀ j (h1 : j < xs.length) (h2 : j < cs.length), j ≠ i0 → xs[j] = caseA cs[j]) ∧ ∀ (h1 : i0 < xs.length) (h2 : i0 < cs.length), MyCase h0 h ys xs[i0] cs[i0]
def OwnS (h0 h : Heap) (x : AV) (s : StoreD) (i0 : Nat) : Prop := ∃ y1 y2 y3 y4, x = .agg ([.v (.int .i64 s.tick), y1, y2, y3, y4] ++ polC s.policy ++ [.v (.int .i64 s.version)]) ∧ OwnC h0 h [y1, y2, y3, y4] y1 s.cases i0 ∧
  OwE 105 h0 h 7 y2 (s.reviews.map revA) ∧ OwE 114 h0 h 3 y3 (s.notices.map notA) ∧ OwE 75 h0 h 2 y4 (s.roles.map roleA) ∧ apart y1 y2 ∧ apart y1 y3 ∧ apart y1 y4 ∧ apart y2 y3 ∧ apart y2 y4 ∧ apart y3 y4
theorem over_full {cs L : List AV} (h : L.length = cs.length) : Ab.over cs 0 L = L := by
  rw [Ab.over, List.take_zero, List.nil_append, Nat.zero_add, List.drop_of_length_le (by omega), List.append_nil]
theorem ownCase2_ok {h : Heap} {x : AV} {c : CaseD} (i i0 : Nat) (hb : RdC h x c) (hl : c.fields.length ≤ 1000000) (hl2 : c.log.length ≤ 1000000) : FnOK Tryz.prog 68 [x] h fun r h' =>
    ∃ f l, r = .agg [.s c.id, .s c.owner, .s c.state, f, l] ∧ Ab.Sub h h' ∧ f.cells = [f] ∧ l.cells = [l] ∧ (i ≠ i0 → f = fieldsA c.fields ∧ l = logA c.log) ∧ (i = i0 → OwE 84 h h' 4 f (c.fields.map fieldA) ∧ OwE 119 h h' 3 l (c.log.map hapA) ∧ apart f l) := by
  by_cases e : i = i0
  · exact (ownCase_ok hb hl hl2).mono fun r h' ⟨⟨f, l, e1, a, b, c⟩, d⟩ => ⟨f, l, e1, d, a.rd.cells, b.rd.cells, fun hh => (hh e).elim, fun _ => ⟨a, b, c⟩⟩
  · exact (ownCasep_ok hb hl hl2).mono fun r h' ⟨e1, e2⟩ => ⟨_, _, e1, by rw [e2]; exact .refl _, rfl, rfl, fun _ => ⟨rfl, rfl⟩, fun hh => (e hh).elim⟩
theorem MyCase.sub {h0 h h' : Heap} {ys : List AV} {x : AV} {c : CaseD} (hm : MyCase h0 h ys x c) (hs : Ab.Sub h h') : MyCase h0 h' ys x c := by
  obtain ⟨f, l, e, a, b, c, d⟩ := hm
  exact ⟨f, l, e, a.sub hs, b.sub hs, c, d⟩
theorem MyCase.keep {h0 h h' : Heap} {ys : List AV} {x : AV} {c : CaseD} (hm : MyCase h0 h ys x c) (hs : ∀ f l, x = .agg [.s c.id, .s c.owner, .s c.state, f, l] → (∀ y ∈ ys, apart f y ∧ apart l y) → ∀ i, (nid f = some i ∨ nid l = some i) → h' i = h i) : MyCase h0 h' ys x c := by
  obtain ⟨f, l, e, a, b, c, d⟩ := hm
  exact ⟨f, l, e, a.keep fun i hi => hs f l e d i (.inl hi), b.keep fun i hi => hs f l e d i (.inr hi), c, d⟩
set_option maxRecDepth 100000 in
theorem own_ok {h : Heap} {x : AV} {s : StoreD} (hb : RdS h x s) (i0 : Nat) (hf : Few s) (hp : polE 1 s.policy) : FnOK Tryz.prog 45 [x] h fun r h' => OwnS h h' r s i0 ∧ Ab.Sub h h' := by
  obtain ⟨y1, y2, y3, y4, rfl, ⟨xs0, hc, hn, hcs⟩, h2, h3, h4⟩ := hb
  have hpo := ownPolicy_ok s.policy 1 hp
  cases hpp : s.policy with
  | mk pid pset palg ptgt prules pkids pobls =>
  rw [hpp, polC_mk] at hpo
  have hcC : polC (.mk pid pset palg ptgt prules pkids pobls) = [.s pid, .v (.bool pset), .v (.int .i64 palg), tgtA ptgt, .sl (prules.map ruleA) .no, .sl (pkids.map polA) .no, oblsA pobls] := by simp [polC, kidsA_eq]
  have hfc := hf.cases
  refine FnOK.body hU hm Tryz.func45 rfl (by kernel_rfl) 41 rfl [.cell 2 34] rfl (Nat.le_of_ble_eq_true rfl) (fun hwf => ?_)
  simp -implicitDefEqProofs only [go_sem, hcC, List.cons_append, List.nil_append]
  intro i1 h1
  simp -implicitDefEqProofs only [go_sem]
  intro i2 h2'
  have n21 := ne_upd h2'
  have n2 := upd_none h2'
  simp -implicitDefEqProofs only [go_sem, upd_ne, n21, n21.symm]
  obtain ⟨H, eH⟩ : ∃ H, upd (upd h i1 (some (.obj [.v (.int .i64 s.tick), y1, y2, y3, y4, .s pid, .v (.bool pset), .v (.int .i64 palg), tgtA ptgt, .sl (prules.map ruleA) .no, .sl (pkids.map polA) .no, oblsA pobls, .v (.int .i64 s.version)] 34))) i2 (some (.obj [.v (.int .i64 0), .sl [] .full, .sl [] .full, .sl [] .full, .sl [] .full, .s [], .v (.bool false), .v (.int .i64 0), .sl [] .full, .sl [] .full, .sl [] .full, .sl [] .full, .v (.int .i64 0)] 34)) = H := ⟨_, rfl⟩
  have hH : Ab.Sub h H := by rw [← eH]; exact ((Sub.refl h).put h1 _).put n2 _
  have g1 : H i1 = some (.obj [.v (.int .i64 s.tick), y1, y2, y3, y4, .s pid, .v (.bool pset), .v (.int .i64 palg), tgtA ptgt, .sl (prules.map ruleA) .no, .sl (pkids.map polA) .no, oblsA pobls, .v (.int .i64 s.version)] 34) := by rw [← eH, upd_other _ _ n21.symm, upd_same]
  have g2 : H i2 = some (.obj [.v (.int .i64 0), .sl [] .full, .sl [] .full, .sl [] .full, .sl [] .full, .s [], .v (.bool false), .v (.int .i64 0), .sl [] .full, .sl [] .full, .sl [] .full, .sl [] .full, .v (.int .i64 0)] 34) := by rw [← eH, upd_same]
  rw [eH]
  clear eH
  refine (clCase_ok y1 xs0 H (hc.sub hH) (by omega)).mono fun z1 H1 ⟨w1, s1⟩ => ?_
  simp -implicitDefEqProofs only [go_sem, s1 _ _ g1, w1.rd.fit, w1.rd.cells]
  have v1 : ∀ b, OwE 63 h (upd H1 i1 b) 5 z1 xs0 := fun b => (w1.less hH).keep fun id e => upd_other _ _ (ne_of_none (w1.nid e).1 g1)
  have vs : ∀ b, Ab.Sub h (upd H1 i1 b) := fun b => (hH.trans s1).put h1 b
  have vz : ∀ b, upd H1 i1 b i2 = some (.obj [.v (.int .i64 0), .sl [] .full, .sl [] .full, .sl [] .full, .sl [] .full, .s [], .v (.bool false), .v (.int .i64 0), .sl [] .full, .sl [] .full, .sl [] .full, .sl [] .full, .v (.int .i64 0)] 34) := fun b => by rw [upd_other _ _ n21]; exact s1 _ _ g2
  have hz1 : ∀ id, nid z1 = some id → id ≠ i1 := fun id e => ne_of_none (w1.nid e).1 g1
  have hz2 : ∀ id, nid z1 = some id → id ≠ i2 := fun id e => ne_of_none (w1.nid e).1 g2
  obtain ⟨H2, eH2⟩ : ∃ H2, upd H1 i1 (some (.obj [.v (.int .i64 s.tick), z1, y2, y3, y4, .s pid, .v (.bool pset), .v (.int .i64 palg), tgtA ptgt, .sl (prules.map ruleA) .no, .sl (pkids.map polA) .no, oblsA pobls, .v (.int .i64 s.version)] 34)) = H2 := ⟨_, rfl⟩
  replace v1 := v1 (some (.obj [.v (.int .i64 s.tick), z1, y2, y3, y4, .s pid, .v (.bool pset), .v (.int .i64 palg), tgtA ptgt, .sl (prules.map ruleA) .no, .sl (pkids.map polA) .no, oblsA pobls, .v (.int .i64 s.version)] 34))
  replace vs := vs (some (.obj [.v (.int .i64 s.tick), z1, y2, y3, y4, .s pid, .v (.bool pset), .v (.int .i64 palg), tgtA ptgt, .sl (prules.map ruleA) .no, .sl (pkids.map polA) .no, oblsA pobls, .v (.int .i64 s.version)] 34))
  replace vz := vz (some (.obj [.v (.int .i64 s.tick), z1, y2, y3, y4, .s pid, .v (.bool pset), .v (.int .i64 palg), tgtA ptgt, .sl (prules.map ruleA) .no, .sl (pkids.map polA) .no, oblsA pobls, .v (.int .i64 s.version)] 34))
  have q1 : H2 i1 = some (.obj [.v (.int .i64 s.tick), z1, y2, y3, y4, .s pid, .v (.bool pset), .v (.int .i64 palg), tgtA ptgt, .sl (prules.map ruleA) .no, .sl (pkids.map polA) .no, oblsA pobls, .v (.int .i64 s.version)] 34) := by rw [← eH2, upd_same]
  rw [eH2] at v1 vs vz
  rw [eH2]
  clear eH2
  simp -implicitDefEqProofs only [go_sem, q1, v1.rd.len, hn]
  refine .intro (fun m ρ G => ∃ (i : Nat) (xs : List AV), G i1 = some (.obj [.v (.int .i64 s.tick), z1, y2, y3, y4, .s pid, .v (.bool pset), .v (.int .i64 palg), tgtA ptgt, .sl (prules.map ruleA) .no, .sl (pkids.map polA) .no, oblsA pobls, .v (.int .i64 s.version)] 34) ∧ G i2 = some (.obj [.v (.int .i64 0), .sl [] .full, .sl [] .full, .sl [] .full, .sl [] .full, .s [], .v (.bool false), .v (.int .i64 0), .sl [] .full, .sl [] .full, .sl [] .full, .sl [] .full, .v (.int .i64 0)] 34) ∧ Ab.Sub h G ∧ OwE 63 h G 5 z1 xs ∧ xs.length = s.cases.length ∧ (∀ j (h1 : j < xs.length) (h2 : j < s.cases.length), j < i → j ≠ i0 → xs[j] = caseA s.cases[j]) ∧ (∀ (h1 : i0 < xs.length) (h2 : i0 < s.cases.length), i0 < i → MyCase h G [z1] xs[i0] s.cases[i0]) ∧ (∀ j (h1 : j < xs.length) (h2 : j < s.cases.length), i ≤ j → RdC h xs[j] s.cases[j]) ∧ i ≤ s.cases.length ∧ m = s.cases.length - i ∧
    lk ρ 1 = some (.ptr i1 0) ∧ lk ρ 2 = some (.ptr i2 0) ∧ lk ρ 10 = some z1 ∧ lk ρ 11 = some (.v (.int .i64 s.cases.length)) ∧ lk ρ 12 = some (.v (.int .i64 i))) s.cases.length ?_ ?_
  · refine ⟨0, xs0, q1, vz, vs, v1, hn, fun j _ _ hj => (by omega), fun _ _ hj => (by omega), fun j a b _ => hcs j a b, by omega, rfl, ?_, ?_, ?_, ?_, ?_⟩ <;> simp -implicitDefEqProofs only [go_sem]
  · rintro m ρ G ⟨i, xs, q1, vz, vs, v1, hn, hlo, hmy, hhi, hi, rfl, r1, r2, r10, r11, r12⟩
    simp -implicitDefEqProofs only [go_sem, r1, r2, r10, r11, r12]
    refine .intro (fun e => ?_) (fun e => ?_)
    · have hlt : i < s.cases.length := Int.ofNat_lt.1 (of_decide_eq_true e)
      have hltx : i < xs.length := by omega
      have w1 : IntKind.i64.wrap ((i : Int) + 1) = ((i + 1 : Nat) : Int) := by rw [wr64 _ (by omega)]; omega
      obtain ⟨f, l, ex, hfl, hlg⟩ := hhi i hltx hlt (Nat.le_refl _)
      have hff := hf.fields _ (List.getElem_mem hlt)
      have hfg := hf.log _ (List.getElem_mem hlt)
      simp -implicitDefEqProofs only [go_sem, r1, r2, r10, r11, r12]
      refine v1.rd.idx (e := 63) i rfl hltx uCase (by decide) fun p hp1 => ?_
      have hld := hp1.all (U := U) (ty := 63) (by simp only [go_sem]) (by rw [uCase, ex]; rfl) (by simp only [go_sem]; rw [ex]; rfl)
      simp -implicitDefEqProofs only [go_sem, r1, r2, r10, r11, r12, hld, ex]
      intro i4 h4
      have n41 : i4 ≠ i1 := ne_of_none h4 q1
      simp -implicitDefEqProofs only [go_sem, r1, r2, r10, r11, r12]
      obtain ⟨G4, eG4⟩ : ∃ G4, upd G i4 (some (.obj [.s s.cases[i].id, .s s.cases[i].owner, .s s.cases[i].state, f, l] 63)) = G4 := ⟨_, rfl⟩
      rw [eG4]
      have p1 : G4 i1 = some (.obj [.v (.int .i64 s.tick), z1, y2, y3, y4, .s pid, .v (.bool pset), .v (.int .i64 palg), tgtA ptgt, .sl (prules.map ruleA) .no, .sl (pkids.map polA) .no, oblsA pobls, .v (.int .i64 s.version)] 34) := by rw [← eG4, upd_other _ _ n41.symm]; exact q1
      have p4 : G4 i4 = some (.obj [.s s.cases[i].id, .s s.cases[i].owner, .s s.cases[i].state, f, l] 63) := by rw [← eG4, upd_same]
      have sG : Ab.Sub G G4 := by rw [← eG4]; exact .upd_new h4
      refine .calls (hm2 i1 (.obj [.v (.int .i64 s.tick), z1, y2, y3, y4, .s pid, .v (.bool pset), .v (.int .i64 palg), tgtA ptgt, .sl (prules.map ruleA) .no, .sl (pkids.map polA) .no, oblsA pobls, .v (.int .i64 s.version)] 34) i4 (.obj [.s s.cases[i].id, .s s.cases[i].owner, .s s.cases[i].state, f, l] 63)) [0, 1, 2, 3, 4, 5, 6] (.hm2 p1 p4) (by kernel_rfl) rfl ?_
      simp -implicitDefEqProofs only [go_sem, r1, hm2_fst _ _ n41.symm, hm2_snd]
      refine (ownCase2_ok i i0 (show RdC G4 (.agg [.s s.cases[i].id, .s s.cases[i].owner, .s s.cases[i].state, f, l]) s.cases[i] from ⟨f, l, rfl, hfl.sub (vs.trans sG), hlg.sub (vs.trans sG)⟩) hff hfg).mono fun r G5 ⟨f', l', er, s5, cf, cl, hne, heq⟩ => ?_
      subst er
      have p1' := s5 _ _ p1
      have p4' := s5 _ _ p4
      refine ⟨.hm2 p1' p4', ?_⟩
      simp -implicitDefEqProofs only [go_sem, r1, hm2_fst _ _ n41.symm, hm2_snd]
      obtain ⟨id1, hg1, o1⟩ := ((v1.sub sG).sub s5).ow (by intro e; rw [e] at hltx; cases hltx)
      have t1 : id1 ≠ i1 := ow_ne o1 p1' (by decide)
      have t2 : id1 ≠ i2 := hz2 id1 o1.nid
      have t3 : G4 id1 ≠ none := fun e => (v1.nid o1.nid).2.1 (sG.none e)
      have o1' := o1
      obtain ⟨cap, rest, ey, hid, hr, hcap, hsz⟩ := o1'
      have hbd : i * 5 + 5 ≤ (flatA xs ++ rest).length := by
        rw [List.length_append, flatA_length hsz]; omega
      have hx5 : xs[i].cells.length = 5 := hsz _ (List.getElem_mem hltx)
      have e2 : List.take (i * 5) (flatA xs ++ rest) ++ [.s s.cases[i].id, .s s.cases[i].owner, .s s.cases[i].state, f', l'] ++ List.drop (i * 5 + 5) (flatA xs ++ rest) = flatA (xs.set i (.agg [.s s.cases[i].id, .s s.cases[i].owner, .s s.cases[i].state, f', l'])) ++ rest := by
        refine (put_flat hsz i hltx 0 [.s s.cases[i].id, .s s.cases[i].owner, .s s.cases[i].state, f', l'] (Nat.le_of_ble_eq_true rfl)).trans ?_
        rw [over_full (by rw [hx5]; rfl)]
      refine o1.idx (U := U) (e := 63) i rfl hltx uCase (by decide) ?_
      simp -implicitDefEqProofs only [go_sem, r1, hm2_fst _ _ n41.symm, hm2_snd, hid]
      rw [e2]
      have t4 : id1 ≠ i4 := fun e => (v1.nid o1.nid).2.1 (by rw [e]; exact h4)
      refine ⟨by omega, .hm2 (by rw [upd_other _ _ t1.symm]; exact p1') (by rw [upd_other _ _ t4.symm]; exact p4'), ?_⟩
      simp -implicitDefEqProofs only [go_sem, r1, r2, r10, r11, r12, w1]
      have ho : ∀ b k, k ≠ id1 → upd G5 id1 b k = G5 k := fun b k hk => upd_other _ _ hk
      have hs6 : ∀ b, Ab.Sub h (upd G5 id1 b) := fun b => ((vs.trans sG).trans s5).put hg1 b
      refine ⟨_, ?_, i + 1, xs.set i (.agg [.s s.cases[i].id, .s s.cases[i].owner, .s s.cases[i].state, f', l']), (ho _ _ t1.symm).trans p1', (ho _ _ t2.symm).trans (s5 _ _ (sG _ _ vz)), hs6 _, .inr ⟨id1, hg1, cap, rest, by rw [List.length_set]; exact ey, upd_same .., by rw [List.length_set]; exact hr, by rw [List.length_set]; exact hcap, ?_⟩, by rw [List.length_set]; exact hn, fun j a b hj hj0 => ?_, fun a b hj => ?_, fun j a b hj => ?_, by omega, rfl, ?_, ?_, ?_, ?_, ?_⟩
      · omega
      · intro z hz
        rcases List.mem_or_eq_of_mem_set hz with hz | rfl
        · exact hsz z hz
        · rfl
      · have a' : j < xs.length := by rw [List.length_set] at a; exact a
        by_cases hji : j = i
        · subst hji
          obtain ⟨ef, el⟩ := hne hj0
          rw [List.getElem_set_self, ef, el]; rfl
        · rw [List.getElem_set_ne (Ne.symm hji)]
          exact hlo j a' b (by omega) hj0
      · have a' : i0 < xs.length := by rw [List.length_set] at a; exact a
        by_cases hji : i = i0
        · subst hji
          obtain ⟨of, ol, hap⟩ := heq rfl
          have kf : ∀ k, G4 k = none → upd G5 id1 (some (.obj (flatA (xs.set i (.agg [.s s.cases[i].id, .s s.cases[i].owner, .s s.cases[i].state, f', l'])) ++ rest) 63)) k = G5 k := fun k hk => upd_other _ _ fun e => t3 (by rw [← e]; exact hk)
          rw [List.getElem_set_self]
          refine ⟨f', l', rfl, (of.less (vs.trans sG)).keep fun k hk => kf k (of.nid hk).1, (ol.less (vs.trans sG)).keep fun k hk => kf k (ol.nid hk).1, hap, fun y hy => ?_⟩
          rw [List.mem_singleton.1 hy]
          have hz1 : ∀ k, nid z1 = some k → G4 k ≠ none := (v1.sub sG).there fun k hk => hk
          exact ⟨(apart_of of hz1).symm, (apart_of ol hz1).symm⟩
        · rw [List.getElem_set_ne hji]
          have hm := hmy a' b (by omega)
          refine MyCase.keep (h := G5) ((hm.sub sG).sub s5) fun f l ex hap k hk => ?_
          refine upd_other _ _ fun e => ?_
          subst e
          rcases hk with hk | hk
          · exact (hap z1 (List.mem_singleton.2 rfl)).1 _ hk o1.nid
          · exact (hap z1 (List.mem_singleton.2 rfl)).2 _ hk o1.nid
      · have a' : j < xs.length := by rw [List.length_set] at a; exact a
        rw [List.getElem_set_ne (by omega)]
        exact hhi j a' b (by omega)
      all_goals simp -implicitDefEqProofs only [go_sem, r1, r2, r10, r11, r12, w1]
    · have hge : i = s.cases.length := by have := of_decide_eq_false e; omega
      simp -implicitDefEqProofs only [go_sem, r1, r2, r10, r11, r12]
      refine .stage (hm1 i1 (.obj [.v (.int .i64 s.tick), z1, y2, y3, y4, .s pid, .v (.bool pset), .v (.int .i64 palg), tgtA ptgt, .sl (prules.map ruleA) .no, .sl (pkids.map polA) .no, oblsA pobls, .v (.int .i64 s.version)] 34)) [0, 1, 3, 4, 6, 7, 2, 9, 5, 8] [10, 11, 12, 13, 14] (.hm1 q1) (by kernel_rfl) ?_
      simp -implicitDefEqProofs only [go_sem, r1, hm1_same]
      refine (clReview_ok y2 _ G (h2.sub vs) (by rw [List.length_map]; exact hf.reviews)).mono fun z2 G1 ⟨o2, s1⟩ => ?_
      refine ⟨.hm1 (s1 _ _ q1), ?_⟩
      simp -implicitDefEqProofs only [go_sem, r1, hm1_same]
      refine (clNotice_ok y3 _ G1 ((h3.sub vs).sub s1) (by rw [List.length_map]; exact hf.notices)).mono fun z3 G2 ⟨o3, s2⟩ => ?_
      refine ⟨.hm1 (s2 _ _ (s1 _ _ q1)), ?_⟩
      simp -implicitDefEqProofs only [go_sem, r1, hm1_same]
      refine (clRole_ok y4 _ G2 (((h4.sub vs).sub s1).sub s2) (by rw [List.length_map]; exact hf.roles)).mono fun z4 G3 ⟨o4, s3⟩ => ?_
      have s03 : Ab.Sub G G3 := s1.trans (s2.trans s3)
      have q1' := s03 _ _ q1
      have q2' := s03 _ _ vz
      refine ⟨.hm1 q1', noHeap, (fun _ _ e => by cases e), ?_⟩
      simp -implicitDefEqProofs only [go_sem, r1, q1', o2.rd.fit, o2.rd.cells, o3.rd.fit, o3.rd.cells, o4.rd.fit, o4.rd.cells]
      refine ⟨fun _ _ e => (by cases e), fun _ _ e => (by cases e), fun _ _ e => (by cases e), ?_⟩
      refine (show FnOK Tryz.prog 90 [_] _ _ from hpo _).pthen ?_
      have vz' : ∀ b, upd G3 i1 b i2 = some (.obj [.v (.int .i64 0), .sl [] .full, .sl [] .full, .sl [] .full, .sl [] .full, .s [], .v (.bool false), .v (.int .i64 0), .sl [] .full, .sl [] .full, .sl [] .full, .sl [] .full, .v (.int .i64 0)] 34) := fun b => by rw [upd_other _ _ n21]; exact q2'
      simp -implicitDefEqProofs only [go_sem, r1, r2, vz']
      have k1 : ∀ {tb : TypeId} {z : AV} {xs : List AV} {n : Nat} {g : Heap}, OwE tb g G3 n z xs → Ab.Sub h g → (∀ id, nid z = some id → id ≠ i1 ∧ id ≠ i2) → ∀ a b, OwE tb h (upd (upd G3 i1 a) i2 b) n z xs := fun w hg hn a b => (w.less hg).keep fun id e => by
        rw [upd_other _ _ (hn id e).2, upd_other _ _ (hn id e).1]
      have new : ∀ {tb : TypeId} {z : AV} {xs : List AV} {n : Nat} {g : Heap}, OwE tb g G3 n z xs → Ab.Sub G g → ∀ id, nid z = some id → id ≠ i1 ∧ id ≠ i2 := fun w hg id e => ⟨ne_of_none (w.nid e).1 (hg _ _ q1), ne_of_none (w.nid e).1 (hg _ _ vz)⟩
      have n2' := new (o2.sub (s2.trans s3)) (.refl _)
      have n3' := new (o3.sub s3) s1
      have n4' := new o4 (s1.trans s2)
      have n1' : ∀ id, nid z1 = some id → id ≠ i1 ∧ id ≠ i2 := fun id e => ⟨hz1 id e, hz2 id e⟩
      have aG : ∀ k, nid z1 = some k → G k ≠ none := v1.there fun k hk => hk
      refine .mk _ (.refl _) (.refl _) ⟨⟨z1, z2, z3, z4, by rw [hpp, hcC]; rfl, ⟨xs, k1 (v1.sub s03) (.refl _) n1' _ _, hn, fun j a b hj => hlo j a b (by omega) hj, fun a b => ?_⟩, k1 (o2.sub (s2.trans s3)) vs n2' _ _, k1 (o3.sub s3) (vs.trans s1) n3' _ _, k1 o4 (vs.trans (s1.trans s2)) n4' _ _, ?_, ?_, ?_, ?_, ?_, ?_⟩, ((vs.trans s03).put h1 _).put n2 _⟩
      · have hm := (hmy a b (by omega)).sub s03
        obtain ⟨f, l, ex, of, ol, hap, hy⟩ := hm
        obtain ⟨af, al⟩ := hy z1 (List.mem_singleton.2 rfl)
        have kf : ∀ k, nid f = some k → k ≠ i1 ∧ k ≠ i2 := fun k hk => ⟨ow_ne (of.nid hk).2.2 q1' (by decide), ow_ne (of.nid hk).2.2 q2' (by decide)⟩
        have kl : ∀ k, nid l = some k → k ≠ i1 ∧ k ≠ i2 := fun k hk => ⟨ow_ne (ol.nid hk).2.2 q1' (by decide), ow_ne (ol.nid hk).2.2 q2' (by decide)⟩
        obtain ⟨f0, l0, ex0, of0, ol0, _⟩ := hmy a b (by omega)
        obtain ⟨rfl, rfl⟩ : f0 = f ∧ l0 = l := by
          rw [ex0] at ex
          simp only [AV.agg.injEq, List.cons.injEq, true_and, and_true] at ex
          exact ex
        have gf : ∀ k, nid f0 = some k → G k ≠ none := of0.there fun k hk => hk
        have gl : ∀ k, nid l0 = some k → G k ≠ none := ol0.there fun k hk => hk
        refine ⟨f0, l0, ex, k1 of (.refl _) kf _ _, k1 ol (.refl _) kl _ _, hap, fun y hy => ?_⟩
        simp only [List.mem_cons, List.not_mem_nil, or_false] at hy
        rcases hy with rfl | rfl | rfl | rfl
        · exact ⟨af, al⟩
        · exact ⟨apart_of o2 gf, apart_of o2 gl⟩
        · exact ⟨apart_of o3 fun k hk => s1.some k (gf k hk), apart_of o3 fun k hk => s1.some k (gl k hk)⟩
        · exact ⟨apart_of o4 fun k hk => (s1.trans s2).some k (gf k hk), apart_of o4 fun k hk => (s1.trans s2).some k (gl k hk)⟩
      · exact apart_of o2 aG
      · exact apart_of o3 fun k hk => s1.some k (aG k hk)
      · exact apart_of o4 fun k hk => (s1.trans s2).some k (aG k hk)
      · exact apart_of o3 (o2.there fun k hk => hk)
      · exact apart_of o4 ((o2.sub s2).there fun k hk => hk)
      · exact apart_of o4 (o3.there fun k hk => hk)
end Go.Proofs.YtnhelgnmadbpgaaGreatDoor
