/- The law ParseCut: pack 4 of its texts. -/
import Derived.Test.YtdcchpbncckhlaaDoorProg
import Derived.KernelRfl
import Derived.Shelf.Strings.OnBuilder
import Derived.Shelf.Small.Wraps
import Derived.Shelf.Strconv.Itoa3
import Derived.Lib.ItoaLen
import Derived.Shelf.Small.Strs
import Derived.Shelf.Strconv.AtoiAll
import Derived.Shelf.Strconv.ErrVarAll
import Derived.Shelf.Strings.Search1
import Derived.WalkKit
import Derived.BigCall
import Derived.Test.YtdcchpbncckhlaaDoorPk1
import Derived.Test.YtdcchpbncckhlaaDoorPk2
import Derived.Test.YtdcchpbncckhlaaDoorPk3
namespace Go.Proofs.YtdcchpbncckhlaaDoor
open Go Go.Ab
def tyRows : List TI := [
  ⟨.other, 0, 0, default, none⟩,
  ⟨.other, 1, 8, .v .nilFunc, none⟩,
  ⟨.int .i64, 1, 8, .v (.int .i64 0), some (0, [.int .i64])⟩,
  ⟨.int .i64, 1, 8, .v (.int .i64 0), some (0, [.int .i64])⟩,
  ⟨.bool, 1, 1, .v (.bool false), some (0, [.bool])⟩,
  ⟨.int .u8, 1, 1, .v (.int .u8 0), some (0, [.int .u8])⟩,
  ⟨.int .u8, 1, 1, .v (.int .u8 0), some (0, [.int .u8])⟩,
  ⟨.strct [(0, 2), (1, 3), (2, 4), (3, 6)], 4, 24, .agg [.v (.int .i64 0), .v (.int .i64 0), .v (.bool false), .v (.int .u8 0)], none⟩,
  ⟨.strct [(0, 2), (1, 3), (2, 4), (3, 6)], 4, 24, .agg [.v (.int .i64 0), .v (.int .i64 0), .v (.bool false), .v (.int .u8 0)], none⟩,
  ⟨.str, 1, 16, .s [], some (0, [.str])⟩,
  ⟨.str, 1, 16, .s [], some (0, [.str])⟩,
  ⟨.str, 1, 16, .s [], some (0, [.str])⟩,
  ⟨.int .u64, 1, 8, .v (.int .u64 0), some (0, [.int .u64])⟩,
  ⟨.strct [(0, 9), (1, 12)], 2, 24, .agg [.s [], .v (.int .u64 0)], none⟩,
  ⟨.strct [(0, 9), (1, 12)], 2, 24, .agg [.s [], .v (.int .u64 0)], none⟩,
  ⟨.ptr 208, 1, 8, .v (.pointer none), none⟩,
  ⟨.ptr 211, 1, 8, .v (.pointer none), none⟩,
  ⟨.ptr 219, 1, 8, .v (.pointer none), none⟩,
  ⟨.strct [(0, 17)], 1, 8, .agg [.v (.pointer none)], none⟩,
  ⟨.strct [(0, 17)], 1, 8, .agg [.v (.pointer none)], none⟩,
  ⟨.iface, 1, 16, .v .nilIface, none⟩,
  ⟨.int .i32, 1, 4, .v (.int .i32 0), some (0, [.int .i32])⟩,
  ⟨.strct [(0, 3), (1, 9), (2, 4)], 3, 32, .agg [.v (.int .i64 0), .s [], .v (.bool false)], some (1, [.int .i64, .str, .bool])⟩,
  ⟨.strct [(0, 3), (1, 9), (2, 4)], 3, 32, .agg [.v (.int .i64 0), .s [], .v (.bool false)], some (1, [.int .i64, .str, .bool])⟩,
  ⟨.strct [(0, 3), (1, 3), (2, 9)], 3, 32, .agg [.v (.int .i64 0), .v (.int .i64 0), .s []], some (1, [.int .i64, .int .i64, .str])⟩,
  ⟨.strct [(0, 3), (1, 3), (2, 9)], 3, 32, .agg [.v (.int .i64 0), .v (.int .i64 0), .s []], some (1, [.int .i64, .int .i64, .str])⟩,
  ⟨.strct [(0, 23), (3, 3), (4, 25)], 7, 72, .agg [.v (.int .i64 0), .s [], .v (.bool false), .v (.int .i64 0), .v (.int .i64 0), .v (.int .i64 0), .s []], some (2, [.int .i64, .str, .bool, .int .i64, .int .i64, .int .i64, .str])⟩,
  ⟨.strct [(0, 23), (3, 3), (4, 25)], 7, 72, .agg [.v (.int .i64 0), .s [], .v (.bool false), .v (.int .i64 0), .v (.int .i64 0), .v (.int .i64 0), .s []], some (2, [.int .i64, .str, .bool, .int .i64, .int .i64, .int .i64, .str])⟩,
  ⟨.slice 27, 1, 24, .sl [] .full, none⟩,
  ⟨.slice 28, 1, 24, .sl [] .full, none⟩,
  ⟨.slice 29, 1, 24, .sl [] .full, none⟩,
  ⟨.slice 29, 1, 24, .sl [] .full, none⟩,
  ⟨.strct [(0, 3), (1, 25), (4, 23)], 7, 72, .agg [.v (.int .i64 0), .v (.int .i64 0), .v (.int .i64 0), .s [], .v (.int .i64 0), .s [], .v (.bool false)], some (2, [.int .i64, .int .i64, .int .i64, .str, .int .i64, .str, .bool])⟩,
  ⟨.strct [(0, 3), (1, 25), (4, 23)], 7, 72, .agg [.v (.int .i64 0), .v (.int .i64 0), .v (.int .i64 0), .s [], .v (.int .i64 0), .s [], .v (.bool false)], some (2, [.int .i64, .int .i64, .int .i64, .str, .int .i64, .str, .bool])⟩,
  ⟨.slice 33, 1, 24, .sl [] .full, none⟩,
  ⟨.slice 40, 1, 24, .sl [] .full, none⟩,
  ⟨.strct [(0, 9), (1, 4), (2, 31), (3, 34), (4, 35)], 5, 96, .agg [.s [], .v (.bool false), .sl [] .full, .sl [] .full, .sl [] .full], none⟩,
  ⟨.strct [(0, 9), (1, 4), (2, 31), (3, 34), (4, 35)], 5, 96, .agg [.s [], .v (.bool false), .sl [] .full, .sl [] .full, .sl [] .full], none⟩,
  ⟨.slice 37, 1, 24, .sl [] .full, none⟩,
  ⟨.strct [(0, 3), (1, 3), (2, 9)], 3, 32, .agg [.v (.int .i64 0), .v (.int .i64 0), .s []], some (1, [.int .i64, .int .i64, .str])⟩,
  ⟨.strct [(0, 3), (1, 3), (2, 9)], 3, 32, .agg [.v (.int .i64 0), .v (.int .i64 0), .s []], some (1, [.int .i64, .int .i64, .str])⟩,
  ⟨.slice 43, 1, 24, .sl [] .full, none⟩,
  ⟨.strct [(0, 9), (1, 4), (2, 3), (3, 31), (4, 38), (5, 41), (6, 35)], 7, 128, .agg [.s [], .v (.bool false), .v (.int .i64 0), .sl [] .full, .sl [] .full, .sl [] .full, .sl [] .full], none⟩,
  ⟨.strct [(0, 9), (1, 4), (2, 3), (3, 31), (4, 38), (5, 41), (6, 35)], 7, 128, .agg [.s [], .v (.bool false), .v (.int .i64 0), .sl [] .full, .sl [] .full, .sl [] .full, .sl [] .full], none⟩,
  ⟨.other, 1, 8, .v .nilFunc, none⟩,
  ⟨.other, 1, 8, .v .nilFunc, none⟩,
  ⟨.other, 1, 8, .v .nilFunc, none⟩,
  ⟨.other, 1, 8, .v .nilFunc, none⟩,
  ⟨.other, 1, 8, .v .nilFunc, none⟩,
  ⟨.other, 1, 8, .v .nilFunc, none⟩,
  ⟨.other, 1, 8, .v .nilFunc, none⟩,
  ⟨.other, 1, 8, .v .nilFunc, none⟩,
  ⟨.other, 1, 8, .v .nilFunc, none⟩,
  ⟨.other, 1, 8, .v .nilFunc, none⟩,
  ⟨.int .i64, 1, 8, .v (.int .i64 0), some (0, [.int .i64])⟩,
  ⟨.other, 1, 8, .v .nilFunc, none⟩,
  ⟨.other, 1, 8, .v .nilFunc, none⟩,
  ⟨.other, 1, 8, .v .nilFunc, none⟩,
  ⟨.other, 0, 0, default, none⟩,
  ⟨.other, 1, 8, .v .nilFunc, none⟩,
  ⟨.other, 1, 8, .v .nilFunc, none⟩,
  ⟨.other, 1, 8, .v .nilFunc, none⟩,
  ⟨.slice 5, 1, 24, .sl [] .full, none⟩,
  ⟨.other, 1, 8, .v .nilFunc, none⟩,
  ⟨.slice 9, 1, 24, .sl [] .full, none⟩,
  ⟨.other, 1, 8, .v .nilFunc, none⟩,
  ⟨.other, 1, 8, .v .nilFunc, none⟩,
  ⟨.slice 4, 1, 24, .sl [] .full, none⟩,
  ⟨.other, 1, 8, .v .nilFunc, none⟩,
  ⟨.ptr 71, 1, 8, .v (.pointer none), none⟩,
  ⟨.strct [(0, 3)], 1, 8, .agg [.v (.int .i64 0)], some (1, [.int .i64])⟩,
  ⟨.strct [(0, 3)], 1, 8, .agg [.v (.int .i64 0)], some (1, [.int .i64])⟩,
  ⟨.other, 1, 8, .v .nilFunc, none⟩,
  ⟨.other, 1, 8, .v .nilFunc, none⟩,
  ⟨.other, 1, 8, .v .nilFunc, none⟩,
  ⟨.other, 1, 8, .v .nilFunc, none⟩,
  ⟨.other, 1, 8, .v .nilFunc, none⟩,
  ⟨.other, 0, 0, default, none⟩,
  ⟨.other, 1, 8, .v .nilFunc, none⟩,
  ⟨.other, 1, 8, .v .nilFunc, none⟩,
  ⟨.other, 1, 8, .v .nilFunc, none⟩,
  ⟨.other, 1, 8, .v .nilFunc, none⟩,
  ⟨.other, 1, 8, .v .nilFunc, none⟩,
  ⟨.other, 1, 8, .v .nilFunc, none⟩,
  ⟨.ptr 87, 1, 8, .v (.pointer none), none⟩,
  ⟨.map 9 158, 1, 8, .v (.map none), none⟩,
  ⟨.strct [(0, 85), (1, 3)], 2, 16, .agg [.v (.map none), .v (.int .i64 0)], none⟩,
  ⟨.strct [(0, 85), (1, 3)], 2, 16, .agg [.v (.map none), .v (.int .i64 0)], none⟩,
  ⟨.other, 1, 8, .v .nilFunc, none⟩,
  ⟨.slice 97, 1, 24, .sl [] .full, none⟩,
  ⟨.other, 0, 0, default, none⟩,
  ⟨.other, 1, 8, .v .nilFunc, none⟩,
  ⟨.ptr 94, 1, 8, .v (.pointer none), none⟩,
  ⟨.strct [(0, 89), (1, 3), (2, 3), (3, 54), (4, 3)], 5, 56, .agg [.sl [] .full, .v (.int .i64 0), .v (.int .i64 0), .v (.int .i64 0), .v (.int .i64 0)], none⟩,
  ⟨.strct [(0, 89), (1, 3), (2, 3), (3, 54), (4, 3)], 5, 56, .agg [.sl [] .full, .v (.int .i64 0), .v (.int .i64 0), .v (.int .i64 0), .v (.int .i64 0)], none⟩,
  ⟨.other, 1, 8, .v .nilFunc, none⟩,
  ⟨.strct [(0, 3), (1, 3), (2, 3), (3, 9)], 4, 40, .agg [.v (.int .i64 0), .v (.int .i64 0), .v (.int .i64 0), .s []], some (1, [.int .i64, .int .i64, .int .i64, .str])⟩,
  ⟨.strct [(0, 3), (1, 3), (2, 3), (3, 9)], 4, 40, .agg [.v (.int .i64 0), .v (.int .i64 0), .v (.int .i64 0), .s []], some (1, [.int .i64, .int .i64, .int .i64, .str])⟩,
  ⟨.other, 1, 8, .v .nilFunc, none⟩,
  ⟨.other, 1, 8, .v .nilFunc, none⟩,
  ⟨.other, 1, 8, .v .nilFunc, none⟩,
  ⟨.other, 1, 8, .v .nilFunc, none⟩,
  ⟨.other, 1, 8, .v .nilFunc, none⟩,
  ⟨.other, 1, 8, .v .nilFunc, none⟩,
  ⟨.other, 1, 8, .v .nilFunc, none⟩,
  ⟨.other, 1, 8, .v .nilFunc, none⟩,
  ⟨.other, 1, 8, .v .nilFunc, none⟩,
  ⟨.ptr 109, 1, 8, .v (.pointer none), none⟩,
  ⟨.strct [(0, 64), (1, 3)], 2, 32, .agg [.sl [] .full, .v (.int .i64 0)], none⟩,
  ⟨.strct [(0, 64), (1, 3)], 2, 32, .agg [.sl [] .full, .v (.int .i64 0)], none⟩,
  ⟨.other, 1, 8, .v .nilFunc, none⟩,
  ⟨.other, 0, 0, default, none⟩,
  ⟨.other, 1, 8, .v .nilFunc, none⟩,
  ⟨.other, 1, 8, .v .nilFunc, none⟩,
  ⟨.ptr 116, 1, 8, .v (.pointer none), none⟩,
  ⟨.strct [(0, 114), (1, 62)], 2, 32, .agg [.v (.pointer none), .sl [] .full], none⟩,
  ⟨.strct [(0, 114), (1, 62)], 2, 32, .agg [.v (.pointer none), .sl [] .full], none⟩,
  ⟨.other, 1, 8, .v .nilFunc, none⟩,
  ⟨.iface, 1, 16, .v .nilIface, none⟩,
  ⟨.iface, 1, 16, .v .nilIface, none⟩,
  ⟨.other, 0, 0, default, none⟩,
  ⟨.other, 1, 8, .v .nilFunc, none⟩,
  ⟨.other, 1, 8, .v .nilFunc, none⟩,
  ⟨.other, 1, 8, .v .nilFunc, none⟩,
  ⟨.other, 1, 8, .v .nilFunc, none⟩,
  ⟨.other, 0, 0, default, none⟩,
  ⟨.other, 1, 8, .v .nilFunc, none⟩,
  ⟨.other, 1, 8, .v .nilFunc, none⟩,
  ⟨.other, 1, 8, .v .nilFunc, none⟩,
  ⟨.other, 1, 8, .v .nilFunc, none⟩,
  ⟨.other, 1, 8, .v .nilFunc, none⟩,
  ⟨.other, 1, 8, .v .nilFunc, none⟩,
  ⟨.other, 1, 8, .v .nilFunc, none⟩,
  ⟨.other, 1, 8, .v .nilFunc, none⟩,
  ⟨.int .u64, 1, 8, .v (.int .u64 0), some (0, [.int .u64])⟩,
  ⟨.other, 1, 8, .v .nilFunc, none⟩,
  ⟨.int .u64, 1, 8, .v (.int .u64 0), some (0, [.int .u64])⟩,
  ⟨.other, 1, 8, .v .nilFunc, none⟩,
  ⟨.other, 1, 8, .v .nilFunc, none⟩,
  ⟨.other, 1, 8, .v .nilFunc, none⟩,
  ⟨.other, 1, 8, .v .nilFunc, none⟩,
  ⟨.other, 1, 8, .v .nilFunc, none⟩,
  ⟨.ptr 5, 1, 8, .v (.pointer none), none⟩,
  ⟨.other, 1, 8, .v .nilFunc, none⟩,
  ⟨.other, 1, 8, .v .nilFunc, none⟩,
  ⟨.other, 1, 8, .v .nilFunc, none⟩,
  ⟨.other, 0, 0, default, none⟩,
  ⟨.other, 1, 8, .v .nilFunc, none⟩,
  ⟨.other, 1, 8, .v .nilFunc, none⟩,
  ⟨.other, 1, 8, .v .nilFunc, none⟩,
  ⟨.other, 1, 8, .v .nilFunc, none⟩,
  ⟨.other, 1, 8, .v .nilFunc, none⟩,
  ⟨.other, 1, 8, .v .nilFunc, none⟩,
  ⟨.other, 1, 8, .v .nilFunc, none⟩,
  ⟨.other, 1, 8, .v .nilFunc, none⟩,
  ⟨.other, 1, 8, .v (.pointer none), none⟩,
  ⟨.other, 1, 8, .v .nilFunc, none⟩,
  ⟨.other, 1, 8, .v .nilFunc, none⟩,
  ⟨.strct [], 0, 0, default, none⟩,
  ⟨.other, 0, 0, default, none⟩,
  ⟨.other, 1, 8, .v .nilFunc, none⟩,
  ⟨.other, 1, 8, .v .nilFunc, none⟩,
  ⟨.other, 0, 0, default, none⟩,
  ⟨.other, 1, 8, .v .nilFunc, none⟩,
  ⟨.other, 1, 8, .v .nilFunc, none⟩,
  ⟨.other, 1, 8, .v .nilFunc, none⟩,
  ⟨.arr 24 5, 24, 24, .agg [.v (.int .u8 0), .v (.int .u8 0), .v (.int .u8 0), .v (.int .u8 0), .v (.int .u8 0), .v (.int .u8 0), .v (.int .u8 0), .v (.int .u8 0), .v (.int .u8 0), .v (.int .u8 0), .v (.int .u8 0), .v (.int .u8 0), .v (.int .u8 0), .v (.int .u8 0), .v (.int .u8 0), .v (.int .u8 0), .v (.int .u8 0), .v (.int .u8 0), .v (.int .u8 0), .v (.int .u8 0), .v (.int .u8 0), .v (.int .u8 0), .v (.int .u8 0), .v (.int .u8 0)], some (1, [.int .u8, .int .u8, .int .u8, .int .u8, .int .u8, .int .u8, .int .u8, .int .u8, .int .u8, .int .u8, .int .u8, .int .u8, .int .u8, .int .u8, .int .u8, .int .u8, .int .u8, .int .u8, .int .u8, .int .u8, .int .u8, .int .u8, .int .u8, .int .u8])⟩,
  ⟨.other, 1, 8, .v .nilFunc, none⟩,
  ⟨.other, 1, 8, .v .nilFunc, none⟩,
  ⟨.other, 0, 0, default, none⟩,
  ⟨.other, 1, 8, .v .nilFunc, none⟩,
  ⟨.other, 1, 8, .v .nilFunc, none⟩,
  ⟨.other, 1, 8, .v .nilFunc, none⟩,
  ⟨.other, 1, 8, .v .nilFunc, none⟩,
  ⟨.other, 1, 8, .v .nilFunc, none⟩,
  ⟨.other, 1, 8, .v .nilFunc, none⟩,
  ⟨.other, 0, 0, default, none⟩,
  ⟨.other, 1, 8, .v .nilFunc, none⟩,
  ⟨.other, 1, 8, .v .nilFunc, none⟩,
  ⟨.other, 1, 8, .v .nilFunc, none⟩,
  ⟨.arr 20 134, 20, 160, .agg [.v (.int .u64 0), .v (.int .u64 0), .v (.int .u64 0), .v (.int .u64 0), .v (.int .u64 0), .v (.int .u64 0), .v (.int .u64 0), .v (.int .u64 0), .v (.int .u64 0), .v (.int .u64 0), .v (.int .u64 0), .v (.int .u64 0), .v (.int .u64 0), .v (.int .u64 0), .v (.int .u64 0), .v (.int .u64 0), .v (.int .u64 0), .v (.int .u64 0), .v (.int .u64 0), .v (.int .u64 0)], some (1, [.int .u64, .int .u64, .int .u64, .int .u64, .int .u64, .int .u64, .int .u64, .int .u64, .int .u64, .int .u64, .int .u64, .int .u64, .int .u64, .int .u64, .int .u64, .int .u64, .int .u64, .int .u64, .int .u64, .int .u64])⟩,
  ⟨.int .u32, 1, 4, .v (.int .u32 0), some (0, [.int .u32])⟩,
  ⟨.arr 65 5, 65, 65, .agg [.v (.int .u8 0), .v (.int .u8 0), .v (.int .u8 0), .v (.int .u8 0), .v (.int .u8 0), .v (.int .u8 0), .v (.int .u8 0), .v (.int .u8 0), .v (.int .u8 0), .v (.int .u8 0), .v (.int .u8 0), .v (.int .u8 0), .v (.int .u8 0), .v (.int .u8 0), .v (.int .u8 0), .v (.int .u8 0), .v (.int .u8 0), .v (.int .u8 0), .v (.int .u8 0), .v (.int .u8 0), .v (.int .u8 0), .v (.int .u8 0), .v (.int .u8 0), .v (.int .u8 0), .v (.int .u8 0), .v (.int .u8 0), .v (.int .u8 0), .v (.int .u8 0), .v (.int .u8 0), .v (.int .u8 0), .v (.int .u8 0), .v (.int .u8 0), .v (.int .u8 0), .v (.int .u8 0), .v (.int .u8 0), .v (.int .u8 0), .v (.int .u8 0), .v (.int .u8 0), .v (.int .u8 0), .v (.int .u8 0), .v (.int .u8 0), .v (.int .u8 0), .v (.int .u8 0), .v (.int .u8 0), .v (.int .u8 0), .v (.int .u8 0), .v (.int .u8 0), .v (.int .u8 0), .v (.int .u8 0), .v (.int .u8 0), .v (.int .u8 0), .v (.int .u8 0), .v (.int .u8 0), .v (.int .u8 0), .v (.int .u8 0), .v (.int .u8 0), .v (.int .u8 0), .v (.int .u8 0), .v (.int .u8 0), .v (.int .u8 0), .v (.int .u8 0), .v (.int .u8 0), .v (.int .u8 0), .v (.int .u8 0), .v (.int .u8 0)], none⟩,
  ⟨.other, 1, 8, .v .nilFunc, none⟩,
  ⟨.other, 1, 8, .v .nilFunc, none⟩,
  ⟨.int .i64, 1, 8, .v (.int .i64 0), some (0, [.int .i64])⟩,
  ⟨.other, 0, 0, default, none⟩,
  ⟨.other, 1, 8, .v .nilFunc, none⟩,
  ⟨.ptr 199, 1, 8, .v (.pointer none), none⟩,
  ⟨.other, 1, 8, .v .nilFunc, none⟩,
  ⟨.other, 1, 8, .v .nilFunc, none⟩,
  ⟨.other, 1, 8, .v .nilFunc, none⟩,
  ⟨.other, 1, 8, .v .nilFunc, none⟩,
  ⟨.other, 0, 0, default, none⟩,
  ⟨.other, 1, 8, .v .nilFunc, none⟩,
  ⟨.other, 1, 8, .v .nilFunc, none⟩,
  ⟨.other, 0, 0, default, none⟩,
  ⟨.other, 1, 8, .v .nilFunc, none⟩,
  ⟨.strct [(0, 9), (1, 9), (2, 119)], 3, 48, .agg [.s [], .s [], .v .nilIface], none⟩,
  ⟨.strct [(0, 9), (1, 9), (2, 119)], 3, 48, .agg [.s [], .s [], .v .nilIface], none⟩,
  ⟨.other, 1, 8, .v .nilFunc, none⟩,
  ⟨.other, 1, 8, .v .nilFunc, none⟩,
  ⟨.arr 32 5, 32, 32, .agg [.v (.int .u8 0), .v (.int .u8 0), .v (.int .u8 0), .v (.int .u8 0), .v (.int .u8 0), .v (.int .u8 0), .v (.int .u8 0), .v (.int .u8 0), .v (.int .u8 0), .v (.int .u8 0), .v (.int .u8 0), .v (.int .u8 0), .v (.int .u8 0), .v (.int .u8 0), .v (.int .u8 0), .v (.int .u8 0), .v (.int .u8 0), .v (.int .u8 0), .v (.int .u8 0), .v (.int .u8 0), .v (.int .u8 0), .v (.int .u8 0), .v (.int .u8 0), .v (.int .u8 0), .v (.int .u8 0), .v (.int .u8 0), .v (.int .u8 0), .v (.int .u8 0), .v (.int .u8 0), .v (.int .u8 0), .v (.int .u8 0), .v (.int .u8 0)], some (1, [.int .u8, .int .u8, .int .u8, .int .u8, .int .u8, .int .u8, .int .u8, .int .u8, .int .u8, .int .u8, .int .u8, .int .u8, .int .u8, .int .u8, .int .u8, .int .u8, .int .u8, .int .u8, .int .u8, .int .u8, .int .u8, .int .u8, .int .u8, .int .u8, .int .u8, .int .u8, .int .u8, .int .u8, .int .u8, .int .u8, .int .u8, .int .u8])⟩,
  ⟨.arr 64 5, 64, 64, .agg [.v (.int .u8 0), .v (.int .u8 0), .v (.int .u8 0), .v (.int .u8 0), .v (.int .u8 0), .v (.int .u8 0), .v (.int .u8 0), .v (.int .u8 0), .v (.int .u8 0), .v (.int .u8 0), .v (.int .u8 0), .v (.int .u8 0), .v (.int .u8 0), .v (.int .u8 0), .v (.int .u8 0), .v (.int .u8 0), .v (.int .u8 0), .v (.int .u8 0), .v (.int .u8 0), .v (.int .u8 0), .v (.int .u8 0), .v (.int .u8 0), .v (.int .u8 0), .v (.int .u8 0), .v (.int .u8 0), .v (.int .u8 0), .v (.int .u8 0), .v (.int .u8 0), .v (.int .u8 0), .v (.int .u8 0), .v (.int .u8 0), .v (.int .u8 0), .v (.int .u8 0), .v (.int .u8 0), .v (.int .u8 0), .v (.int .u8 0), .v (.int .u8 0), .v (.int .u8 0), .v (.int .u8 0), .v (.int .u8 0), .v (.int .u8 0), .v (.int .u8 0), .v (.int .u8 0), .v (.int .u8 0), .v (.int .u8 0), .v (.int .u8 0), .v (.int .u8 0), .v (.int .u8 0), .v (.int .u8 0), .v (.int .u8 0), .v (.int .u8 0), .v (.int .u8 0), .v (.int .u8 0), .v (.int .u8 0), .v (.int .u8 0), .v (.int .u8 0), .v (.int .u8 0), .v (.int .u8 0), .v (.int .u8 0), .v (.int .u8 0), .v (.int .u8 0), .v (.int .u8 0), .v (.int .u8 0), .v (.int .u8 0)], none⟩,
  ⟨.ptr 206, 1, 8, .v (.pointer none), none⟩,
  ⟨.strct [(0, 9)], 1, 16, .agg [.s []], some (1, [.str])⟩,
  ⟨.strct [(0, 9)], 1, 16, .agg [.s []], some (1, [.str])⟩,
  ⟨.strct [(0, 17), (1, 17), (2, 17), (3, 9)], 4, 40, .agg [.v (.pointer none), .v (.pointer none), .v (.pointer none), .s []], none⟩,
  ⟨.strct [(0, 17), (1, 17), (2, 17), (3, 9)], 4, 40, .agg [.v (.pointer none), .v (.pointer none), .v (.pointer none), .s []], none⟩,
  ⟨.arr 0 16, 0, 0, default, none⟩,
  ⟨.other, 0, 0, default, none⟩,
  ⟨.other, 0, 0, default, none⟩,
  ⟨.other, 1, 8, .v .nilFunc, none⟩,
  ⟨.int .u8, 1, 1, .v (.int .u8 0), some (0, [.int .u8])⟩,
  ⟨.int .u8, 1, 1, .v (.int .u8 0), some (0, [.int .u8])⟩,
  ⟨.other, 1, 8, .v .nilFunc, none⟩,
  ⟨.int .i32, 1, 4, .v (.int .i32 0), some (0, [.int .i32])⟩,
  ⟨.int .i32, 1, 4, .v (.int .i32 0), some (0, [.int .i32])⟩,
  ⟨.strct [(0, 12), (1, 12), (2, 181), (3, 213), (4, 5), (5, 5), (6, 214), (7, 215), (8, 142), (9, 216), (10, 217)], 11, 48, .agg [.v (.int .u64 0), .v (.int .u64 0), .v (.int .u32 0), .v (.int .u8 0), .v (.int .u8 0), .v (.int .u8 0), .v (.int .u8 0), .v .nilFunc, .v (.pointer none), .v (.int .i32 0), .v (.int .i32 0)], none⟩,
  ⟨.strct [(0, 12), (1, 12), (2, 181), (3, 213), (4, 5), (5, 5), (6, 214), (7, 215), (8, 142), (9, 216), (10, 217)], 11, 48, .agg [.v (.int .u64 0), .v (.int .u64 0), .v (.int .u32 0), .v (.int .u8 0), .v (.int .u8 0), .v (.int .u8 0), .v (.int .u8 0), .v .nilFunc, .v (.pointer none), .v (.int .i32 0), .v (.int .i32 0)], none⟩]
def U (t : TypeId) : TI := tyRows.getD t ⟨.other, 0, 0, default, none⟩
@[go_sem] theorem U1k : (U 1).k = .other := rfl
@[go_sem] theorem U1s : (U 1).sz = 1 := rfl
@[go_sem] theorem U1b : (U 1).bytes = 8 := rfl
@[go_sem] theorem U1z : (U 1).zero = .v .nilFunc := rfl
@[go_sem] theorem U2k : (U 2).k = .int .i64 := rfl
@[go_sem] theorem U2s : (U 2).sz = 1 := rfl
@[go_sem] theorem U2b : (U 2).bytes = 8 := rfl
@[go_sem] theorem U2z : (U 2).zero = .v (.int .i64 0) := rfl
@[go_sem] theorem U3k : (U 3).k = .int .i64 := rfl
@[go_sem] theorem U3s : (U 3).sz = 1 := rfl
@[go_sem] theorem U3b : (U 3).bytes = 8 := rfl
@[go_sem] theorem U3z : (U 3).zero = .v (.int .i64 0) := rfl
@[go_sem] theorem U4k : (U 4).k = .bool := rfl
@[go_sem] theorem U4s : (U 4).sz = 1 := rfl
@[go_sem] theorem U4b : (U 4).bytes = 1 := rfl
@[go_sem] theorem U4z : (U 4).zero = .v (.bool false) := rfl
@[go_sem] theorem U5k : (U 5).k = .int .u8 := rfl
@[go_sem] theorem U5s : (U 5).sz = 1 := rfl
@[go_sem] theorem U5b : (U 5).bytes = 1 := rfl
@[go_sem] theorem U5z : (U 5).zero = .v (.int .u8 0) := rfl
@[go_sem] theorem U6k : (U 6).k = .int .u8 := rfl
@[go_sem] theorem U6s : (U 6).sz = 1 := rfl
@[go_sem] theorem U6b : (U 6).bytes = 1 := rfl
@[go_sem] theorem U6z : (U 6).zero = .v (.int .u8 0) := rfl
@[go_sem] theorem U7k : (U 7).k = .strct [(0, 2), (1, 3), (2, 4), (3, 6)] := rfl
@[go_sem] theorem U7s : (U 7).sz = 4 := rfl
@[go_sem] theorem U7b : (U 7).bytes = 24 := rfl
@[go_sem] theorem U7z : (U 7).zero = .agg [.v (.int .i64 0), .v (.int .i64 0), .v (.bool false), .v (.int .u8 0)] := rfl
@[go_sem] theorem U8k : (U 8).k = .strct [(0, 2), (1, 3), (2, 4), (3, 6)] := rfl
@[go_sem] theorem U8s : (U 8).sz = 4 := rfl
@[go_sem] theorem U8b : (U 8).bytes = 24 := rfl
@[go_sem] theorem U8z : (U 8).zero = .agg [.v (.int .i64 0), .v (.int .i64 0), .v (.bool false), .v (.int .u8 0)] := rfl
@[go_sem] theorem U9k : (U 9).k = .str := rfl
@[go_sem] theorem U9s : (U 9).sz = 1 := rfl
@[go_sem] theorem U9b : (U 9).bytes = 16 := rfl
@[go_sem] theorem U9z : (U 9).zero = .s [] := rfl
@[go_sem] theorem U10k : (U 10).k = .str := rfl
@[go_sem] theorem U10s : (U 10).sz = 1 := rfl
@[go_sem] theorem U10b : (U 10).bytes = 16 := rfl
@[go_sem] theorem U10z : (U 10).zero = .s [] := rfl
@[go_sem] theorem U11k : (U 11).k = .str := rfl
@[go_sem] theorem U11s : (U 11).sz = 1 := rfl
@[go_sem] theorem U11b : (U 11).bytes = 16 := rfl
@[go_sem] theorem U11z : (U 11).zero = .s [] := rfl
@[go_sem] theorem U12k : (U 12).k = .int .u64 := rfl
@[go_sem] theorem U12s : (U 12).sz = 1 := rfl
@[go_sem] theorem U12b : (U 12).bytes = 8 := rfl
@[go_sem] theorem U12z : (U 12).zero = .v (.int .u64 0) := rfl
@[go_sem] theorem U13k : (U 13).k = .strct [(0, 9), (1, 12)] := rfl
@[go_sem] theorem U13s : (U 13).sz = 2 := rfl
@[go_sem] theorem U13b : (U 13).bytes = 24 := rfl
@[go_sem] theorem U13z : (U 13).zero = .agg [.s [], .v (.int .u64 0)] := rfl
@[go_sem] theorem U14k : (U 14).k = .strct [(0, 9), (1, 12)] := rfl
@[go_sem] theorem U14s : (U 14).sz = 2 := rfl
@[go_sem] theorem U14b : (U 14).bytes = 24 := rfl
@[go_sem] theorem U14z : (U 14).zero = .agg [.s [], .v (.int .u64 0)] := rfl
@[go_sem] theorem U15k : (U 15).k = .ptr 208 := rfl
@[go_sem] theorem U15s : (U 15).sz = 1 := rfl
@[go_sem] theorem U15b : (U 15).bytes = 8 := rfl
@[go_sem] theorem U15z : (U 15).zero = .v (.pointer none) := rfl
@[go_sem] theorem U16k : (U 16).k = .ptr 211 := rfl
@[go_sem] theorem U16s : (U 16).sz = 1 := rfl
@[go_sem] theorem U16b : (U 16).bytes = 8 := rfl
@[go_sem] theorem U16z : (U 16).zero = .v (.pointer none) := rfl
@[go_sem] theorem U17k : (U 17).k = .ptr 219 := rfl
@[go_sem] theorem U17s : (U 17).sz = 1 := rfl
@[go_sem] theorem U17b : (U 17).bytes = 8 := rfl
@[go_sem] theorem U17z : (U 17).zero = .v (.pointer none) := rfl
@[go_sem] theorem U18k : (U 18).k = .strct [(0, 17)] := rfl
@[go_sem] theorem U18s : (U 18).sz = 1 := rfl
@[go_sem] theorem U18b : (U 18).bytes = 8 := rfl
@[go_sem] theorem U18z : (U 18).zero = .agg [.v (.pointer none)] := rfl
@[go_sem] theorem U19k : (U 19).k = .strct [(0, 17)] := rfl
@[go_sem] theorem U19s : (U 19).sz = 1 := rfl
@[go_sem] theorem U19b : (U 19).bytes = 8 := rfl
@[go_sem] theorem U19z : (U 19).zero = .agg [.v (.pointer none)] := rfl
@[go_sem] theorem U20k : (U 20).k = .iface := rfl
@[go_sem] theorem U20s : (U 20).sz = 1 := rfl
@[go_sem] theorem U20b : (U 20).bytes = 16 := rfl
@[go_sem] theorem U20z : (U 20).zero = .v .nilIface := rfl
@[go_sem] theorem U21k : (U 21).k = .int .i32 := rfl
@[go_sem] theorem U21s : (U 21).sz = 1 := rfl
@[go_sem] theorem U21b : (U 21).bytes = 4 := rfl
@[go_sem] theorem U21z : (U 21).zero = .v (.int .i32 0) := rfl
@[go_sem] theorem U22k : (U 22).k = .strct [(0, 3), (1, 9), (2, 4)] := rfl
@[go_sem] theorem U22s : (U 22).sz = 3 := rfl
@[go_sem] theorem U22b : (U 22).bytes = 32 := rfl
@[go_sem] theorem U22z : (U 22).zero = .agg [.v (.int .i64 0), .s [], .v (.bool false)] := rfl
@[go_sem] theorem U22e : (U 22).eq = some (1, [.int .i64, .str, .bool]) := rfl
@[go_sem] theorem U23k : (U 23).k = .strct [(0, 3), (1, 9), (2, 4)] := rfl
@[go_sem] theorem U23s : (U 23).sz = 3 := rfl
@[go_sem] theorem U23b : (U 23).bytes = 32 := rfl
@[go_sem] theorem U23z : (U 23).zero = .agg [.v (.int .i64 0), .s [], .v (.bool false)] := rfl
@[go_sem] theorem U23e : (U 23).eq = some (1, [.int .i64, .str, .bool]) := rfl
@[go_sem] theorem U24k : (U 24).k = .strct [(0, 3), (1, 3), (2, 9)] := rfl
@[go_sem] theorem U24s : (U 24).sz = 3 := rfl
@[go_sem] theorem U24b : (U 24).bytes = 32 := rfl
@[go_sem] theorem U24z : (U 24).zero = .agg [.v (.int .i64 0), .v (.int .i64 0), .s []] := rfl
@[go_sem] theorem U24e : (U 24).eq = some (1, [.int .i64, .int .i64, .str]) := rfl
@[go_sem] theorem U25k : (U 25).k = .strct [(0, 3), (1, 3), (2, 9)] := rfl
@[go_sem] theorem U25s : (U 25).sz = 3 := rfl
@[go_sem] theorem U25b : (U 25).bytes = 32 := rfl
@[go_sem] theorem U25z : (U 25).zero = .agg [.v (.int .i64 0), .v (.int .i64 0), .s []] := rfl
@[go_sem] theorem U25e : (U 25).eq = some (1, [.int .i64, .int .i64, .str]) := rfl
@[go_sem] theorem U26k : (U 26).k = .strct [(0, 23), (3, 3), (4, 25)] := rfl
@[go_sem] theorem U26s : (U 26).sz = 7 := rfl
@[go_sem] theorem U26b : (U 26).bytes = 72 := rfl
@[go_sem] theorem U26z : (U 26).zero = .agg [.v (.int .i64 0), .s [], .v (.bool false), .v (.int .i64 0), .v (.int .i64 0), .v (.int .i64 0), .s []] := rfl
@[go_sem] theorem U26e : (U 26).eq = some (2, [.int .i64, .str, .bool, .int .i64, .int .i64, .int .i64, .str]) := rfl
@[go_sem] theorem U27k : (U 27).k = .strct [(0, 23), (3, 3), (4, 25)] := rfl
@[go_sem] theorem U27s : (U 27).sz = 7 := rfl
@[go_sem] theorem U27b : (U 27).bytes = 72 := rfl
@[go_sem] theorem U27z : (U 27).zero = .agg [.v (.int .i64 0), .s [], .v (.bool false), .v (.int .i64 0), .v (.int .i64 0), .v (.int .i64 0), .s []] := rfl
@[go_sem] theorem U27e : (U 27).eq = some (2, [.int .i64, .str, .bool, .int .i64, .int .i64, .int .i64, .str]) := rfl
@[go_sem] theorem U28k : (U 28).k = .slice 27 := rfl
@[go_sem] theorem U28s : (U 28).sz = 1 := rfl
@[go_sem] theorem U28b : (U 28).bytes = 24 := rfl
@[go_sem] theorem U28z : (U 28).zero = .sl [] .full := rfl
@[go_sem] theorem U29k : (U 29).k = .slice 28 := rfl
@[go_sem] theorem U29s : (U 29).sz = 1 := rfl
@[go_sem] theorem U29b : (U 29).bytes = 24 := rfl
@[go_sem] theorem U29z : (U 29).zero = .sl [] .full := rfl
@[go_sem] theorem U30k : (U 30).k = .slice 29 := rfl
@[go_sem] theorem U30s : (U 30).sz = 1 := rfl
@[go_sem] theorem U30b : (U 30).bytes = 24 := rfl
@[go_sem] theorem U30z : (U 30).zero = .sl [] .full := rfl
@[go_sem] theorem U31k : (U 31).k = .slice 29 := rfl
@[go_sem] theorem U31s : (U 31).sz = 1 := rfl
@[go_sem] theorem U31b : (U 31).bytes = 24 := rfl
@[go_sem] theorem U31z : (U 31).zero = .sl [] .full := rfl
@[go_sem] theorem U32k : (U 32).k = .strct [(0, 3), (1, 25), (4, 23)] := rfl
@[go_sem] theorem U32s : (U 32).sz = 7 := rfl
@[go_sem] theorem U32b : (U 32).bytes = 72 := rfl
@[go_sem] theorem U32z : (U 32).zero = .agg [.v (.int .i64 0), .v (.int .i64 0), .v (.int .i64 0), .s [], .v (.int .i64 0), .s [], .v (.bool false)] := rfl
@[go_sem] theorem U32e : (U 32).eq = some (2, [.int .i64, .int .i64, .int .i64, .str, .int .i64, .str, .bool]) := rfl
@[go_sem] theorem U33k : (U 33).k = .strct [(0, 3), (1, 25), (4, 23)] := rfl
@[go_sem] theorem U33s : (U 33).sz = 7 := rfl
@[go_sem] theorem U33b : (U 33).bytes = 72 := rfl
@[go_sem] theorem U33z : (U 33).zero = .agg [.v (.int .i64 0), .v (.int .i64 0), .v (.int .i64 0), .s [], .v (.int .i64 0), .s [], .v (.bool false)] := rfl
@[go_sem] theorem U33e : (U 33).eq = some (2, [.int .i64, .int .i64, .int .i64, .str, .int .i64, .str, .bool]) := rfl
@[go_sem] theorem U34k : (U 34).k = .slice 33 := rfl
@[go_sem] theorem U34s : (U 34).sz = 1 := rfl
@[go_sem] theorem U34b : (U 34).bytes = 24 := rfl
@[go_sem] theorem U34z : (U 34).zero = .sl [] .full := rfl
@[go_sem] theorem U35k : (U 35).k = .slice 40 := rfl
@[go_sem] theorem U35s : (U 35).sz = 1 := rfl
@[go_sem] theorem U35b : (U 35).bytes = 24 := rfl
@[go_sem] theorem U35z : (U 35).zero = .sl [] .full := rfl
@[go_sem] theorem U36k : (U 36).k = .strct [(0, 9), (1, 4), (2, 31), (3, 34), (4, 35)] := rfl
@[go_sem] theorem U36s : (U 36).sz = 5 := rfl
@[go_sem] theorem U36b : (U 36).bytes = 96 := rfl
@[go_sem] theorem U36z : (U 36).zero = .agg [.s [], .v (.bool false), .sl [] .full, .sl [] .full, .sl [] .full] := rfl
@[go_sem] theorem U37k : (U 37).k = .strct [(0, 9), (1, 4), (2, 31), (3, 34), (4, 35)] := rfl
@[go_sem] theorem U37s : (U 37).sz = 5 := rfl
@[go_sem] theorem U37b : (U 37).bytes = 96 := rfl
@[go_sem] theorem U37z : (U 37).zero = .agg [.s [], .v (.bool false), .sl [] .full, .sl [] .full, .sl [] .full] := rfl
@[go_sem] theorem U38k : (U 38).k = .slice 37 := rfl
@[go_sem] theorem U38s : (U 38).sz = 1 := rfl
@[go_sem] theorem U38b : (U 38).bytes = 24 := rfl
@[go_sem] theorem U38z : (U 38).zero = .sl [] .full := rfl
@[go_sem] theorem U39k : (U 39).k = .strct [(0, 3), (1, 3), (2, 9)] := rfl
@[go_sem] theorem U39s : (U 39).sz = 3 := rfl
@[go_sem] theorem U39b : (U 39).bytes = 32 := rfl
@[go_sem] theorem U39z : (U 39).zero = .agg [.v (.int .i64 0), .v (.int .i64 0), .s []] := rfl
@[go_sem] theorem U39e : (U 39).eq = some (1, [.int .i64, .int .i64, .str]) := rfl
@[go_sem] theorem U40k : (U 40).k = .strct [(0, 3), (1, 3), (2, 9)] := rfl
@[go_sem] theorem U40s : (U 40).sz = 3 := rfl
@[go_sem] theorem U40b : (U 40).bytes = 32 := rfl
@[go_sem] theorem U40z : (U 40).zero = .agg [.v (.int .i64 0), .v (.int .i64 0), .s []] := rfl
@[go_sem] theorem U40e : (U 40).eq = some (1, [.int .i64, .int .i64, .str]) := rfl
@[go_sem] theorem U41k : (U 41).k = .slice 43 := rfl
@[go_sem] theorem U41s : (U 41).sz = 1 := rfl
@[go_sem] theorem U41b : (U 41).bytes = 24 := rfl
@[go_sem] theorem U41z : (U 41).zero = .sl [] .full := rfl
@[go_sem] theorem U42k : (U 42).k = .strct [(0, 9), (1, 4), (2, 3), (3, 31), (4, 38), (5, 41), (6, 35)] := rfl
@[go_sem] theorem U42s : (U 42).sz = 7 := rfl
@[go_sem] theorem U42b : (U 42).bytes = 128 := rfl
@[go_sem] theorem U42z : (U 42).zero = .agg [.s [], .v (.bool false), .v (.int .i64 0), .sl [] .full, .sl [] .full, .sl [] .full, .sl [] .full] := rfl
@[go_sem] theorem U43k : (U 43).k = .strct [(0, 9), (1, 4), (2, 3), (3, 31), (4, 38), (5, 41), (6, 35)] := rfl
@[go_sem] theorem U43s : (U 43).sz = 7 := rfl
@[go_sem] theorem U43b : (U 43).bytes = 128 := rfl
@[go_sem] theorem U43z : (U 43).zero = .agg [.s [], .v (.bool false), .v (.int .i64 0), .sl [] .full, .sl [] .full, .sl [] .full, .sl [] .full] := rfl
@[go_sem] theorem U44k : (U 44).k = .other := rfl
@[go_sem] theorem U44s : (U 44).sz = 1 := rfl
@[go_sem] theorem U44b : (U 44).bytes = 8 := rfl
@[go_sem] theorem U44z : (U 44).zero = .v .nilFunc := rfl
@[go_sem] theorem U45k : (U 45).k = .other := rfl
@[go_sem] theorem U45s : (U 45).sz = 1 := rfl
@[go_sem] theorem U45b : (U 45).bytes = 8 := rfl
@[go_sem] theorem U45z : (U 45).zero = .v .nilFunc := rfl
@[go_sem] theorem U46k : (U 46).k = .other := rfl
@[go_sem] theorem U46s : (U 46).sz = 1 := rfl
@[go_sem] theorem U46b : (U 46).bytes = 8 := rfl
@[go_sem] theorem U46z : (U 46).zero = .v .nilFunc := rfl
@[go_sem] theorem U47k : (U 47).k = .other := rfl
@[go_sem] theorem U47s : (U 47).sz = 1 := rfl
@[go_sem] theorem U47b : (U 47).bytes = 8 := rfl
@[go_sem] theorem U47z : (U 47).zero = .v .nilFunc := rfl
@[go_sem] theorem U48k : (U 48).k = .other := rfl
@[go_sem] theorem U48s : (U 48).sz = 1 := rfl
@[go_sem] theorem U48b : (U 48).bytes = 8 := rfl
@[go_sem] theorem U48z : (U 48).zero = .v .nilFunc := rfl
@[go_sem] theorem U49k : (U 49).k = .other := rfl
@[go_sem] theorem U49s : (U 49).sz = 1 := rfl
@[go_sem] theorem U49b : (U 49).bytes = 8 := rfl
@[go_sem] theorem U49z : (U 49).zero = .v .nilFunc := rfl
@[go_sem] theorem U50k : (U 50).k = .other := rfl
@[go_sem] theorem U50s : (U 50).sz = 1 := rfl
@[go_sem] theorem U50b : (U 50).bytes = 8 := rfl
@[go_sem] theorem U50z : (U 50).zero = .v .nilFunc := rfl
@[go_sem] theorem U51k : (U 51).k = .other := rfl
@[go_sem] theorem U51s : (U 51).sz = 1 := rfl
@[go_sem] theorem U51b : (U 51).bytes = 8 := rfl
@[go_sem] theorem U51z : (U 51).zero = .v .nilFunc := rfl
@[go_sem] theorem U52k : (U 52).k = .other := rfl
@[go_sem] theorem U52s : (U 52).sz = 1 := rfl
@[go_sem] theorem U52b : (U 52).bytes = 8 := rfl
@[go_sem] theorem U52z : (U 52).zero = .v .nilFunc := rfl
@[go_sem] theorem U53k : (U 53).k = .other := rfl
@[go_sem] theorem U53s : (U 53).sz = 1 := rfl
@[go_sem] theorem U53b : (U 53).bytes = 8 := rfl
@[go_sem] theorem U53z : (U 53).zero = .v .nilFunc := rfl
@[go_sem] theorem U54k : (U 54).k = .int .i64 := rfl
@[go_sem] theorem U54s : (U 54).sz = 1 := rfl
@[go_sem] theorem U54b : (U 54).bytes = 8 := rfl
@[go_sem] theorem U54z : (U 54).zero = .v (.int .i64 0) := rfl
@[go_sem] theorem U55k : (U 55).k = .other := rfl
@[go_sem] theorem U55s : (U 55).sz = 1 := rfl
@[go_sem] theorem U55b : (U 55).bytes = 8 := rfl
@[go_sem] theorem U55z : (U 55).zero = .v .nilFunc := rfl
@[go_sem] theorem U56k : (U 56).k = .other := rfl
@[go_sem] theorem U56s : (U 56).sz = 1 := rfl
@[go_sem] theorem U56b : (U 56).bytes = 8 := rfl
@[go_sem] theorem U56z : (U 56).zero = .v .nilFunc := rfl
@[go_sem] theorem U57k : (U 57).k = .other := rfl
@[go_sem] theorem U57s : (U 57).sz = 1 := rfl
@[go_sem] theorem U57b : (U 57).bytes = 8 := rfl
@[go_sem] theorem U57z : (U 57).zero = .v .nilFunc := rfl
@[go_sem] theorem U59k : (U 59).k = .other := rfl
@[go_sem] theorem U59s : (U 59).sz = 1 := rfl
@[go_sem] theorem U59b : (U 59).bytes = 8 := rfl
@[go_sem] theorem U59z : (U 59).zero = .v .nilFunc := rfl
@[go_sem] theorem U60k : (U 60).k = .other := rfl
@[go_sem] theorem U60s : (U 60).sz = 1 := rfl
@[go_sem] theorem U60b : (U 60).bytes = 8 := rfl
@[go_sem] theorem U60z : (U 60).zero = .v .nilFunc := rfl
@[go_sem] theorem U61k : (U 61).k = .other := rfl
@[go_sem] theorem U61s : (U 61).sz = 1 := rfl
@[go_sem] theorem U61b : (U 61).bytes = 8 := rfl
@[go_sem] theorem U61z : (U 61).zero = .v .nilFunc := rfl
@[go_sem] theorem U62k : (U 62).k = .slice 5 := rfl
@[go_sem] theorem U62s : (U 62).sz = 1 := rfl
@[go_sem] theorem U62b : (U 62).bytes = 24 := rfl
@[go_sem] theorem U62z : (U 62).zero = .sl [] .full := rfl
@[go_sem] theorem U63k : (U 63).k = .other := rfl
@[go_sem] theorem U63s : (U 63).sz = 1 := rfl
@[go_sem] theorem U63b : (U 63).bytes = 8 := rfl
@[go_sem] theorem U63z : (U 63).zero = .v .nilFunc := rfl
@[go_sem] theorem U64k : (U 64).k = .slice 9 := rfl
@[go_sem] theorem U64s : (U 64).sz = 1 := rfl
@[go_sem] theorem U64b : (U 64).bytes = 24 := rfl
@[go_sem] theorem U64z : (U 64).zero = .sl [] .full := rfl
@[go_sem] theorem U65k : (U 65).k = .other := rfl
@[go_sem] theorem U65s : (U 65).sz = 1 := rfl
@[go_sem] theorem U65b : (U 65).bytes = 8 := rfl
@[go_sem] theorem U65z : (U 65).zero = .v .nilFunc := rfl
@[go_sem] theorem U66k : (U 66).k = .other := rfl
@[go_sem] theorem U66s : (U 66).sz = 1 := rfl
@[go_sem] theorem U66b : (U 66).bytes = 8 := rfl
@[go_sem] theorem U66z : (U 66).zero = .v .nilFunc := rfl
@[go_sem] theorem U67k : (U 67).k = .slice 4 := rfl
@[go_sem] theorem U67s : (U 67).sz = 1 := rfl
@[go_sem] theorem U67b : (U 67).bytes = 24 := rfl
@[go_sem] theorem U67z : (U 67).zero = .sl [] .full := rfl
@[go_sem] theorem U68k : (U 68).k = .other := rfl
@[go_sem] theorem U68s : (U 68).sz = 1 := rfl
@[go_sem] theorem U68b : (U 68).bytes = 8 := rfl
@[go_sem] theorem U68z : (U 68).zero = .v .nilFunc := rfl
@[go_sem] theorem U69k : (U 69).k = .ptr 71 := rfl
@[go_sem] theorem U69s : (U 69).sz = 1 := rfl
@[go_sem] theorem U69b : (U 69).bytes = 8 := rfl
@[go_sem] theorem U69z : (U 69).zero = .v (.pointer none) := rfl
@[go_sem] theorem U70k : (U 70).k = .strct [(0, 3)] := rfl
@[go_sem] theorem U70s : (U 70).sz = 1 := rfl
@[go_sem] theorem U70b : (U 70).bytes = 8 := rfl
@[go_sem] theorem U70z : (U 70).zero = .agg [.v (.int .i64 0)] := rfl
@[go_sem] theorem U70e : (U 70).eq = some (1, [.int .i64]) := rfl
@[go_sem] theorem U71k : (U 71).k = .strct [(0, 3)] := rfl
@[go_sem] theorem U71s : (U 71).sz = 1 := rfl
@[go_sem] theorem U71b : (U 71).bytes = 8 := rfl
@[go_sem] theorem U71z : (U 71).zero = .agg [.v (.int .i64 0)] := rfl
@[go_sem] theorem U71e : (U 71).eq = some (1, [.int .i64]) := rfl
@[go_sem] theorem U72k : (U 72).k = .other := rfl
@[go_sem] theorem U72s : (U 72).sz = 1 := rfl
@[go_sem] theorem U72b : (U 72).bytes = 8 := rfl
@[go_sem] theorem U72z : (U 72).zero = .v .nilFunc := rfl
@[go_sem] theorem U73k : (U 73).k = .other := rfl
@[go_sem] theorem U73s : (U 73).sz = 1 := rfl
@[go_sem] theorem U73b : (U 73).bytes = 8 := rfl
@[go_sem] theorem U73z : (U 73).zero = .v .nilFunc := rfl
@[go_sem] theorem U74k : (U 74).k = .other := rfl
@[go_sem] theorem U74s : (U 74).sz = 1 := rfl
@[go_sem] theorem U74b : (U 74).bytes = 8 := rfl
@[go_sem] theorem U74z : (U 74).zero = .v .nilFunc := rfl
@[go_sem] theorem U75k : (U 75).k = .other := rfl
@[go_sem] theorem U75s : (U 75).sz = 1 := rfl
@[go_sem] theorem U75b : (U 75).bytes = 8 := rfl
@[go_sem] theorem U75z : (U 75).zero = .v .nilFunc := rfl
@[go_sem] theorem U76k : (U 76).k = .other := rfl
@[go_sem] theorem U76s : (U 76).sz = 1 := rfl
@[go_sem] theorem U76b : (U 76).bytes = 8 := rfl
@[go_sem] theorem U76z : (U 76).zero = .v .nilFunc := rfl
@[go_sem] theorem U78k : (U 78).k = .other := rfl
@[go_sem] theorem U78s : (U 78).sz = 1 := rfl
@[go_sem] theorem U78b : (U 78).bytes = 8 := rfl
@[go_sem] theorem U78z : (U 78).zero = .v .nilFunc := rfl
@[go_sem] theorem U79k : (U 79).k = .other := rfl
@[go_sem] theorem U79s : (U 79).sz = 1 := rfl
@[go_sem] theorem U79b : (U 79).bytes = 8 := rfl
@[go_sem] theorem U79z : (U 79).zero = .v .nilFunc := rfl
@[go_sem] theorem U80k : (U 80).k = .other := rfl
@[go_sem] theorem U80s : (U 80).sz = 1 := rfl
@[go_sem] theorem U80b : (U 80).bytes = 8 := rfl
@[go_sem] theorem U80z : (U 80).zero = .v .nilFunc := rfl
@[go_sem] theorem U81k : (U 81).k = .other := rfl
@[go_sem] theorem U81s : (U 81).sz = 1 := rfl
@[go_sem] theorem U81b : (U 81).bytes = 8 := rfl
@[go_sem] theorem U81z : (U 81).zero = .v .nilFunc := rfl
@[go_sem] theorem U82k : (U 82).k = .other := rfl
@[go_sem] theorem U82s : (U 82).sz = 1 := rfl
@[go_sem] theorem U82b : (U 82).bytes = 8 := rfl
@[go_sem] theorem U82z : (U 82).zero = .v .nilFunc := rfl
@[go_sem] theorem U83k : (U 83).k = .other := rfl
@[go_sem] theorem U83s : (U 83).sz = 1 := rfl
@[go_sem] theorem U83b : (U 83).bytes = 8 := rfl
@[go_sem] theorem U83z : (U 83).zero = .v .nilFunc := rfl
@[go_sem] theorem U84k : (U 84).k = .ptr 87 := rfl
@[go_sem] theorem U84s : (U 84).sz = 1 := rfl
@[go_sem] theorem U84b : (U 84).bytes = 8 := rfl
@[go_sem] theorem U84z : (U 84).zero = .v (.pointer none) := rfl
@[go_sem] theorem U85k : (U 85).k = .map 9 158 := rfl
@[go_sem] theorem U85s : (U 85).sz = 1 := rfl
@[go_sem] theorem U85b : (U 85).bytes = 8 := rfl
@[go_sem] theorem U85z : (U 85).zero = .v (.map none) := rfl
@[go_sem] theorem U86k : (U 86).k = .strct [(0, 85), (1, 3)] := rfl
@[go_sem] theorem U86s : (U 86).sz = 2 := rfl
@[go_sem] theorem U86b : (U 86).bytes = 16 := rfl
@[go_sem] theorem U86z : (U 86).zero = .agg [.v (.map none), .v (.int .i64 0)] := rfl
@[go_sem] theorem U87k : (U 87).k = .strct [(0, 85), (1, 3)] := rfl
@[go_sem] theorem U87s : (U 87).sz = 2 := rfl
@[go_sem] theorem U87b : (U 87).bytes = 16 := rfl
@[go_sem] theorem U87z : (U 87).zero = .agg [.v (.map none), .v (.int .i64 0)] := rfl
@[go_sem] theorem U88k : (U 88).k = .other := rfl
@[go_sem] theorem U88s : (U 88).sz = 1 := rfl
@[go_sem] theorem U88b : (U 88).bytes = 8 := rfl
@[go_sem] theorem U88z : (U 88).zero = .v .nilFunc := rfl
@[go_sem] theorem U89k : (U 89).k = .slice 97 := rfl
@[go_sem] theorem U89s : (U 89).sz = 1 := rfl
@[go_sem] theorem U89b : (U 89).bytes = 24 := rfl
@[go_sem] theorem U89z : (U 89).zero = .sl [] .full := rfl
@[go_sem] theorem U91k : (U 91).k = .other := rfl
@[go_sem] theorem U91s : (U 91).sz = 1 := rfl
@[go_sem] theorem U91b : (U 91).bytes = 8 := rfl
@[go_sem] theorem U91z : (U 91).zero = .v .nilFunc := rfl
@[go_sem] theorem U92k : (U 92).k = .ptr 94 := rfl
@[go_sem] theorem U92s : (U 92).sz = 1 := rfl
@[go_sem] theorem U92b : (U 92).bytes = 8 := rfl
@[go_sem] theorem U92z : (U 92).zero = .v (.pointer none) := rfl
@[go_sem] theorem U93k : (U 93).k = .strct [(0, 89), (1, 3), (2, 3), (3, 54), (4, 3)] := rfl
@[go_sem] theorem U93s : (U 93).sz = 5 := rfl
@[go_sem] theorem U93b : (U 93).bytes = 56 := rfl
@[go_sem] theorem U93z : (U 93).zero = .agg [.sl [] .full, .v (.int .i64 0), .v (.int .i64 0), .v (.int .i64 0), .v (.int .i64 0)] := rfl
@[go_sem] theorem U94k : (U 94).k = .strct [(0, 89), (1, 3), (2, 3), (3, 54), (4, 3)] := rfl
@[go_sem] theorem U94s : (U 94).sz = 5 := rfl
@[go_sem] theorem U94b : (U 94).bytes = 56 := rfl
@[go_sem] theorem U94z : (U 94).zero = .agg [.sl [] .full, .v (.int .i64 0), .v (.int .i64 0), .v (.int .i64 0), .v (.int .i64 0)] := rfl
@[go_sem] theorem U95k : (U 95).k = .other := rfl
@[go_sem] theorem U95s : (U 95).sz = 1 := rfl
@[go_sem] theorem U95b : (U 95).bytes = 8 := rfl
@[go_sem] theorem U95z : (U 95).zero = .v .nilFunc := rfl
@[go_sem] theorem U96k : (U 96).k = .strct [(0, 3), (1, 3), (2, 3), (3, 9)] := rfl
@[go_sem] theorem U96s : (U 96).sz = 4 := rfl
@[go_sem] theorem U96b : (U 96).bytes = 40 := rfl
@[go_sem] theorem U96z : (U 96).zero = .agg [.v (.int .i64 0), .v (.int .i64 0), .v (.int .i64 0), .s []] := rfl
@[go_sem] theorem U96e : (U 96).eq = some (1, [.int .i64, .int .i64, .int .i64, .str]) := rfl
@[go_sem] theorem U97k : (U 97).k = .strct [(0, 3), (1, 3), (2, 3), (3, 9)] := rfl
@[go_sem] theorem U97s : (U 97).sz = 4 := rfl
@[go_sem] theorem U97b : (U 97).bytes = 40 := rfl
@[go_sem] theorem U97z : (U 97).zero = .agg [.v (.int .i64 0), .v (.int .i64 0), .v (.int .i64 0), .s []] := rfl
@[go_sem] theorem U97e : (U 97).eq = some (1, [.int .i64, .int .i64, .int .i64, .str]) := rfl
@[go_sem] theorem U98k : (U 98).k = .other := rfl
@[go_sem] theorem U98s : (U 98).sz = 1 := rfl
@[go_sem] theorem U98b : (U 98).bytes = 8 := rfl
@[go_sem] theorem U98z : (U 98).zero = .v .nilFunc := rfl
@[go_sem] theorem U99k : (U 99).k = .other := rfl
@[go_sem] theorem U99s : (U 99).sz = 1 := rfl
@[go_sem] theorem U99b : (U 99).bytes = 8 := rfl
@[go_sem] theorem U99z : (U 99).zero = .v .nilFunc := rfl
@[go_sem] theorem U100k : (U 100).k = .other := rfl
@[go_sem] theorem U100s : (U 100).sz = 1 := rfl
@[go_sem] theorem U100b : (U 100).bytes = 8 := rfl
@[go_sem] theorem U100z : (U 100).zero = .v .nilFunc := rfl
@[go_sem] theorem U101k : (U 101).k = .other := rfl
@[go_sem] theorem U101s : (U 101).sz = 1 := rfl
@[go_sem] theorem U101b : (U 101).bytes = 8 := rfl
@[go_sem] theorem U101z : (U 101).zero = .v .nilFunc := rfl
@[go_sem] theorem U102k : (U 102).k = .other := rfl
@[go_sem] theorem U102s : (U 102).sz = 1 := rfl
@[go_sem] theorem U102b : (U 102).bytes = 8 := rfl
@[go_sem] theorem U102z : (U 102).zero = .v .nilFunc := rfl
@[go_sem] theorem U103k : (U 103).k = .other := rfl
@[go_sem] theorem U103s : (U 103).sz = 1 := rfl
@[go_sem] theorem U103b : (U 103).bytes = 8 := rfl
@[go_sem] theorem U103z : (U 103).zero = .v .nilFunc := rfl
@[go_sem] theorem U104k : (U 104).k = .other := rfl
@[go_sem] theorem U104s : (U 104).sz = 1 := rfl
@[go_sem] theorem U104b : (U 104).bytes = 8 := rfl
@[go_sem] theorem U104z : (U 104).zero = .v .nilFunc := rfl
@[go_sem] theorem U105k : (U 105).k = .other := rfl
@[go_sem] theorem U105s : (U 105).sz = 1 := rfl
@[go_sem] theorem U105b : (U 105).bytes = 8 := rfl
@[go_sem] theorem U105z : (U 105).zero = .v .nilFunc := rfl
@[go_sem] theorem U106k : (U 106).k = .other := rfl
@[go_sem] theorem U106s : (U 106).sz = 1 := rfl
@[go_sem] theorem U106b : (U 106).bytes = 8 := rfl
@[go_sem] theorem U106z : (U 106).zero = .v .nilFunc := rfl
@[go_sem] theorem U107k : (U 107).k = .ptr 109 := rfl
@[go_sem] theorem U107s : (U 107).sz = 1 := rfl
@[go_sem] theorem U107b : (U 107).bytes = 8 := rfl
@[go_sem] theorem U107z : (U 107).zero = .v (.pointer none) := rfl
@[go_sem] theorem U108k : (U 108).k = .strct [(0, 64), (1, 3)] := rfl
@[go_sem] theorem U108s : (U 108).sz = 2 := rfl
@[go_sem] theorem U108b : (U 108).bytes = 32 := rfl
@[go_sem] theorem U108z : (U 108).zero = .agg [.sl [] .full, .v (.int .i64 0)] := rfl
@[go_sem] theorem U109k : (U 109).k = .strct [(0, 64), (1, 3)] := rfl
@[go_sem] theorem U109s : (U 109).sz = 2 := rfl
@[go_sem] theorem U109b : (U 109).bytes = 32 := rfl
@[go_sem] theorem U109z : (U 109).zero = .agg [.sl [] .full, .v (.int .i64 0)] := rfl
@[go_sem] theorem U110k : (U 110).k = .other := rfl
@[go_sem] theorem U110s : (U 110).sz = 1 := rfl
@[go_sem] theorem U110b : (U 110).bytes = 8 := rfl
@[go_sem] theorem U110z : (U 110).zero = .v .nilFunc := rfl
@[go_sem] theorem U112k : (U 112).k = .other := rfl
@[go_sem] theorem U112s : (U 112).sz = 1 := rfl
@[go_sem] theorem U112b : (U 112).bytes = 8 := rfl
@[go_sem] theorem U112z : (U 112).zero = .v .nilFunc := rfl
@[go_sem] theorem U113k : (U 113).k = .other := rfl
@[go_sem] theorem U113s : (U 113).sz = 1 := rfl
@[go_sem] theorem U113b : (U 113).bytes = 8 := rfl
@[go_sem] theorem U113z : (U 113).zero = .v .nilFunc := rfl
@[go_sem] theorem U114k : (U 114).k = .ptr 116 := rfl
@[go_sem] theorem U114s : (U 114).sz = 1 := rfl
@[go_sem] theorem U114b : (U 114).bytes = 8 := rfl
@[go_sem] theorem U114z : (U 114).zero = .v (.pointer none) := rfl
@[go_sem] theorem U115k : (U 115).k = .strct [(0, 114), (1, 62)] := rfl
@[go_sem] theorem U115s : (U 115).sz = 2 := rfl
@[go_sem] theorem U115b : (U 115).bytes = 32 := rfl
@[go_sem] theorem U115z : (U 115).zero = .agg [.v (.pointer none), .sl [] .full] := rfl
@[go_sem] theorem U116k : (U 116).k = .strct [(0, 114), (1, 62)] := rfl
@[go_sem] theorem U116s : (U 116).sz = 2 := rfl
@[go_sem] theorem U116b : (U 116).bytes = 32 := rfl
@[go_sem] theorem U116z : (U 116).zero = .agg [.v (.pointer none), .sl [] .full] := rfl
@[go_sem] theorem U117k : (U 117).k = .other := rfl
@[go_sem] theorem U117s : (U 117).sz = 1 := rfl
@[go_sem] theorem U117b : (U 117).bytes = 8 := rfl
@[go_sem] theorem U117z : (U 117).zero = .v .nilFunc := rfl
@[go_sem] theorem U118k : (U 118).k = .iface := rfl
@[go_sem] theorem U118s : (U 118).sz = 1 := rfl
@[go_sem] theorem U118b : (U 118).bytes = 16 := rfl
@[go_sem] theorem U118z : (U 118).zero = .v .nilIface := rfl
@[go_sem] theorem U119k : (U 119).k = .iface := rfl
@[go_sem] theorem U119s : (U 119).sz = 1 := rfl
@[go_sem] theorem U119b : (U 119).bytes = 16 := rfl
@[go_sem] theorem U119z : (U 119).zero = .v .nilIface := rfl
@[go_sem] theorem U121k : (U 121).k = .other := rfl
@[go_sem] theorem U121s : (U 121).sz = 1 := rfl
@[go_sem] theorem U121b : (U 121).bytes = 8 := rfl
@[go_sem] theorem U121z : (U 121).zero = .v .nilFunc := rfl
@[go_sem] theorem U122k : (U 122).k = .other := rfl
@[go_sem] theorem U122s : (U 122).sz = 1 := rfl
@[go_sem] theorem U122b : (U 122).bytes = 8 := rfl
@[go_sem] theorem U122z : (U 122).zero = .v .nilFunc := rfl
@[go_sem] theorem U123k : (U 123).k = .other := rfl
@[go_sem] theorem U123s : (U 123).sz = 1 := rfl
@[go_sem] theorem U123b : (U 123).bytes = 8 := rfl
@[go_sem] theorem U123z : (U 123).zero = .v .nilFunc := rfl
@[go_sem] theorem U124k : (U 124).k = .other := rfl
@[go_sem] theorem U124s : (U 124).sz = 1 := rfl
@[go_sem] theorem U124b : (U 124).bytes = 8 := rfl
@[go_sem] theorem U124z : (U 124).zero = .v .nilFunc := rfl
@[go_sem] theorem U126k : (U 126).k = .other := rfl
@[go_sem] theorem U126s : (U 126).sz = 1 := rfl
@[go_sem] theorem U126b : (U 126).bytes = 8 := rfl
@[go_sem] theorem U126z : (U 126).zero = .v .nilFunc := rfl
@[go_sem] theorem U127k : (U 127).k = .other := rfl
@[go_sem] theorem U127s : (U 127).sz = 1 := rfl
@[go_sem] theorem U127b : (U 127).bytes = 8 := rfl
@[go_sem] theorem U127z : (U 127).zero = .v .nilFunc := rfl
@[go_sem] theorem U128k : (U 128).k = .other := rfl
@[go_sem] theorem U128s : (U 128).sz = 1 := rfl
@[go_sem] theorem U128b : (U 128).bytes = 8 := rfl
@[go_sem] theorem U128z : (U 128).zero = .v .nilFunc := rfl
@[go_sem] theorem U129k : (U 129).k = .other := rfl
@[go_sem] theorem U129s : (U 129).sz = 1 := rfl
@[go_sem] theorem U129b : (U 129).bytes = 8 := rfl
@[go_sem] theorem U129z : (U 129).zero = .v .nilFunc := rfl
@[go_sem] theorem U130k : (U 130).k = .other := rfl
@[go_sem] theorem U130s : (U 130).sz = 1 := rfl
@[go_sem] theorem U130b : (U 130).bytes = 8 := rfl
@[go_sem] theorem U130z : (U 130).zero = .v .nilFunc := rfl
@[go_sem] theorem U131k : (U 131).k = .other := rfl
@[go_sem] theorem U131s : (U 131).sz = 1 := rfl
@[go_sem] theorem U131b : (U 131).bytes = 8 := rfl
@[go_sem] theorem U131z : (U 131).zero = .v .nilFunc := rfl
@[go_sem] theorem U132k : (U 132).k = .other := rfl
@[go_sem] theorem U132s : (U 132).sz = 1 := rfl
@[go_sem] theorem U132b : (U 132).bytes = 8 := rfl
@[go_sem] theorem U132z : (U 132).zero = .v .nilFunc := rfl
@[go_sem] theorem U133k : (U 133).k = .other := rfl
@[go_sem] theorem U133s : (U 133).sz = 1 := rfl
@[go_sem] theorem U133b : (U 133).bytes = 8 := rfl
@[go_sem] theorem U133z : (U 133).zero = .v .nilFunc := rfl
@[go_sem] theorem U134k : (U 134).k = .int .u64 := rfl
@[go_sem] theorem U134s : (U 134).sz = 1 := rfl
@[go_sem] theorem U134b : (U 134).bytes = 8 := rfl
@[go_sem] theorem U134z : (U 134).zero = .v (.int .u64 0) := rfl
@[go_sem] theorem U135k : (U 135).k = .other := rfl
@[go_sem] theorem U135s : (U 135).sz = 1 := rfl
@[go_sem] theorem U135b : (U 135).bytes = 8 := rfl
@[go_sem] theorem U135z : (U 135).zero = .v .nilFunc := rfl
@[go_sem] theorem U136k : (U 136).k = .int .u64 := rfl
@[go_sem] theorem U136s : (U 136).sz = 1 := rfl
@[go_sem] theorem U136b : (U 136).bytes = 8 := rfl
@[go_sem] theorem U136z : (U 136).zero = .v (.int .u64 0) := rfl
@[go_sem] theorem U137k : (U 137).k = .other := rfl
@[go_sem] theorem U137s : (U 137).sz = 1 := rfl
@[go_sem] theorem U137b : (U 137).bytes = 8 := rfl
@[go_sem] theorem U137z : (U 137).zero = .v .nilFunc := rfl
@[go_sem] theorem U138k : (U 138).k = .other := rfl
@[go_sem] theorem U138s : (U 138).sz = 1 := rfl
@[go_sem] theorem U138b : (U 138).bytes = 8 := rfl
@[go_sem] theorem U138z : (U 138).zero = .v .nilFunc := rfl
@[go_sem] theorem U139k : (U 139).k = .other := rfl
@[go_sem] theorem U139s : (U 139).sz = 1 := rfl
@[go_sem] theorem U139b : (U 139).bytes = 8 := rfl
@[go_sem] theorem U139z : (U 139).zero = .v .nilFunc := rfl
@[go_sem] theorem U140k : (U 140).k = .other := rfl
@[go_sem] theorem U140s : (U 140).sz = 1 := rfl
@[go_sem] theorem U140b : (U 140).bytes = 8 := rfl
@[go_sem] theorem U140z : (U 140).zero = .v .nilFunc := rfl
@[go_sem] theorem U141k : (U 141).k = .other := rfl
@[go_sem] theorem U141s : (U 141).sz = 1 := rfl
@[go_sem] theorem U141b : (U 141).bytes = 8 := rfl
@[go_sem] theorem U141z : (U 141).zero = .v .nilFunc := rfl
@[go_sem] theorem U142k : (U 142).k = .ptr 5 := rfl
@[go_sem] theorem U142s : (U 142).sz = 1 := rfl
@[go_sem] theorem U142b : (U 142).bytes = 8 := rfl
@[go_sem] theorem U142z : (U 142).zero = .v (.pointer none) := rfl
@[go_sem] theorem U143k : (U 143).k = .other := rfl
@[go_sem] theorem U143s : (U 143).sz = 1 := rfl
@[go_sem] theorem U143b : (U 143).bytes = 8 := rfl
@[go_sem] theorem U143z : (U 143).zero = .v .nilFunc := rfl
@[go_sem] theorem U144k : (U 144).k = .other := rfl
@[go_sem] theorem U144s : (U 144).sz = 1 := rfl
@[go_sem] theorem U144b : (U 144).bytes = 8 := rfl
@[go_sem] theorem U144z : (U 144).zero = .v .nilFunc := rfl
@[go_sem] theorem U145k : (U 145).k = .other := rfl
@[go_sem] theorem U145s : (U 145).sz = 1 := rfl
@[go_sem] theorem U145b : (U 145).bytes = 8 := rfl
@[go_sem] theorem U145z : (U 145).zero = .v .nilFunc := rfl
@[go_sem] theorem U147k : (U 147).k = .other := rfl
@[go_sem] theorem U147s : (U 147).sz = 1 := rfl
@[go_sem] theorem U147b : (U 147).bytes = 8 := rfl
@[go_sem] theorem U147z : (U 147).zero = .v .nilFunc := rfl
@[go_sem] theorem U148k : (U 148).k = .other := rfl
@[go_sem] theorem U148s : (U 148).sz = 1 := rfl
@[go_sem] theorem U148b : (U 148).bytes = 8 := rfl
@[go_sem] theorem U148z : (U 148).zero = .v .nilFunc := rfl
@[go_sem] theorem U149k : (U 149).k = .other := rfl
@[go_sem] theorem U149s : (U 149).sz = 1 := rfl
@[go_sem] theorem U149b : (U 149).bytes = 8 := rfl
@[go_sem] theorem U149z : (U 149).zero = .v .nilFunc := rfl
@[go_sem] theorem U150k : (U 150).k = .other := rfl
@[go_sem] theorem U150s : (U 150).sz = 1 := rfl
@[go_sem] theorem U150b : (U 150).bytes = 8 := rfl
@[go_sem] theorem U150z : (U 150).zero = .v .nilFunc := rfl
@[go_sem] theorem U151k : (U 151).k = .other := rfl
@[go_sem] theorem U151s : (U 151).sz = 1 := rfl
@[go_sem] theorem U151b : (U 151).bytes = 8 := rfl
@[go_sem] theorem U151z : (U 151).zero = .v .nilFunc := rfl
@[go_sem] theorem U152k : (U 152).k = .other := rfl
@[go_sem] theorem U152s : (U 152).sz = 1 := rfl
@[go_sem] theorem U152b : (U 152).bytes = 8 := rfl
@[go_sem] theorem U152z : (U 152).zero = .v .nilFunc := rfl
@[go_sem] theorem U153k : (U 153).k = .other := rfl
@[go_sem] theorem U153s : (U 153).sz = 1 := rfl
@[go_sem] theorem U153b : (U 153).bytes = 8 := rfl
@[go_sem] theorem U153z : (U 153).zero = .v .nilFunc := rfl
@[go_sem] theorem U154k : (U 154).k = .other := rfl
@[go_sem] theorem U154s : (U 154).sz = 1 := rfl
@[go_sem] theorem U154b : (U 154).bytes = 8 := rfl
@[go_sem] theorem U154z : (U 154).zero = .v .nilFunc := rfl
@[go_sem] theorem U155k : (U 155).k = .other := rfl
@[go_sem] theorem U155s : (U 155).sz = 1 := rfl
@[go_sem] theorem U155b : (U 155).bytes = 8 := rfl
@[go_sem] theorem U155z : (U 155).zero = .v (.pointer none) := rfl
@[go_sem] theorem U156k : (U 156).k = .other := rfl
@[go_sem] theorem U156s : (U 156).sz = 1 := rfl
@[go_sem] theorem U156b : (U 156).bytes = 8 := rfl
@[go_sem] theorem U156z : (U 156).zero = .v .nilFunc := rfl
@[go_sem] theorem U157k : (U 157).k = .other := rfl
@[go_sem] theorem U157s : (U 157).sz = 1 := rfl
@[go_sem] theorem U157b : (U 157).bytes = 8 := rfl
@[go_sem] theorem U157z : (U 157).zero = .v .nilFunc := rfl
@[go_sem] theorem U158k : (U 158).k = .strct [] := rfl
@[go_sem] theorem U158s : (U 158).sz = 0 := rfl
@[go_sem] theorem U160k : (U 160).k = .other := rfl
@[go_sem] theorem U160s : (U 160).sz = 1 := rfl
@[go_sem] theorem U160b : (U 160).bytes = 8 := rfl
@[go_sem] theorem U160z : (U 160).zero = .v .nilFunc := rfl
@[go_sem] theorem U161k : (U 161).k = .other := rfl
@[go_sem] theorem U161s : (U 161).sz = 1 := rfl
@[go_sem] theorem U161b : (U 161).bytes = 8 := rfl
@[go_sem] theorem U161z : (U 161).zero = .v .nilFunc := rfl
@[go_sem] theorem U163k : (U 163).k = .other := rfl
@[go_sem] theorem U163s : (U 163).sz = 1 := rfl
@[go_sem] theorem U163b : (U 163).bytes = 8 := rfl
@[go_sem] theorem U163z : (U 163).zero = .v .nilFunc := rfl
@[go_sem] theorem U164k : (U 164).k = .other := rfl
@[go_sem] theorem U164s : (U 164).sz = 1 := rfl
@[go_sem] theorem U164b : (U 164).bytes = 8 := rfl
@[go_sem] theorem U164z : (U 164).zero = .v .nilFunc := rfl
@[go_sem] theorem U165k : (U 165).k = .other := rfl
@[go_sem] theorem U165s : (U 165).sz = 1 := rfl
@[go_sem] theorem U165b : (U 165).bytes = 8 := rfl
@[go_sem] theorem U165z : (U 165).zero = .v .nilFunc := rfl
@[go_sem] theorem U166k : (U 166).k = .arr 24 5 := rfl
@[go_sem] theorem U166s : (U 166).sz = 24 := rfl
@[go_sem] theorem U166b : (U 166).bytes = 24 := rfl
@[go_sem] theorem U166z : (U 166).zero = .agg [.v (.int .u8 0), .v (.int .u8 0), .v (.int .u8 0), .v (.int .u8 0), .v (.int .u8 0), .v (.int .u8 0), .v (.int .u8 0), .v (.int .u8 0), .v (.int .u8 0), .v (.int .u8 0), .v (.int .u8 0), .v (.int .u8 0), .v (.int .u8 0), .v (.int .u8 0), .v (.int .u8 0), .v (.int .u8 0), .v (.int .u8 0), .v (.int .u8 0), .v (.int .u8 0), .v (.int .u8 0), .v (.int .u8 0), .v (.int .u8 0), .v (.int .u8 0), .v (.int .u8 0)] := rfl
@[go_sem] theorem U166e : (U 166).eq = some (1, [.int .u8, .int .u8, .int .u8, .int .u8, .int .u8, .int .u8, .int .u8, .int .u8, .int .u8, .int .u8, .int .u8, .int .u8, .int .u8, .int .u8, .int .u8, .int .u8, .int .u8, .int .u8, .int .u8, .int .u8, .int .u8, .int .u8, .int .u8, .int .u8]) := rfl
@[go_sem] theorem U167k : (U 167).k = .other := rfl
@[go_sem] theorem U167s : (U 167).sz = 1 := rfl
@[go_sem] theorem U167b : (U 167).bytes = 8 := rfl
@[go_sem] theorem U167z : (U 167).zero = .v .nilFunc := rfl
@[go_sem] theorem U168k : (U 168).k = .other := rfl
@[go_sem] theorem U168s : (U 168).sz = 1 := rfl
@[go_sem] theorem U168b : (U 168).bytes = 8 := rfl
@[go_sem] theorem U168z : (U 168).zero = .v .nilFunc := rfl
@[go_sem] theorem U170k : (U 170).k = .other := rfl
@[go_sem] theorem U170s : (U 170).sz = 1 := rfl
@[go_sem] theorem U170b : (U 170).bytes = 8 := rfl
@[go_sem] theorem U170z : (U 170).zero = .v .nilFunc := rfl
@[go_sem] theorem U171k : (U 171).k = .other := rfl
@[go_sem] theorem U171s : (U 171).sz = 1 := rfl
@[go_sem] theorem U171b : (U 171).bytes = 8 := rfl
@[go_sem] theorem U171z : (U 171).zero = .v .nilFunc := rfl
@[go_sem] theorem U172k : (U 172).k = .other := rfl
@[go_sem] theorem U172s : (U 172).sz = 1 := rfl
@[go_sem] theorem U172b : (U 172).bytes = 8 := rfl
@[go_sem] theorem U172z : (U 172).zero = .v .nilFunc := rfl
@[go_sem] theorem U173k : (U 173).k = .other := rfl
@[go_sem] theorem U173s : (U 173).sz = 1 := rfl
@[go_sem] theorem U173b : (U 173).bytes = 8 := rfl
@[go_sem] theorem U173z : (U 173).zero = .v .nilFunc := rfl
@[go_sem] theorem U174k : (U 174).k = .other := rfl
@[go_sem] theorem U174s : (U 174).sz = 1 := rfl
@[go_sem] theorem U174b : (U 174).bytes = 8 := rfl
@[go_sem] theorem U174z : (U 174).zero = .v .nilFunc := rfl
@[go_sem] theorem U175k : (U 175).k = .other := rfl
@[go_sem] theorem U175s : (U 175).sz = 1 := rfl
@[go_sem] theorem U175b : (U 175).bytes = 8 := rfl
@[go_sem] theorem U175z : (U 175).zero = .v .nilFunc := rfl
@[go_sem] theorem U177k : (U 177).k = .other := rfl
@[go_sem] theorem U177s : (U 177).sz = 1 := rfl
@[go_sem] theorem U177b : (U 177).bytes = 8 := rfl
@[go_sem] theorem U177z : (U 177).zero = .v .nilFunc := rfl
@[go_sem] theorem U178k : (U 178).k = .other := rfl
@[go_sem] theorem U178s : (U 178).sz = 1 := rfl
@[go_sem] theorem U178b : (U 178).bytes = 8 := rfl
@[go_sem] theorem U178z : (U 178).zero = .v .nilFunc := rfl
@[go_sem] theorem U179k : (U 179).k = .other := rfl
@[go_sem] theorem U179s : (U 179).sz = 1 := rfl
@[go_sem] theorem U179b : (U 179).bytes = 8 := rfl
@[go_sem] theorem U179z : (U 179).zero = .v .nilFunc := rfl
@[go_sem] theorem U180k : (U 180).k = .arr 20 134 := rfl
@[go_sem] theorem U180s : (U 180).sz = 20 := rfl
@[go_sem] theorem U180b : (U 180).bytes = 160 := rfl
@[go_sem] theorem U180z : (U 180).zero = .agg [.v (.int .u64 0), .v (.int .u64 0), .v (.int .u64 0), .v (.int .u64 0), .v (.int .u64 0), .v (.int .u64 0), .v (.int .u64 0), .v (.int .u64 0), .v (.int .u64 0), .v (.int .u64 0), .v (.int .u64 0), .v (.int .u64 0), .v (.int .u64 0), .v (.int .u64 0), .v (.int .u64 0), .v (.int .u64 0), .v (.int .u64 0), .v (.int .u64 0), .v (.int .u64 0), .v (.int .u64 0)] := rfl
@[go_sem] theorem U180e : (U 180).eq = some (1, [.int .u64, .int .u64, .int .u64, .int .u64, .int .u64, .int .u64, .int .u64, .int .u64, .int .u64, .int .u64, .int .u64, .int .u64, .int .u64, .int .u64, .int .u64, .int .u64, .int .u64, .int .u64, .int .u64, .int .u64]) := rfl
@[go_sem] theorem U181k : (U 181).k = .int .u32 := rfl
@[go_sem] theorem U181s : (U 181).sz = 1 := rfl
@[go_sem] theorem U181b : (U 181).bytes = 4 := rfl
@[go_sem] theorem U181z : (U 181).zero = .v (.int .u32 0) := rfl
@[go_sem] theorem U182k : (U 182).k = .arr 65 5 := rfl
@[go_sem] theorem U182s : (U 182).sz = 65 := rfl
@[go_sem] theorem U182b : (U 182).bytes = 65 := rfl
@[go_sem] theorem U182z : (U 182).zero = .agg [.v (.int .u8 0), .v (.int .u8 0), .v (.int .u8 0), .v (.int .u8 0), .v (.int .u8 0), .v (.int .u8 0), .v (.int .u8 0), .v (.int .u8 0), .v (.int .u8 0), .v (.int .u8 0), .v (.int .u8 0), .v (.int .u8 0), .v (.int .u8 0), .v (.int .u8 0), .v (.int .u8 0), .v (.int .u8 0), .v (.int .u8 0), .v (.int .u8 0), .v (.int .u8 0), .v (.int .u8 0), .v (.int .u8 0), .v (.int .u8 0), .v (.int .u8 0), .v (.int .u8 0), .v (.int .u8 0), .v (.int .u8 0), .v (.int .u8 0), .v (.int .u8 0), .v (.int .u8 0), .v (.int .u8 0), .v (.int .u8 0), .v (.int .u8 0), .v (.int .u8 0), .v (.int .u8 0), .v (.int .u8 0), .v (.int .u8 0), .v (.int .u8 0), .v (.int .u8 0), .v (.int .u8 0), .v (.int .u8 0), .v (.int .u8 0), .v (.int .u8 0), .v (.int .u8 0), .v (.int .u8 0), .v (.int .u8 0), .v (.int .u8 0), .v (.int .u8 0), .v (.int .u8 0), .v (.int .u8 0), .v (.int .u8 0), .v (.int .u8 0), .v (.int .u8 0), .v (.int .u8 0), .v (.int .u8 0), .v (.int .u8 0), .v (.int .u8 0), .v (.int .u8 0), .v (.int .u8 0), .v (.int .u8 0), .v (.int .u8 0), .v (.int .u8 0), .v (.int .u8 0), .v (.int .u8 0), .v (.int .u8 0), .v (.int .u8 0)] := rfl
@[go_sem] theorem U183k : (U 183).k = .other := rfl
@[go_sem] theorem U183s : (U 183).sz = 1 := rfl
@[go_sem] theorem U183b : (U 183).bytes = 8 := rfl
@[go_sem] theorem U183z : (U 183).zero = .v .nilFunc := rfl
@[go_sem] theorem U184k : (U 184).k = .other := rfl
@[go_sem] theorem U184s : (U 184).sz = 1 := rfl
@[go_sem] theorem U184b : (U 184).bytes = 8 := rfl
@[go_sem] theorem U184z : (U 184).zero = .v .nilFunc := rfl
@[go_sem] theorem U185k : (U 185).k = .int .i64 := rfl
@[go_sem] theorem U185s : (U 185).sz = 1 := rfl
@[go_sem] theorem U185b : (U 185).bytes = 8 := rfl
@[go_sem] theorem U185z : (U 185).zero = .v (.int .i64 0) := rfl
@[go_sem] theorem U187k : (U 187).k = .other := rfl
@[go_sem] theorem U187s : (U 187).sz = 1 := rfl
@[go_sem] theorem U187b : (U 187).bytes = 8 := rfl
@[go_sem] theorem U187z : (U 187).zero = .v .nilFunc := rfl
@[go_sem] theorem U188k : (U 188).k = .ptr 199 := rfl
@[go_sem] theorem U188s : (U 188).sz = 1 := rfl
@[go_sem] theorem U188b : (U 188).bytes = 8 := rfl
@[go_sem] theorem U188z : (U 188).zero = .v (.pointer none) := rfl
@[go_sem] theorem U189k : (U 189).k = .other := rfl
@[go_sem] theorem U189s : (U 189).sz = 1 := rfl
@[go_sem] theorem U189b : (U 189).bytes = 8 := rfl
@[go_sem] theorem U189z : (U 189).zero = .v .nilFunc := rfl
@[go_sem] theorem U190k : (U 190).k = .other := rfl
@[go_sem] theorem U190s : (U 190).sz = 1 := rfl
@[go_sem] theorem U190b : (U 190).bytes = 8 := rfl
@[go_sem] theorem U190z : (U 190).zero = .v .nilFunc := rfl
@[go_sem] theorem U191k : (U 191).k = .other := rfl
@[go_sem] theorem U191s : (U 191).sz = 1 := rfl
@[go_sem] theorem U191b : (U 191).bytes = 8 := rfl
@[go_sem] theorem U191z : (U 191).zero = .v .nilFunc := rfl
@[go_sem] theorem U192k : (U 192).k = .other := rfl
@[go_sem] theorem U192s : (U 192).sz = 1 := rfl
@[go_sem] theorem U192b : (U 192).bytes = 8 := rfl
@[go_sem] theorem U192z : (U 192).zero = .v .nilFunc := rfl
@[go_sem] theorem U194k : (U 194).k = .other := rfl
@[go_sem] theorem U194s : (U 194).sz = 1 := rfl
@[go_sem] theorem U194b : (U 194).bytes = 8 := rfl
@[go_sem] theorem U194z : (U 194).zero = .v .nilFunc := rfl
@[go_sem] theorem U195k : (U 195).k = .other := rfl
@[go_sem] theorem U195s : (U 195).sz = 1 := rfl
@[go_sem] theorem U195b : (U 195).bytes = 8 := rfl
@[go_sem] theorem U195z : (U 195).zero = .v .nilFunc := rfl
@[go_sem] theorem U197k : (U 197).k = .other := rfl
@[go_sem] theorem U197s : (U 197).sz = 1 := rfl
@[go_sem] theorem U197b : (U 197).bytes = 8 := rfl
@[go_sem] theorem U197z : (U 197).zero = .v .nilFunc := rfl
@[go_sem] theorem U198k : (U 198).k = .strct [(0, 9), (1, 9), (2, 119)] := rfl
@[go_sem] theorem U198s : (U 198).sz = 3 := rfl
@[go_sem] theorem U198b : (U 198).bytes = 48 := rfl
@[go_sem] theorem U198z : (U 198).zero = .agg [.s [], .s [], .v .nilIface] := rfl
@[go_sem] theorem U199k : (U 199).k = .strct [(0, 9), (1, 9), (2, 119)] := rfl
@[go_sem] theorem U199s : (U 199).sz = 3 := rfl
@[go_sem] theorem U199b : (U 199).bytes = 48 := rfl
@[go_sem] theorem U199z : (U 199).zero = .agg [.s [], .s [], .v .nilIface] := rfl
@[go_sem] theorem U200k : (U 200).k = .other := rfl
@[go_sem] theorem U200s : (U 200).sz = 1 := rfl
@[go_sem] theorem U200b : (U 200).bytes = 8 := rfl
@[go_sem] theorem U200z : (U 200).zero = .v .nilFunc := rfl
@[go_sem] theorem U201k : (U 201).k = .other := rfl
@[go_sem] theorem U201s : (U 201).sz = 1 := rfl
@[go_sem] theorem U201b : (U 201).bytes = 8 := rfl
@[go_sem] theorem U201z : (U 201).zero = .v .nilFunc := rfl
@[go_sem] theorem U202k : (U 202).k = .arr 32 5 := rfl
@[go_sem] theorem U202s : (U 202).sz = 32 := rfl
@[go_sem] theorem U202b : (U 202).bytes = 32 := rfl
@[go_sem] theorem U202z : (U 202).zero = .agg [.v (.int .u8 0), .v (.int .u8 0), .v (.int .u8 0), .v (.int .u8 0), .v (.int .u8 0), .v (.int .u8 0), .v (.int .u8 0), .v (.int .u8 0), .v (.int .u8 0), .v (.int .u8 0), .v (.int .u8 0), .v (.int .u8 0), .v (.int .u8 0), .v (.int .u8 0), .v (.int .u8 0), .v (.int .u8 0), .v (.int .u8 0), .v (.int .u8 0), .v (.int .u8 0), .v (.int .u8 0), .v (.int .u8 0), .v (.int .u8 0), .v (.int .u8 0), .v (.int .u8 0), .v (.int .u8 0), .v (.int .u8 0), .v (.int .u8 0), .v (.int .u8 0), .v (.int .u8 0), .v (.int .u8 0), .v (.int .u8 0), .v (.int .u8 0)] := rfl
@[go_sem] theorem U202e : (U 202).eq = some (1, [.int .u8, .int .u8, .int .u8, .int .u8, .int .u8, .int .u8, .int .u8, .int .u8, .int .u8, .int .u8, .int .u8, .int .u8, .int .u8, .int .u8, .int .u8, .int .u8, .int .u8, .int .u8, .int .u8, .int .u8, .int .u8, .int .u8, .int .u8, .int .u8, .int .u8, .int .u8, .int .u8, .int .u8, .int .u8, .int .u8, .int .u8, .int .u8]) := rfl
@[go_sem] theorem U203k : (U 203).k = .arr 64 5 := rfl
@[go_sem] theorem U203s : (U 203).sz = 64 := rfl
@[go_sem] theorem U203b : (U 203).bytes = 64 := rfl
@[go_sem] theorem U203z : (U 203).zero = .agg [.v (.int .u8 0), .v (.int .u8 0), .v (.int .u8 0), .v (.int .u8 0), .v (.int .u8 0), .v (.int .u8 0), .v (.int .u8 0), .v (.int .u8 0), .v (.int .u8 0), .v (.int .u8 0), .v (.int .u8 0), .v (.int .u8 0), .v (.int .u8 0), .v (.int .u8 0), .v (.int .u8 0), .v (.int .u8 0), .v (.int .u8 0), .v (.int .u8 0), .v (.int .u8 0), .v (.int .u8 0), .v (.int .u8 0), .v (.int .u8 0), .v (.int .u8 0), .v (.int .u8 0), .v (.int .u8 0), .v (.int .u8 0), .v (.int .u8 0), .v (.int .u8 0), .v (.int .u8 0), .v (.int .u8 0), .v (.int .u8 0), .v (.int .u8 0), .v (.int .u8 0), .v (.int .u8 0), .v (.int .u8 0), .v (.int .u8 0), .v (.int .u8 0), .v (.int .u8 0), .v (.int .u8 0), .v (.int .u8 0), .v (.int .u8 0), .v (.int .u8 0), .v (.int .u8 0), .v (.int .u8 0), .v (.int .u8 0), .v (.int .u8 0), .v (.int .u8 0), .v (.int .u8 0), .v (.int .u8 0), .v (.int .u8 0), .v (.int .u8 0), .v (.int .u8 0), .v (.int .u8 0), .v (.int .u8 0), .v (.int .u8 0), .v (.int .u8 0), .v (.int .u8 0), .v (.int .u8 0), .v (.int .u8 0), .v (.int .u8 0), .v (.int .u8 0), .v (.int .u8 0), .v (.int .u8 0), .v (.int .u8 0)] := rfl
@[go_sem] theorem U204k : (U 204).k = .ptr 206 := rfl
@[go_sem] theorem U204s : (U 204).sz = 1 := rfl
@[go_sem] theorem U204b : (U 204).bytes = 8 := rfl
@[go_sem] theorem U204z : (U 204).zero = .v (.pointer none) := rfl
@[go_sem] theorem U205k : (U 205).k = .strct [(0, 9)] := rfl
@[go_sem] theorem U205s : (U 205).sz = 1 := rfl
@[go_sem] theorem U205b : (U 205).bytes = 16 := rfl
@[go_sem] theorem U205z : (U 205).zero = .agg [.s []] := rfl
@[go_sem] theorem U205e : (U 205).eq = some (1, [.str]) := rfl
@[go_sem] theorem U206k : (U 206).k = .strct [(0, 9)] := rfl
@[go_sem] theorem U206s : (U 206).sz = 1 := rfl
@[go_sem] theorem U206b : (U 206).bytes = 16 := rfl
@[go_sem] theorem U206z : (U 206).zero = .agg [.s []] := rfl
@[go_sem] theorem U206e : (U 206).eq = some (1, [.str]) := rfl
@[go_sem] theorem U207k : (U 207).k = .strct [(0, 17), (1, 17), (2, 17), (3, 9)] := rfl
@[go_sem] theorem U207s : (U 207).sz = 4 := rfl
@[go_sem] theorem U207b : (U 207).bytes = 40 := rfl
@[go_sem] theorem U207z : (U 207).zero = .agg [.v (.pointer none), .v (.pointer none), .v (.pointer none), .s []] := rfl
@[go_sem] theorem U208k : (U 208).k = .strct [(0, 17), (1, 17), (2, 17), (3, 9)] := rfl
@[go_sem] theorem U208s : (U 208).sz = 4 := rfl
@[go_sem] theorem U208b : (U 208).bytes = 40 := rfl
@[go_sem] theorem U208z : (U 208).zero = .agg [.v (.pointer none), .v (.pointer none), .v (.pointer none), .s []] := rfl
@[go_sem] theorem U209k : (U 209).k = .arr 0 16 := rfl
@[go_sem] theorem U209s : (U 209).sz = 0 := rfl
@[go_sem] theorem U212k : (U 212).k = .other := rfl
@[go_sem] theorem U212s : (U 212).sz = 1 := rfl
@[go_sem] theorem U212b : (U 212).bytes = 8 := rfl
@[go_sem] theorem U212z : (U 212).zero = .v .nilFunc := rfl
@[go_sem] theorem U213k : (U 213).k = .int .u8 := rfl
@[go_sem] theorem U213s : (U 213).sz = 1 := rfl
@[go_sem] theorem U213b : (U 213).bytes = 1 := rfl
@[go_sem] theorem U213z : (U 213).zero = .v (.int .u8 0) := rfl
@[go_sem] theorem U214k : (U 214).k = .int .u8 := rfl
@[go_sem] theorem U214s : (U 214).sz = 1 := rfl
@[go_sem] theorem U214b : (U 214).bytes = 1 := rfl
@[go_sem] theorem U214z : (U 214).zero = .v (.int .u8 0) := rfl
@[go_sem] theorem U215k : (U 215).k = .other := rfl
@[go_sem] theorem U215s : (U 215).sz = 1 := rfl
@[go_sem] theorem U215b : (U 215).bytes = 8 := rfl
@[go_sem] theorem U215z : (U 215).zero = .v .nilFunc := rfl
@[go_sem] theorem U216k : (U 216).k = .int .i32 := rfl
@[go_sem] theorem U216s : (U 216).sz = 1 := rfl
@[go_sem] theorem U216b : (U 216).bytes = 4 := rfl
@[go_sem] theorem U216z : (U 216).zero = .v (.int .i32 0) := rfl
@[go_sem] theorem U217k : (U 217).k = .int .i32 := rfl
@[go_sem] theorem U217s : (U 217).sz = 1 := rfl
@[go_sem] theorem U217b : (U 217).bytes = 4 := rfl
@[go_sem] theorem U217z : (U 217).zero = .v (.int .i32 0) := rfl
@[go_sem] theorem U218k : (U 218).k = .strct [(0, 12), (1, 12), (2, 181), (3, 213), (4, 5), (5, 5), (6, 214), (7, 215), (8, 142), (9, 216), (10, 217)] := rfl
@[go_sem] theorem U218s : (U 218).sz = 11 := rfl
@[go_sem] theorem U218b : (U 218).bytes = 48 := rfl
@[go_sem] theorem U218z : (U 218).zero = .agg [.v (.int .u64 0), .v (.int .u64 0), .v (.int .u32 0), .v (.int .u8 0), .v (.int .u8 0), .v (.int .u8 0), .v (.int .u8 0), .v .nilFunc, .v (.pointer none), .v (.int .i32 0), .v (.int .i32 0)] := rfl
@[go_sem] theorem U219k : (U 219).k = .strct [(0, 12), (1, 12), (2, 181), (3, 213), (4, 5), (5, 5), (6, 214), (7, 215), (8, 142), (9, 216), (10, 217)] := rfl
@[go_sem] theorem U219s : (U 219).sz = 11 := rfl
@[go_sem] theorem U219b : (U 219).bytes = 48 := rfl
@[go_sem] theorem U219z : (U 219).zero = .agg [.v (.int .u64 0), .v (.int .u64 0), .v (.int .u32 0), .v (.int .u8 0), .v (.int .u8 0), .v (.int .u8 0), .v (.int .u8 0), .v .nilFunc, .v (.pointer none), .v (.int .i32 0), .v (.int .i32 0)] := rfl
theorem hU : ∀ t, AgreeT Tryd.prog U t := agree_all 220 (by kernel_rfl) fun t ht => by
  unfold U
  rw [List.getD_eq_getElem?_getD, List.getElem?_eq_none (show tyRows.length ≤ t from ht)]
  rfl
theorem hm : Tryd.prog.follows .mixedOrders = true := by kernel_rfl
end Go.Proofs.YtdcchpbncckhlaaDoor

set_option linter.unusedVariables false
namespace Go.Proofs
open Go.Shelf
end Go.Proofs

set_option linter.unusedSimpArgs false
set_option linter.unusedVariables false
namespace Go.Ab
open Go
def hm2 (i : Nat) (a : Blk) (j : Nat) (b : Blk) : Heap := upd (hm1 i a) j (some b)
theorem Sub.hm2 {h : Heap} {i j : Nat} {a b : Blk} (h1 : h i = some a) (h2 : h j = some b) : Sub (hm2 i a j b) h := fun k c hk => by
  unfold Ab.hm2 at hk
  by_cases e : k = j
  · subst e; rw [upd_same] at hk; cases hk; exact h2
  · rw [upd_other _ _ e] at hk; exact Sub.hm1 h1 k c hk
theorem hm2_snd (i : Nat) (a : Blk) (j : Nat) (b : Blk) : hm2 i a j b j = some b := upd_same ..
theorem hm2_fst {i : Nat} (a : Blk) {j : Nat} (b : Blk) (h : i ≠ j) : hm2 i a j b i = some a := by
  unfold hm2; rw [upd_other _ _ h]; exact hm1_same i a
theorem hm2_none {i : Nat} (a : Blk) {j : Nat} (b : Blk) {k : Nat} (h1 : k ≠ i) (h2 : k ≠ j) : hm2 i a j b k = none := by
  unfold hm2
  rw [upd_other _ _ h2]
  unfold hm1
  rw [upd_other _ _ h1]
theorem ne_upd {h : Heap} {i j : Nat} {b : Blk} (e : upd h i (some b) j = none) : j ≠ i := fun hh => by
  subst hh; rw [upd_same] at e; cases e
theorem Sub.put {h g : Heap} (hs : Sub h g) {i : Nat} (hi : h i = Option.none) (x : Option Blk) : Sub h (Ab.upd g i x) := fun k c hk => by
  by_cases e : k = i
  · subst e; rw [hi] at hk; cases hk
  · rw [upd_other _ _ e]; exact hs k c hk
theorem Sub.both {h g : Heap} (hs : Sub h g) (i : Nat) (x : Option Blk) : Sub (Ab.upd h i x) (Ab.upd g i x) := fun k c hk => by
  by_cases e : k = i
  · subst e; rw [upd_same] at hk ⊢; exact hk
  · rw [upd_other _ _ e] at hk ⊢; exact hs k c hk
theorem Acc.put {U : TypeId → TI} {e : TypeId} {h h' : Heap} {y : AV} {xs : List AV} (ha : Acc U e h h' y xs) {id : Nat} (hid : h id = Option.none) {cs : List AV} {t : TypeId} (hob : h' id = some (.obj cs t)) (x : Option Blk) : Acc U e h (Ab.upd h' id x) y xs := by
  obtain ⟨h1, rfl | ⟨k, i1, rfl, i2⟩⟩ := ha
  · exact ⟨h1.put hid x, .inl rfl⟩
  · refine ⟨h1.put hid x, .inr ⟨k, i1, rfl, ?_⟩⟩
    rw [upd_other _ _ fun e => ?_]
    · exact i2
    · subst e; rw [hob] at i2; cases i2
theorem base_start (G : Heap) (id : Nat) (x : Option Blk) : Sub (upd G id Option.none) (upd G id x) := fun k c hk => by
  by_cases e : k = id
  · subst e; rw [upd_same] at hk; cases hk
  · rw [upd_other _ _ e] at hk ⊢; exact hk
theorem base_end {G H : Heap} {id : Nat} {b : Blk} (hs : Sub (upd G id Option.none) H) (hb : H id = some b) : Sub (upd G id (some b)) H := fun k c hk => by
  by_cases e : k = id
  · subst e; rw [upd_same] at hk; cases hk; exact hb
  · rw [upd_other _ _ e] at hk; exact hs k c (by rw [upd_other _ _ e]; exact hk)
theorem weak_tup3 (xs : List AV) (q : Perm) (a b : AV) : Weak (.tup [.sl xs q, a, b]) (.tup [.sl xs .no, a, b]) := .tup _ _ rfl fun i h1 h2 => by
  rcases i with _ | _ | _ | i
  · exact .sl _ _
  · exact .refl _
  · exact .refl _
  · simp at h1; omega
theorem WP.scope2 {P : Program} {U : TypeId → TI} {n : Nat} (hU : ∀ t, AgreeT P U t) (hm : P.follows .mixedOrders = true) {c rest : Code} {ρ : Env} {h : Heap} {K : Exit → Env → Heap → Prop} (l : Nat) (J : Nat → Env → Heap → Prop) (hf : findLabel c l = some (.seq .skip rest))
    (pass : ∀ m ρ h, J m ρ h → WP P n rest ρ h (KJump l (fun ρ' h' => ∃ m', m' < m ∧ J m' ρ' h') K))
    (first : (∀ m ρ h, J m ρ h → WP P n rest ρ h (KJump l (fun ρ h => ∃ m, J m ρ h) K)) → WP P n c ρ h (KJump l (fun ρ h => ∃ m, J m ρ h) K)) : WP P n (.scope c) ρ h K :=
  WP.scope l J hf (first fun m ρ h hJ => (pass m ρ h hJ).weaken fun e ρ h hk => by
    cases e with
    | goto l' => obtain ⟨h1, m', _, h2⟩ := hk; exact ⟨h1, m', h2⟩
    | _ => exact hk) fun m ρ h hJ => WP.seq (vcCode_sound hU hm .skip ρ h _ (pass m ρ h hJ))
end Go.Ab

namespace Go.Ab
attribute [go_sem] Int.natCast_zero Int.ofNat_zero Int.natCast_one Int.cast_ofNat_Int bne_self_eq_false beq_self_eq_true Bool.not_true Bool.not_false
attribute [go_sem] Nat.reduceLT Nat.reduceEqDiff Nat.reduceAdd Nat.reduceLeDiff Nat.reduceMul Nat.reduceSub Int.reduceBEq Int.reduceBNe
attribute [go_sem ↓] reduceIte
end Go.Ab

set_option linter.unusedSimpArgs false
set_option linter.unusedVariables false
namespace Go.Proofs.YtdcchpbncckhlaaDoor
open Go Go.Ab Go.Bf
def pow10V : List Value := Lib.pow10Tab.map fun z => Value.int .u64 z
end Go.Proofs.YtdcchpbncckhlaaDoor

set_option linter.unusedSimpArgs false
set_option linter.unusedVariables false
namespace Go.Proofs.YtdcchpbncckhlaaDoor
open Go Go.Ab Go.Bf
theorem name_ok (l : Txt) (h : Heap) : FnOK Tryd.prog 74 [.s l] h fun r h' => r = .v (.bool (nameOK l)) ∧ h' = h := by
  refine FnOK.body hU hm Tryd.func74 rfl (by kernel_rfl) 49 rfl [.tmp 2] rfl (Nat.le_of_ble_eq_true rfl) (fun hwf => ?_)
  simp -implicitDefEqProofs only [go_sem]
  refine .intro (fun m ρ h' => h' = h ∧ ∃ i : Nat, i ≤ l.length ∧ m = l.length - i ∧ chsOK (l.take i) = true ∧ lk ρ 0 = some (.s l) ∧ lk ρ 8 = some (.v (.int .i64 l.length)) ∧ lk ρ 9 = some (.v (.int .i64 i))) l.length ?_ ?_
  · refine ⟨rfl, 0, by omega, rfl, rfl, ?_, ?_, ?_⟩ <;> simp -implicitDefEqProofs only [go_sem]
  · rintro m ρ h' ⟨rfl, i, hi, rfl, hc, r0, r8, r9⟩
    simp -implicitDefEqProofs only [go_sem, r0, r8, r9]
    refine .intro (fun e => ?_) (fun e => ?_)
    · have hlt : i < l.length := Int.ofNat_lt.1 (of_decide_eq_true e)
      have w1 : IntKind.i64.wrap ((i : Int) + 1) = ((i + 1 : Nat) : Int) := by rw [wr64 _ (by have := hwf (.s l) (by simp); simp only [wfA, wf1, lim] at this; omega)]; omega
      have w0 : IntKind.i64.wrap (0 + 1) = 1 := rfl
      have hb := chsOK_bad l i hlt
      have hg := chsOK_succ l i hlt
      rw [hc] at hg
      have hcl := chCases l[i]
      have h255 := l[i].toNat_lt
      simp -implicitDefEqProofs only [go_sem, r0, r8, r9]
      refine .at i hlt ?_
      generalize hcc : l[i] = c at hb hg hcl h255 ⊢
      by_cases hi0 : i = 0
      · subst hi0
        rcases hcl with ⟨a1, a2, a3, a4, a5⟩ | ⟨a1, a2, a3, a4, a5⟩ | ⟨a1, a2, a3, a4, a5⟩ | ⟨a1, a2, a3, a4, a5⟩ | ⟨a1, a2, a3, a4, a5⟩ | ⟨a1, a2, a3, a4, a5⟩
        · simp -implicitDefEqProofs only [go_sem, r0, r8, r9, a1, a2, a3, a4, a5, w1, w0]
          refine ⟨_, ?_, rfl, 0 + 1, by omega, rfl, by simp [hg, chOK, ltr, a1, a2], ?_, ?_, ?_⟩
          · omega
          all_goals simp -implicitDefEqProofs only [go_sem, r0, r8, r9, w1, w0]
        all_goals
          simp -implicitDefEqProofs only [go_sem, r0, r8, r9, a1, a2, a3, a4, a5, w1]
          exact .same (.refl _) ⟨by simp [nameOK, hb (by simp [chOK, ltr, a1, a2]), oneOr], rfl⟩
      · have hin : ((i : Int) == 0) = false := by simp; omega
        rcases hcl with ⟨a1, a2, a3, a4, a5⟩ | ⟨a1, a2, a3, a4, a5⟩ | ⟨a1, a2, a3, a4, a5⟩ | ⟨a1, a2, a3, a4, a5⟩ | ⟨a1, a2, a3, a4, a5⟩ | ⟨a1, a2, a3, a4, a5⟩
        · simp -implicitDefEqProofs only [go_sem, r0, r8, r9, a1, a2, a3, a4, a5, w1, hin]
          refine ⟨_, ?_, rfl, i + 1, by omega, rfl, by simp [hg, chOK, ltr, dgt, a1, a2, a3, a4, a5, hi0], ?_, ?_, ?_⟩
          · omega
          all_goals simp -implicitDefEqProofs only [go_sem, r0, r8, r9, w1]
        · simp -implicitDefEqProofs only [go_sem, r0, r8, r9, a1, a2, a3, a4, a5, w1, hin]
          refine ⟨_, ?_, rfl, i + 1, by omega, rfl, by simp [hg, chOK, ltr, dgt, a1, a2, a3, a4, a5, hi0], ?_, ?_, ?_⟩
          · omega
          all_goals simp -implicitDefEqProofs only [go_sem, r0, r8, r9, w1]
        · simp -implicitDefEqProofs only [go_sem, r0, r8, r9, a1, a2, a3, a4, a5, w1, hin]
          refine ⟨_, ?_, rfl, i + 1, by omega, rfl, by simp [hg, chOK, ltr, dgt, a1, a2, a3, a4, a5, hi0], ?_, ?_, ?_⟩
          · omega
          all_goals simp -implicitDefEqProofs only [go_sem, r0, r8, r9, w1]
        · simp -implicitDefEqProofs only [go_sem, r0, r8, r9, a1, a2, a3, a4, a5, w1, hin]
          exact .same (.refl _) ⟨by simp [nameOK, hb (by simp [chOK, ltr, dgt, a1, a2, a3, a4, a5]), oneOr], rfl⟩
        · simp -implicitDefEqProofs only [go_sem, r0, r8, r9, a1, a2, a3, a4, a5, w1, hin]
          exact .same (.refl _) ⟨by simp [nameOK, hb (by simp [chOK, ltr, dgt, a1, a2, a3, a4, a5]), oneOr], rfl⟩
        · simp -implicitDefEqProofs only [go_sem, r0, r8, r9, a1, a2, a3, a4, a5, w1, hin]
          exact .same (.refl _) ⟨by simp [nameOK, hb (by simp [chOK, ltr, dgt, a1, a2, a3, a4, a5]), oneOr], rfl⟩
    · have hge : i = l.length := by have := of_decide_eq_false e; omega
      subst hge
      rw [List.take_length] at hc
      by_cases h0 : l = []
      · subst h0
        have b0 : ((([] : Txt) == []) = true) := rfl
        simp -implicitDefEqProofs only [go_sem, r0, r8, r9, b0]
        exact .same (.refl _) ⟨rfl, rfl⟩
      · have b0 : (l == []) = false := by simpa using h0
        have hp : 1 ≤ l.length := List.length_pos_iff.2 h0
        simp -implicitDefEqProofs only [go_sem, r0, r8, r9, b0]
        exact .same (.refl _) ⟨by simp [nameOK, hc, oneOr, hp]; omega, rfl⟩
end Go.Proofs.YtdcchpbncckhlaaDoor

set_option linter.unusedSimpArgs false
set_option linter.unusedVariables false
namespace Go.Proofs.YtdcchpbncckhlaaDoor
open Go Go.Ab Go.Bf
def Byt (g : FuncId) (p : UInt8 → Bool) : Prop := ∀ (c : UInt8) (h : Heap), FnOK Tryd.prog g [.v (.int .u8 c.toNat)] h fun r h' => r = .v (.bool (p c)) ∧ h' = h
theorem isDigit_ok : Byt 103 dgt := fun c h => by
  refine FnOK.body hU hm Tryd.func103 rfl (by kernel_rfl) 9 rfl [.tmp 2] rfl (Nat.le_of_ble_eq_true rfl) (fun hwf => ?_)
  cases d1 : decide (48 ≤ (c.toNat : Int)) <;> cases d2 : decide ((c.toNat : Int) ≤ 57)
  all_goals
    simp -implicitDefEqProofs only [go_sem, d1, d2]
    exact .same (.refl _) ⟨by simp only [dgt, d1, d2]; rfl, rfl⟩
theorem isWord_ok : Byt 118 wrd := fun c h => by
  refine FnOK.body hU hm Tryd.func118 rfl (by kernel_rfl) 17 rfl [.tmp 2] rfl (Nat.le_of_ble_eq_true rfl) (fun hwf => ?_)
  cases d1 : decide (97 ≤ (c.toNat : Int)) <;> cases d2 : decide ((c.toNat : Int) ≤ 122) <;> cases d3 : dgt c <;> cases d4 : ((c.toNat : Int) == 95)
  all_goals
    simp -implicitDefEqProofs only [go_sem, d1, d2, d4]
    first
      | exact .same (.refl _) ⟨by simp only [wrd, ltr, d1, d2, d3, d4]; rfl, rfl⟩
      | (refine (isDigit_ok c _).pthen ?_
         simp -implicitDefEqProofs only [go_sem, d1, d2, d3, d4]
         exact .same (.refl _) ⟨by simp only [wrd, ltr, d1, d2, d3, d4]; rfl, rfl⟩)
theorem plain_ok : Byt 120 (fun c => !oddB c) := fun c h => by
  refine FnOK.body hU hm Tryd.func120 rfl (by kernel_rfl) 17 rfl [.tmp 2] rfl (Nat.le_of_ble_eq_true rfl) (fun hwf => ?_)
  cases d1 : decide (32 ≤ (c.toNat : Int)) <;> cases d2 : decide ((c.toNat : Int) ≤ 126) <;> cases d3 : ((c.toNat : Int) == 34) <;> cases d4 : ((c.toNat : Int) == 92)
  all_goals
    simp -implicitDefEqProofs only [go_sem, d1, d2, d3, d4, bne]
    refine .same (.refl _) ⟨?_, rfl⟩
    have e1 : decide ((c.toNat : Int) < 32) = !decide (32 ≤ (c.toNat : Int)) := by
      by_cases h : (32 : Int) ≤ c.toNat
      · simp [h, Int.not_lt.2 h]
      · simp [h, Int.not_le.1 h]
    have e2 : decide (126 < (c.toNat : Int)) = !decide ((c.toNat : Int) ≤ 126) := by
      by_cases h : (c.toNat : Int) ≤ 126
      · simp [h, Int.not_lt.2 h]
      · simp [h, Int.not_le.1 h]
    simp only [oddB, e1, e2, d1, d2, d3, d4]
    rfl
theorem tw_succ (p : UInt8 → Bool) (s : Txt) (i : Nat) (hi : i < s.length) (h : i ≤ (s.takeWhile p).length) (hp : p s[i] = true) : i + 1 ≤ (s.takeWhile p).length := by
  induction s generalizing i with
  | nil => cases hi
  | cons c r ih =>
    cases i with
    | zero => simp only [List.getElem_cons_zero] at hp; simp [hp]
    | succ i =>
      by_cases hc : p c = true
      · simp only [List.takeWhile_cons, hc, if_true, List.length_cons] at h ⊢
        have := ih i (by simpa using hi) (by omega) (by simpa using hp)
        omega
      · simp [hc] at h
theorem tw_at (p : UInt8 → Bool) (s : Txt) (i : Nat) (hi : i < s.length) (h : i ≤ (s.takeWhile p).length) (hp : p s[i] = false) : (s.takeWhile p).length = i := by
  induction s generalizing i with
  | nil => cases hi
  | cons c r ih =>
    cases i with
    | zero => simp only [List.getElem_cons_zero] at hp; simp [hp]
    | succ i =>
      by_cases hc : p c = true
      · simp only [List.takeWhile_cons, hc, if_true, List.length_cons] at h ⊢
        rw [ih i (by simpa using hi) (by omega) (by simpa using hp)]
      · simp [hc] at h
theorem run_ok (g : FuncId) (p : UInt8 → Bool) (hg : Byt g p) (s : Txt) (h : Heap) : FnOK Tryd.prog 117 [.s s, .fn g []] h fun r h' => r = .v (.int .i64 (s.takeWhile p).length) ∧ h' = h := by
  refine FnOK.body hU hm Tryd.func117 rfl (by kernel_rfl) 20 rfl [.tmp 4] rfl (Nat.le_of_ble_eq_true rfl) (fun hwf => ?_)
  have hlen := hwf (.s s) (by simp)
  simp only [wfA, wf1, lim] at hlen
  simp -implicitDefEqProofs only [go_sem]
  refine .intro (fun m ρ h' => h' = h ∧ ∃ i : Nat, i ≤ s.length ∧ m = s.length - i ∧ i ≤ (s.takeWhile p).length ∧ lk ρ 0 = some (.s s) ∧ lk ρ 1 = some (.fn g []) ∧ lk ρ 5 = some (.v (.int .i64 i))) s.length ?_ ?_
  · refine ⟨rfl, 0, by omega, rfl, by omega, ?_, ?_, ?_⟩ <;> simp -implicitDefEqProofs only [go_sem]
  · rintro m ρ h' ⟨rfl, i, hi, rfl, hc, r0, r1, r5⟩
    cases d1 : decide ((i : Int) < (s.length : Int))
    · have hge : i = s.length := by have := of_decide_eq_false d1; omega
      have := takeWhile_le p s
      simp -implicitDefEqProofs only [go_sem, r0, r1, r5, d1]
      exact .same (.refl _) ⟨by simp only [oneOr]; congr 3; omega, rfl⟩
    · have hlt : i < s.length := by have := of_decide_eq_true d1; omega
      have w1 : IntKind.i64.wrap ((i : Int) + 1) = ((i + 1 : Nat) : Int) := by rw [wr64 _ (by omega)]; omega
      simp -implicitDefEqProofs only [go_sem, r0, r1, r5, d1]
      refine .at i hlt ?_
      simp -implicitDefEqProofs only [go_sem, r0, r1, r5, d1, byteA]
      refine (hg s[i] _).pthen ?_
      cases d2 : p s[i]
      · have := tw_at p s i hlt hc d2
        simp -implicitDefEqProofs only [go_sem, r0, r1, r5, d1, d2]
        exact .same (.refl _) ⟨by rw [this]; rfl, rfl⟩
      · simp -implicitDefEqProofs only [go_sem, r0, r1, r5, d1, d2, w1]
        refine ⟨_, ?_, rfl, i + 1, by omega, rfl, tw_succ p s i hlt hc d2, ?_, ?_, ?_⟩
        · omega
        all_goals simp -implicitDefEqProofs only [go_sem, r0, r1, r5, w1]
theorem name_ok' (s : Txt) (h : Heap) : FnOK Tryd.prog 102 [.s s] h fun r h' => r = .s (wordD s) ∧ h' = h := by
  refine FnOK.body hU hm Tryd.func102 rfl (by kernel_rfl) 12 rfl [.tmp 2] rfl (Nat.le_of_ble_eq_true rfl) (fun hwf => ?_)
  simp -implicitDefEqProofs only [go_sem]
  refine (run_ok _ _ isWord_ok s _).pthen ?_
  simp -implicitDefEqProofs only [go_sem]
  refine ⟨by omega, by have := takeWhile_le wrd s; omega, ?_⟩
  simp -implicitDefEqProofs only [go_sem, Option.isSome_none, Option.isSome_some, cutL_ft, Int.toNat_natCast, takeWhile_take]
  refine ⟨by have := takeWhile_le wrd s; omega, ?_⟩
  refine (name_ok _ _).pthen ?_
  cases d1 : nameOK (s.takeWhile wrd)
  · simp -implicitDefEqProofs only [go_sem, d1]
    exact .same (.refl _) ⟨by simp [wordD, d1, oneOr], rfl⟩
  · simp -implicitDefEqProofs only [go_sem, d1]
    exact .same (.refl _) ⟨by simp [wordD, d1, oneOr], rfl⟩
theorem wr8 {x : Int} (h : 0 ≤ x ∧ x < 256) : IntKind.u8.wrap x = x := by
  unfold IntKind.wrap
  simp only [IntKind.signed, IntKind.bits]
  simp
  omega
theorem digit_ok (c : UInt8) (h : Heap) : FnOK Tryd.prog 133 [.v (.int .u8 c.toNat)] h fun r h' => r = .v (.int .i64 (hexI c)) ∧ h' = h := by
  refine FnOK.body hU hm Tryd.func133 rfl (by kernel_rfl) 20 rfl [.tmp 2] rfl (Nat.le_of_ble_eq_true rfl) (fun hwf => ?_)
  have hc := c.toNat_lt
  simp -implicitDefEqProofs only [go_sem]
  refine (isDigit_ok c _).pthen ?_
  cases d1 : dgt c
  case true =>
    have e1 : 48 ≤ (c.toNat : Int) ∧ (c.toNat : Int) ≤ 57 := by simpa [dgt] using d1
    have w1 : IntKind.u8.wrap ((c.toNat : Int) - 48) = (c.toNat : Int) - 48 := wr8 (by omega)
    have w2 : IntKind.i64.wrap ((c.toNat : Int) - 48) = (c.toNat : Int) - 48 := wr64 _ (by omega)
    simp -implicitDefEqProofs only [go_sem, d1, w1, w2]
    exact .same (.refl _) ⟨by simp [hexI, d1, oneOr], rfl⟩
  cases d2 : decide (97 ≤ (c.toNat : Int)) <;> cases d3 : decide ((c.toNat : Int) ≤ 102)
  case true.true =>
    have e2 := of_decide_eq_true d2
    have e3 := of_decide_eq_true d3
    have w1 : IntKind.u8.wrap ((c.toNat : Int) - 97) = (c.toNat : Int) - 97 := wr8 (by omega)
    have w2 : IntKind.i64.wrap ((c.toNat : Int) - 97) = (c.toNat : Int) - 97 := wr64 _ (by omega)
    have w3 : IntKind.i64.wrap ((c.toNat : Int) - 97 + 10) = (c.toNat : Int) - 87 := by rw [wr64 _ (by omega)]; omega
    simp -implicitDefEqProofs only [go_sem, d1, d2, d3, w1, w2, w3]
    exact .same (.refl _) ⟨by simp [hexI, d1, e2, e3, oneOr], rfl⟩
  all_goals
    simp -implicitDefEqProofs only [go_sem, d1, d2, d3]
    simp only [decide_eq_true_eq, decide_eq_false_iff_not] at d2 d3
    refine .same (.refl _) ⟨?_, rfl⟩
    have : ¬ (97 ≤ (c.toNat : Int) ∧ (c.toNat : Int) ≤ 102) := by omega
    simp [hexI, d1, this, oneOr]
theorem hexI_le (c : UInt8) : -1 ≤ hexI c ∧ hexI c ≤ 15 := by
  unfold hexI
  split
  · rename_i h; simp [dgt] at h; omega
  · split <;> omega
theorem u8_ofNat (n : Nat) (h : n < 256) : ((UInt8.ofNat n).toNat : Int) = n := by
  simp; omega
theorem odd_ok (s : Txt) (h : Heap) : FnOK Tryd.prog 121 [.s s] h fun r h' => (∃ x : Int, r = .tup [.v (.int .u8 x), .v (.bool (oddD s).isSome)] ∧ ∀ c, oddD s = some c → x = c.toNat) ∧ h' = h := by
  refine FnOK.body hU hm Tryd.func121 rfl (by kernel_rfl) 38 rfl [.tmp 2, .tmp 3] rfl (Nat.le_of_ble_eq_true rfl) (fun hwf => ?_)
  have hlen := hwf (.s s) (by simp)
  simp only [wfA, wf1, lim] at hlen
  cases d0 : decide ((s.length : Int) < 3)
  case true =>
    have e0 : s.length < 3 := by have := of_decide_eq_true d0; omega
    have : oddD s = none := by
      match s, e0 with
      | [], _ => rfl
      | [_], _ => rfl
      | [_, _], _ => rfl
    simp -implicitDefEqProofs only [go_sem, d0]
    exact .same (.refl _) ⟨⟨0, by rw [this]; rfl, fun c hc => by rw [this] at hc; cases hc⟩, rfl⟩
  have e0 : 3 ≤ s.length := by have := of_decide_eq_false d0; omega
  obtain ⟨b, x, y, t, rfl⟩ : ∃ b x y t, s = b :: x :: y :: t := by
    match s, e0 with
    | b :: x :: y :: t, _ => exact ⟨b, x, y, t, rfl⟩
  simp only [List.length_cons] at d0
  have bad : oddD (b :: x :: y :: t) = none → ∃ z : Int, AV.tup [.v (.int .u8 0), .v (.bool false)] = .tup [.v (.int .u8 z), .v (.bool (oddD (b :: x :: y :: t)).isSome)] ∧ ∀ c, oddD (b :: x :: y :: t) = some c → z = c.toNat :=
    fun e => ⟨0, by rw [e]; rfl, fun c hc => by rw [e] at hc; cases hc⟩
  cases d1 : ((b.toNat : Int) != 92)
  case true =>
    have e1 : b ≠ 92 := by rintro rfl; simp at d1
    simp -implicitDefEqProofs only [go_sem, d0]
    refine .at 0 (by simp) ?_
    simp -implicitDefEqProofs only [go_sem, d0, byteA, List.getElem_cons_zero, d1]
    exact .same (.refl _) ⟨bad (by simp [oddD, e1]), rfl⟩
  have e1 : b = 92 := by
    have : (b.toNat : Int) = 92 := by simpa using d1
    exact UInt8.toNat_inj.1 (by show b.toNat = 92; omega)
  simp -implicitDefEqProofs only [go_sem, d0]
  refine .at 0 (by simp) ?_
  simp -implicitDefEqProofs only [go_sem, d0, byteA, List.getElem_cons_zero, d1]
  refine .at 1 (by simp) ?_
  simp -implicitDefEqProofs only [go_sem, d0, byteA, List.getElem_cons_zero, List.getElem_cons_succ, d1]
  refine (digit_ok x _).pthen ?_
  cases d2 : decide (hexI x < 0)
  case true =>
    have e2 := of_decide_eq_true d2
    simp -implicitDefEqProofs only [go_sem, d0, d1, d2]
    exact .same (.refl _) ⟨bad (by simp [oddD]; intros; omega), rfl⟩
  have e2 : 0 ≤ hexI x := by have := of_decide_eq_false d2; omega
  simp -implicitDefEqProofs only [go_sem, d0, d1, d2]
  refine .at 2 (by simp) ?_
  simp -implicitDefEqProofs only [go_sem, d0, d1, d2, byteA, List.getElem_cons_zero, List.getElem_cons_succ]
  refine (digit_ok y _).pthen ?_
  cases d3 : decide (hexI y < 0)
  case true =>
    have e3 := of_decide_eq_true d3
    simp -implicitDefEqProofs only [go_sem, d0, d1, d2, d3]
    exact .same (.refl _) ⟨bad (by simp [oddD]; intros; omega), rfl⟩
  have e3 : 0 ≤ hexI y := by have := of_decide_eq_false d3; omega
  have hx := hexI_le x
  have hy := hexI_le y
  have w1 : IntKind.i64.wrap (16 * hexI x) = 16 * hexI x := wr64 _ (by omega)
  have w2 : IntKind.i64.wrap (16 * hexI x + hexI y) = 16 * hexI x + hexI y := wr64 _ (by omega)
  have w3 : IntKind.u8.wrap (16 * hexI x + hexI y) = ((UInt8.ofNat (16 * hexI x + hexI y).toNat).toNat : Int) := by
    rw [wr8 (by omega), u8_ofNat _ (by omega)]; omega
  simp -implicitDefEqProofs only [go_sem, d0, d1, d2, d3]
  refine .quiet (by kernel_rfl) ?_
  simp -implicitDefEqProofs only [go_sem]
  refine .at 1 (by simp) ?_
  simp -implicitDefEqProofs only [go_sem, byteA, List.getElem_cons_zero, List.getElem_cons_succ]
  refine ⟨_, digit_ok x _, ?_⟩
  simp -implicitDefEqProofs only [go_sem]
  refine .at 2 (by simp) ?_
  simp -implicitDefEqProofs only [go_sem, byteA, List.getElem_cons_zero, List.getElem_cons_succ]
  refine ⟨_, digit_ok y _, ?_⟩
  simp -implicitDefEqProofs only [go_sem, w1, w2, w3]
  refine (plain_ok _ _).pthen ?_
  simp -implicitDefEqProofs only [go_sem]
  refine .same (.refl _) ⟨⟨((UInt8.ofNat (16 * hexI x + hexI y).toNat).toNat : Int), ?_, fun c hc => ?_⟩, rfl⟩
  · cases d5 : oddB (UInt8.ofNat (16 * hexI x + hexI y).toNat) <;> simp [oddD, e1, e2, e3, d5, oneOr]
  · simp only [oddD] at hc
    split at hc
    · cases hc; rfl
    · cases hc
end Go.Proofs.YtdcchpbncckhlaaDoor

set_option linter.unusedSimpArgs false
set_option linter.unusedVariables false
namespace Go.Proofs.YtdcchpbncckhlaaDoor
open Go Go.Ab Go.Bf
theorem u5z : (U 5).sz = 1 := by simp only [go_sem]
theorem u5b : (U 5).bytes = 1 := by simp only [go_sem]
theorem byteA_sized (l : List UInt8) : Sized 1 (l.map byteA) := fun z hz => by
  obtain ⟨c, _, rfl⟩ := List.mem_map.1 hz; rfl
theorem text_ok (s : Txt) (hs : s.length ≤ 10000) (h : Heap) : FnOK Tryd.prog 105 [.s s] h fun r h' => r = .tup [.s (textD s).1, .v (.int .i64 (textD s).2)] ∧ h' = h := by
  refine FnOK.body hU hm Tryd.func105 rfl (by kernel_rfl) 50 rfl [.tmp 2, .tmp 3] rfl (Nat.le_of_ble_eq_true rfl) (fun hwf => ?_)
  simp -implicitDefEqProofs only [go_sem]
  refine .intro (fun m ρ h' => ∃ (i f : Nat) (y : AV) (out : Txt), Acc U 5 h h' y (out.map byteA) ∧ out.length ≤ i ∧ m = s.length + 1 - i ∧ i ≤ s.length + 3 ∧ s.length ≤ f + i ∧ textF f (s.drop i) i out = textD s ∧ lk ρ 0 = some (.s s) ∧ lk ρ 4 = some y ∧ lk ρ 5 = some (.v (.int .i64 i))) s.length ?_ ?_
  · refine ⟨1, s.length, .sl [] .full, [], .full (.refl _), by simp, by omega, by omega, by omega, rfl, ?_, ?_, ?_⟩ <;> simp -implicitDefEqProofs only [go_sem]
  · rintro m ρ h' ⟨i, f, y, out, hy, hoi, rfl, hi, hf, he, r0, r4, r5⟩
    cases d1 : decide ((i : Int) < (s.length : Int))
    · have hge : s.length ≤ i := by have := of_decide_eq_false d1; omega
      have hd : s.drop i = [] := List.drop_of_length_le hge
      have : textD s = ([], 0) := by
        rw [← he, hd]
        cases f <;> rfl
      simp -implicitDefEqProofs only [go_sem, r0, r4, r5, d1]
      exact .mk _ (.refl _) hy.1 ⟨by rw [this]; rfl, rfl⟩
    have hlt : i < s.length := by have := of_decide_eq_true d1; omega
    obtain ⟨f, rfl⟩ : ∃ g, f = g + 1 := ⟨f - 1, by omega⟩
    have hdr : s.drop i = s[i] :: s.drop (i + 1) := List.drop_eq_getElem_cons hlt
    rw [hdr] at he
    simp only [textF] at he
    have w1 : IntKind.i64.wrap ((i : Int) + 1) = ((i + 1 : Nat) : Int) := by rw [wr64 _ (by omega)]; omega
    have w3 : IntKind.i64.wrap ((i : Int) + 3) = ((i + 3 : Nat) : Int) := by rw [wr64 _ (by omega)]; omega
    simp -implicitDefEqProofs only [go_sem, r0, r4, r5, d1]
    refine .at i hlt ?_
    cases d2 : ((s[i].toNat : Int) == 34)
    case true =>
      have e2 : s[i] = 34 := by
        have : (s[i].toNat : Int) = 34 := by simpa using d2
        exact UInt8.toNat_inj.1 (by show s[i].toNat = 34; omega)
      rw [if_pos e2] at he
      cases d3 : decide (64 < (out.length : Int))
      case true =>
        have e3 : 64 < out.length := by have := of_decide_eq_true d3; omega
        rw [if_pos e3] at he
        simp -implicitDefEqProofs only [go_sem, r0, r4, r5, d1, byteA, d2, hy.len, List.length_map, d3]
        exact .mk _ (.refl _) hy.1 ⟨by rw [← he]; rfl, rfl⟩
      have e3 : ¬ 64 < out.length := by have := of_decide_eq_false d3; omega
      rw [if_neg e3] at he
      simp -implicitDefEqProofs only [go_sem, r0, r4, r5, d1, byteA, d2, hy.len, List.length_map, d3, w1]
      obtain ⟨q, rfl⟩ := hy.row
      simp -implicitDefEqProofs only [go_sem, r0, r4, r5, w1]
      exact .mk _ (.refl _) hy.1 ⟨by rw [← he]; rfl, rfl⟩
    have e2 : s[i] ≠ 34 := by intro e; rw [e] at d2; simp at d2
    rw [if_neg e2] at he
    simp -implicitDefEqProofs only [go_sem, r0, r4, r5, d1, byteA, d2]
    refine .at i hlt ?_
    simp -implicitDefEqProofs only [go_sem, r0, r4, r5, d1, byteA, d2]
    refine (plain_ok _ _).pthen ?_
    cases d4 : oddB s[i]
    · rw [if_pos d4] at he
      simp -implicitDefEqProofs only [go_sem, r0, r4, r5, d4]
      refine .at i hlt ?_
      simp -implicitDefEqProofs only [go_sem, r0, r4, r5, d4, byteA]
      refine hy.app (zs := [byteA s[i]]) (by rw [u5z]; decide) (by rw [u5b]; decide) (fun k hk => hk) (by rw [u5z]; exact byteA_sized out) (by rw [u5z]; exact byteA_sized [s[i]]) (by rw [u5b]; simp; omega) fun y' h2 hy' hk2 => ?_
      simp -implicitDefEqProofs only [go_sem, r0, r4, r5, d4, w1]
      refine ⟨_, ?_, i + 1, f, y', out ++ [s[i]], by simpa using hy', by simp; omega, rfl, by omega, by omega, he, ?_, ?_, ?_⟩
      · omega
      all_goals simp -implicitDefEqProofs only [go_sem, r0, r4, r5, w1]
    · rw [if_neg (by simp [d4])] at he
      simp -implicitDefEqProofs only [go_sem, r0, r4, r5, d4]
      refine ⟨by omega, ?_⟩
      simp -implicitDefEqProofs only [go_sem, Option.isSome_none, Option.isSome_some, cutL_tf, Int.toNat_natCast, r0, r4, r5]
      refine ⟨by omega, by omega, ?_⟩
      refine (odd_ok _ _).mono fun x h2 hx => ?_
      obtain ⟨⟨v, rfl, hv⟩, rfl⟩ := hx
      rw [← hdr] at he
      cases e5 : oddD (s.drop i) with
      | none =>
        rw [e5] at he
        simp -implicitDefEqProofs only [go_sem, r0, r4, r5, Option.isSome_none]
        exact .mk _ (.refl _) hy.1 ⟨by rw [← he]; rfl, rfl⟩
      | some b =>
        rw [e5] at he
        have hvb := hv b e5
        subst hvb
        have h3 := oddD_len e5
        simp only [List.length_drop] at h3
        simp -implicitDefEqProofs only [go_sem, r0, r4, r5, Option.isSome_some]
        refine hy.app (zs := [byteA b]) (by rw [u5z]; decide) (by rw [u5b]; decide) (fun k hk => hk) (by rw [u5z]; exact byteA_sized out) (by rw [u5z]; exact byteA_sized [b]) (by rw [u5b]; simp; omega) fun y' h2 hy' hk2 => ?_
        simp -implicitDefEqProofs only [go_sem, r0, r4, r5, w3]
        refine ⟨_, ?_, i + 3, f, y', out ++ [b], by simpa using hy', by simp; omega, rfl, by omega, by omega, ?_, ?_, ?_, ?_⟩
        · omega
        · simp only [List.drop_drop] at he
          exact he
        all_goals simp -implicitDefEqProofs only [go_sem, r0, r4, r5, w3]
end Go.Proofs.YtdcchpbncckhlaaDoor

set_option linter.unusedVariables false
namespace Go.Bf
open Go Go.Ab
theorem dgt_iff (c : UInt8) : dgt c = true ↔ 48 ≤ c.toNat ∧ c.toNat ≤ 57 := by
  simp only [dgt, Bool.and_eq_true, decide_eq_true_eq]; omega
def decA (acc : Nat) (l : Txt) : Nat := l.foldl (fun n c => n * 10 + (c.toNat - 48)) acc
theorem decA_cons (acc : Nat) (c : UInt8) (r : Txt) : decA acc (c :: r) = decA (acc * 10 + (c.toNat - 48)) r := List.foldl_cons ..
theorem dec_mono : ∀ (l : Txt) (acc : Nat), acc ≤ decA acc l
  | [], acc => Nat.le_refl _
  | c :: r, acc => by rw [decA_cons]; exact Nat.le_trans (by omega) (dec_mono r (acc * 10 + (c.toNat - 48)))
theorem parse_digits : ∀ (l : Txt) (acc : Nat), (∀ c ∈ l, dgt c = true) → acc < 18446744073709551616 →
    Lib.parseUint10 acc l = if decA acc l < 18446744073709551616 then .ok (decA acc l) else .range
  | [], acc, _, ha => by
    have : decA acc [] = acc := rfl
    rw [this, if_pos ha]; rfl
  | c :: r, acc, hd, ha => by
    have hc := (dgt_iff c).1 (hd c (by simp))
    have hm := dec_mono r (acc * 10 + (c.toNat - 48))
    rw [decA_cons]
    unfold Lib.parseUint10
    rw [if_pos hc]
    split
    · rw [if_neg (by omega)]
    · split
      · rw [if_neg (by omega)]
      · exact parse_digits r _ (fun x hx => hd x (by simp [hx])) (by omega)
def signT (neg : Bool) : Txt := if neg then [45] else []
theorem atoi_digits (neg : Bool) (d : Txt) (h0 : d ≠ []) (hd : ∀ c ∈ d, dgt c = true) :
    Lib.atoiAll (signT neg ++ d) = if -9223372036854775808 ≤ (if neg then -(decV d : Int) else (decV d : Int)) ∧ (if neg then -(decV d : Int) else (decV d : Int)) ≤ 9223372036854775807 then .ok (if neg then -(decV d : Int) else (decV d : Int)) else .range := by
  have hp : Lib.parseMag d = if decV d < 18446744073709551616 then .ok (decV d) else .range := by
    unfold Lib.parseMag
    rw [if_neg h0]
    exact parse_digits d 0 hd (by decide)
  cases neg
  · obtain ⟨c, r, rfl⟩ := List.exists_cons_of_ne_nil h0
    have hc := (dgt_iff c).1 (hd c (by simp))
    simp only [signT, Bool.false_eq_true, if_false, List.nil_append, Lib.atoiAll]
    rw [if_neg (by omega), hp]
    have e45 : (c.toNat = 45) = False := by simp; omega
    simp only [e45, not_false_eq_true, true_and, false_and, if_false]
    split
    · rename_i h; split at h
      · cases h
      · cases h
    · rename_i h; split at h
      · cases h
      · rw [if_neg (by omega)]
    · rename_i u h; split at h
      · cases h
        split
        · rw [if_neg (by omega)]
        · rw [if_pos (by omega)]
      · cases h
  · simp only [signT, if_true, List.cons_append, List.nil_append, Lib.atoiAll]
    rw [if_pos (.inr (by decide)), hp]
    simp only [show ((45 : UInt8).toNat = 45) = True by simp, not_true_eq_false, false_and, if_false, true_and, if_true]
    split
    · rename_i h; split at h
      · cases h
      · cases h
    · rename_i h; split at h
      · cases h
      · rw [if_neg (by omega)]
    · rename_i u h; split at h
      · cases h
        split
        · rw [if_neg (by omega)]
        · rw [if_pos (by omega)]
      · cases h
theorem takeWhile_dgt (s : Txt) : ∀ c ∈ s.takeWhile dgt, dgt c = true := fun c hc => by
  induction s with
  | nil => cases hc
  | cons x r ih =>
    simp only [List.takeWhile_cons] at hc
    split at hc
    · rename_i hx
      rcases List.mem_cons.1 hc with rfl | hc
      · exact hx
      · exact ih hc
    · cases hc
end Go.Bf

set_option linter.unusedVariables false
namespace Go.Proofs
open Go.Shelf
def Tryd.lays137_ren : Go.Shelf.Ren := ⟨fun | 137 => 106 | 217 => 122 | 266 => 134 | n => n, fun | 9 => 9 | 5 => 5 | 3 => 3 | n => n, fun | n => n⟩
theorem Tryd.lays137 : Go.Proofs.Lays.n137 Tryd.prog Tryd.lays137_ren := {
  mixed := by kernel_rfl
  f137 := Tryd.func106.trans (congrArg some (by kernel_rfl))
  f217 := Tryd.func122.trans (congrArg some (by kernel_rfl))
  f266 := Tryd.func134.trans (congrArg some (by kernel_rfl))
  t3 := Tryd.underlying3
  a3 := Tryd.isAgg3
  z3 := Tryd.sizeOf3
  v3 := Tryd.zeroValue3
  t5 := Tryd.underlying5
  a5 := Tryd.isAgg5
  z5 := Tryd.sizeOf5
  v5 := Tryd.zeroValue5
  t9 := Tryd.underlying9
  a9 := Tryd.isAgg9
  z9 := Tryd.sizeOf9
  v9 := Tryd.zeroValue9 }
open Go.RowKit in
theorem Tryd.strings_IndexByte (s : ByteArray) (c : Int) (w : World) :
    Calls Tryd.prog 106 #[.string s, .int .u8 c] w fun e w' => e = .returned (.int .i64 (Lib.indexByte s.data.toList c.toNat.toUInt8)) ∧ w' = w := Any.strings_IndexByte Tryd.lays137 s c w
def Tryd.laysC172_ren : Go.Shelf.Ren := ⟨fun | 172 => 119 | 244 => 131 | 245 => 132 | 247 => 143 | 279 => 144 | 280 => 145 | 281 => 146 | 282 => 147 | 287 => 153 | 316 => 154 | 171 => 69 | 205 => 155 | 321 => 157 | 322 => 158 | 243 => 95 | 246 => 113 | 283 => 125 | 284 => 126 | 285 => 127 | 286 => 128 | 129 => 138 | 317 => 137 | 318 => 139 | 319 => 140 | 320 => 141 | 337 => 151 | 338 => 152 | n => n, fun | 9 => 9 | 3 => 3 | 75 => 119 | 76 => 120 | 4 => 4 | 5 => 5 | 167 => 185 | 37 => 62 | 0 => 0 | 85 => 186 | 2 => 2 | 168 => 188 | 53 => 134 | 175 => 196 | 46 => 136 | 210 => 199 | 127 => 142 | 145 => 206 | 143 => 204 | 21 => 21 | 171 => 166 | 173 => 169 | 212 => 180 | 51 => 181 | 20 => 20 | 213 => 182 | 232 => 202 | 233 => 203 | 80 => 122 | n => n, fun | 15 => 2 | 16 => 3 | 17 => 1 | 18 => 4 | 19 => 5 | n => n⟩
theorem Tryd.laysC172 : Go.Proofs.LaysC.n172 Tryd.prog Tryd.laysC172_ren := {
  mixed := by kernel_rfl
  f129 := Tryd.func138.trans (congrArg some (by kernel_rfl))
  f171 := Tryd.func69.trans (congrArg some (by kernel_rfl))
  f172 := Tryd.func119.trans (congrArg some (by kernel_rfl))
  f205 := Tryd.func155.trans (congrArg some (by kernel_rfl))
  f243 := Tryd.func95.trans (congrArg some (by kernel_rfl))
  f244 := Tryd.func131.trans (congrArg some (by kernel_rfl))
  f245 := Tryd.func132.trans (congrArg some (by kernel_rfl))
  f246 := Tryd.func113.trans (congrArg some (by kernel_rfl))
  f247 := Tryd.func143.trans (congrArg some (by kernel_rfl))
  f279 := Tryd.func144.trans (congrArg some (by kernel_rfl))
  f280 := Tryd.func145.trans (congrArg some (by kernel_rfl))
  f281 := Tryd.func146.trans (congrArg some (by kernel_rfl))
  f282 := Tryd.func147.trans (congrArg some (by kernel_rfl))
  f283 := Tryd.func125.trans (congrArg some (by kernel_rfl))
  f284 := Tryd.func126.trans (congrArg some (by kernel_rfl))
  f285 := Tryd.func127.trans (congrArg some (by kernel_rfl))
  f286 := Tryd.func128.trans (congrArg some (by kernel_rfl))
  f287 := Tryd.func153.trans (congrArg some (by kernel_rfl))
  f316 := Tryd.func154.trans (congrArg some (by kernel_rfl))
  f317 := Tryd.func137.trans (congrArg some (by kernel_rfl))
  f318 := Tryd.func139.trans (congrArg some (by kernel_rfl))
  f319 := Tryd.func140.trans (congrArg some (by kernel_rfl))
  f320 := Tryd.func141.trans (congrArg some (by kernel_rfl))
  f321 := Tryd.func157.trans (congrArg some (by kernel_rfl))
  f322 := Tryd.func158.trans (congrArg some (by kernel_rfl))
  f337 := Tryd.func151.trans (congrArg some (by kernel_rfl))
  f338 := Tryd.func152.trans (congrArg some (by kernel_rfl))
  t0 := Tryd.underlying0
  a0 := Tryd.isAgg0
  z0 := Tryd.sizeOf0
  v0 := Tryd.zeroValue0
  t2 := Tryd.underlying2
  a2 := Tryd.isAgg2
  z2 := Tryd.sizeOf2
  v2 := Tryd.zeroValue2
  t3 := Tryd.underlying3
  a3 := Tryd.isAgg3
  z3 := Tryd.sizeOf3
  v3 := Tryd.zeroValue3
  t4 := Tryd.underlying4
  a4 := Tryd.isAgg4
  z4 := Tryd.sizeOf4
  v4 := Tryd.zeroValue4
  t5 := Tryd.underlying5
  a5 := Tryd.isAgg5
  z5 := Tryd.sizeOf5
  v5 := Tryd.zeroValue5
  t9 := Tryd.underlying9
  a9 := Tryd.isAgg9
  z9 := Tryd.sizeOf9
  v9 := Tryd.zeroValue9
  t20 := Tryd.underlying20
  a20 := Tryd.isAgg20
  z20 := Tryd.sizeOf20
  v20 := Tryd.zeroValue20
  t21 := Tryd.underlying21
  a21 := Tryd.isAgg21
  z21 := Tryd.sizeOf21
  v21 := Tryd.zeroValue21
  t37 := Tryd.underlying62
  a37 := Tryd.isAgg62
  z37 := Tryd.sizeOf62
  v37 := Tryd.zeroValue62
  t46 := Tryd.underlying136
  a46 := Tryd.isAgg136
  z46 := Tryd.sizeOf136
  v46 := Tryd.zeroValue136
  t51 := Tryd.underlying181
  a51 := Tryd.isAgg181
  z51 := Tryd.sizeOf181
  v51 := Tryd.zeroValue181
  t53 := Tryd.underlying134
  a53 := Tryd.isAgg134
  z53 := Tryd.sizeOf134
  v53 := Tryd.zeroValue134
  t75 := Tryd.underlying119
  a75 := Tryd.isAgg119
  z75 := Tryd.sizeOf119
  v75 := Tryd.zeroValue119
  t76 := Tryd.underlying120
  a76 := Tryd.isAgg120
  z76 := Tryd.sizeOf120
  v76 := Tryd.zeroValue120
  t85 := Tryd.underlying186
  a85 := Tryd.isAgg186
  z85 := Tryd.sizeOf186
  v85 := Tryd.zeroValue186
  t127 := Tryd.underlying142
  a127 := Tryd.isAgg142
  z127 := Tryd.sizeOf142
  v127 := Tryd.zeroValue142
  t143 := Tryd.underlying204
  a143 := Tryd.isAgg204
  z143 := Tryd.sizeOf204
  v143 := Tryd.zeroValue204
  t145 := Tryd.underlying206
  a145 := Tryd.isAgg206
  z145 := Tryd.sizeOf206
  v145 := Tryd.zeroValue206
  t167 := Tryd.underlying185
  a167 := Tryd.isAgg185
  z167 := Tryd.sizeOf185
  v167 := Tryd.zeroValue185
  t168 := Tryd.underlying188
  a168 := Tryd.isAgg188
  z168 := Tryd.sizeOf188
  v168 := Tryd.zeroValue188
  t171 := Tryd.underlying166
  a171 := Tryd.isAgg166
  z171 := Tryd.sizeOf166
  v171 := Tryd.zeroValue166
  t173 := Tryd.underlying169
  a173 := Tryd.isAgg169
  z173 := Tryd.sizeOf169
  v173 := Tryd.zeroValue169
  t175 := Tryd.underlying196
  a175 := Tryd.isAgg196
  z175 := Tryd.sizeOf196
  v175 := Tryd.zeroValue196
  t210 := Tryd.underlying199
  a210 := Tryd.isAgg199
  z210 := Tryd.sizeOf199
  v210 := Tryd.zeroValue199
  t212 := Tryd.underlying180
  a212 := Tryd.isAgg180
  z212 := Tryd.sizeOf180
  v212 := Tryd.zeroValue180
  t213 := Tryd.underlying182
  a213 := Tryd.isAgg182
  z213 := Tryd.sizeOf182
  t232 := Tryd.underlying202
  a232 := Tryd.isAgg202
  z232 := Tryd.sizeOf202
  v232 := Tryd.zeroValue202
  t233 := Tryd.underlying203
  a233 := Tryd.isAgg203
  z233 := Tryd.sizeOf203
  v233 := Tryd.zeroValue203
  g15 := by kernel_rfl
  g16 := by kernel_rfl
  g17 := by kernel_rfl
  g18 := by kernel_rfl
  g19 := by kernel_rfl
  t80 := Tryd.underlying122
  a80 := Tryd.isAgg122
  z80 := Tryd.sizeOf122
  v80 := Tryd.zeroValue122
  i0 := by kernel_rfl
  i2 := by kernel_rfl
  i3 := by kernel_rfl
  i4 := by kernel_rfl
  i5 := by kernel_rfl
  i9 := by kernel_rfl
  i20 := by kernel_rfl
  i21 := by kernel_rfl
  i37 := by kernel_rfl
  i46 := by kernel_rfl
  i51 := by kernel_rfl
  i53 := by kernel_rfl
  i75 := by kernel_rfl
  i76 := by kernel_rfl
  i80 := by kernel_rfl
  i85 := by kernel_rfl
  i127 := by kernel_rfl
  i143 := by kernel_rfl
  i145 := by kernel_rfl
  i167 := by kernel_rfl
  i168 := by kernel_rfl
  i171 := by kernel_rfl
  i173 := by kernel_rfl
  i175 := by kernel_rfl
  i210 := by kernel_rfl
  i212 := by kernel_rfl
  i232 := by kernel_rfl
  i233 := by kernel_rfl
  m15 := by kernel_rfl
  m16 := by kernel_rfl
  m17 := by kernel_rfl
  m18 := by kernel_rfl
  m19 := by kernel_rfl
  c0 := by kernel_rfl
  c2 := by kernel_rfl
  c3 := by kernel_rfl
  c4 := by kernel_rfl
  c5 := by kernel_rfl
  c9 := by kernel_rfl
  c20 := by kernel_rfl
  c21 := by kernel_rfl
  c37 := by kernel_rfl
  c46 := by kernel_rfl
  c51 := by kernel_rfl
  c53 := by kernel_rfl
  c75 := by kernel_rfl
  c76 := by kernel_rfl
  c80 := by kernel_rfl
  c85 := by kernel_rfl
  c127 := by kernel_rfl
  c143 := by kernel_rfl
  c145 := by kernel_rfl
  c167 := by kernel_rfl
  c168 := by kernel_rfl
  c171 := by kernel_rfl
  c173 := by kernel_rfl
  c175 := by kernel_rfl
  c210 := by kernel_rfl
  c212 := by kernel_rfl
  c213 := by kernel_rfl
  c232 := by kernel_rfl
  c233 := by kernel_rfl }
open Go.RowKit in
theorem Tryd.strconv_Atoi_ok (s : ByteArray) (hmax : s.size ≤ 9223372036854775806) (v : Int) (h : Lib.atoiAll s.data.toList = .ok v) (w : World) :
    Calls Tryd.prog 119 #[.string s] w fun e w' => e = .returned (.tuple #[.int .i64 v, .nilIface]) ∧ (w' = w ∨ ∃ t, w' = Lib.bytesWorld w 5 t) := Any.strconv_Atoi_ok Tryd.laysC172 s hmax v h w
open Go.RowKit in
theorem Tryd.strconv_Atoi_range (s : ByteArray) (hlim : s.size ≤ 281474976710656) (h : Lib.atoiAll s.data.toList = .range) (ev : Value) (w : World) (hv : w.cell? ⟨3, 0, none⟩ = some ev) (hev : ev = .nilIface ∨ ∃ te pe, ev = .iface te pe) :
    Calls Tryd.prog 119 #[.string s] w fun e w' => ∃ N, e = .returned (.tuple #[.int .i64 (Lib.atoiSat s.data.toList), .iface 188 (.pointer (some ⟨N, 0, none⟩))]) ∧ w.heap.size ≤ N ∧ w'.heap[N]? = some (.cells #[.string ⟨#[65, 116, 111, 105]⟩, .string s, ev] 199 (0, 0)) ∧ Below w.heap.size w w' := Any.strconv_Atoi_range Tryd.laysC172 s hlim h ev w hv hev
end Go.Proofs

set_option linter.unusedSimpArgs false
set_option linter.unusedVariables false
namespace Go.Proofs.YtdcchpbncckhlaaDoor
open Go Go.Ab Go.Bf Go.RowKit
theorem run_calls (s : Txt) (hs : s.length ≤ 100000) (w : World) : Calls Tryd.prog 117 #[.string ⟨s.toArray⟩, .func (.func 103) #[] #[]] w fun e w' => e = .returned (.int .i64 (s.takeWhile dgt).length) ∧ Below w.heap.size w w' := by
  refine Go.Ab.FnOK.calls (args := [.s s, .fn 103 []]) ((run_ok _ _ isDigit_ok s noHeap).mono fun _ _ h => h.1) rfl (fun i hi => ?_)
  rcases i with _ | _ | i
  · exact .s s (by show s.length < lim; have : (100000 : Nat) < lim := by decide
                   omega)
  · exact .fn _ [] #[] rfl (fun i hi => by cases hi)
  · simp at hi; omega
def valI (neg : Bool) (d : Txt) : Int := if neg then -(decV d : Int) else (decV d : Int)
def inI (neg : Bool) (d : Txt) : Prop := -9223372036854775808 ≤ (if neg then -(decV d : Int) else (decV d : Int)) ∧ (if neg then -(decV d : Int) else (decV d : Int)) ≤ 9223372036854775807
instance (neg : Bool) (d : Txt) : Decidable (inI neg d) := inferInstanceAs (Decidable (_ ∧ _))
theorem signT_le (neg : Bool) : (signT neg).length ≤ 1 := by cases neg <;> decide
theorem atoi_in (neg : Bool) (d : Txt) (h0 : d ≠ []) (hd : ∀ c ∈ d, dgt c = true) (hlen : d.length ≤ 10000) (S : ByteArray) (hS : S = ⟨(signT neg ++ d).toArray⟩) (hr : inI neg d) (W : World) :
    Calls Tryd.prog 119 #[.string S] W fun e w' => e = .returned (.tuple #[.int .i64 (valI neg d), .nilIface]) ∧ Below W.heap.size W w' := by
  have hl := signT_le neg
  have hsz : S.size ≤ 10001 := by rw [hS]; simp [ByteArray.size]; omega
  have ha : Lib.atoiAll S.data.toList = .ok (valI neg d) := by
    rw [hS]
    show Lib.atoiAll (signT neg ++ d) = _
    rw [atoi_digits neg d h0 hd]
    exact if_pos hr
  refine (Tryd.strconv_Atoi_ok S (by omega) _ ha W).mono ?_
  rintro e w' ⟨rfl, rfl | ⟨t, rfl⟩⟩
  · exact ⟨rfl, .refl _ _⟩
  · exact ⟨rfl, Lib.bytesWorld_below W _ t⟩
theorem atoi_out (neg : Bool) (d : Txt) (h0 : d ≠ []) (hd : ∀ c ∈ d, dgt c = true) (hlen : d.length ≤ 10000) (S : ByteArray) (hS : S = ⟨(signT neg ++ d).toArray⟩) (hr : ¬ inI neg d) (W : World) (ev : Value) (hv : W.cell? ⟨3, 0, none⟩ = some ev) (hev : ev = .nilIface ∨ ∃ te pe, ev = .iface te pe) :
    Calls Tryd.prog 119 #[.string S] W fun e w' => (∃ (x : Int) (N : Nat), e = .returned (.tuple #[.int .i64 x, .iface 188 (.pointer (some ⟨N, 0, none⟩))])) ∧ Below W.heap.size W w' := by
  have hl := signT_le neg
  have hsz : S.size ≤ 10001 := by rw [hS]; simp [ByteArray.size]; omega
  have ha : Lib.atoiAll S.data.toList = .range := by
    rw [hS]
    show Lib.atoiAll (signT neg ++ d) = _
    rw [atoi_digits neg d h0 hd]
    exact if_neg hr
  refine (Tryd.strconv_Atoi_range S (by omega) ha ev W hv hev).mono ?_
  rintro e w' ⟨N, rfl, _, _, hb⟩
  exact ⟨⟨_, N, rfl⟩, hb⟩
set_option maxHeartbeats 1000000 in
set_option maxRecDepth 1000000 in
theorem number_walk (neg : Bool) (s : Txt) (hs : s.length ≤ 10000) (w : World) (ev : Value) (hv : w.cell? ⟨3, 0, none⟩ = some ev) (hev : ev = .nilIface ∨ ∃ te pe, ev = .iface te pe) (hg : 3 < w.heap.size) :
    Calls Tryd.prog 104 #[.string ⟨(signT neg).toArray⟩, .string ⟨s.toArray⟩] w fun e w' => e = .returned (.tuple #[.int .i64 (numD neg s).1, .int .i64 ((numD neg s).2 : Nat)]) ∧ Below w.heap.size w w' := by
  have hle := takeWhile_le dgt s
  obtain ⟨d, ed⟩ : ∃ d, s.takeWhile dgt = d := ⟨_, rfl⟩
  have htk : s.take d.length = d := by rw [← ed, takeWhile_take]
  have hrun := run_calls s (by omega) w
  have hall := takeWhile_dgt s
  rw [ed] at hrun hle hall
  go_enter Tryd.func104, Tryd.ntmps104
  by_cases h0 : d.length = 0
  · have e0 : d = [] := List.length_eq_zero_iff.1 h0
    have en : numD neg s = (0, 0) := by unfold numD; rw [ed, if_pos (.inl e0)]
    go_wp2_with (go_at_call 117; refine hrun.mono ?_)
    rintro e W0 ⟨rfl, b0⟩
    rw [h0]
    go_wp2
    go_ret2
    rw [en]
    exact ⟨rfl, b0⟩
  · have e0 : d ≠ [] := by rintro rfl; exact h0 rfl
    go_wp2_with (go_at_call 117; refine hrun.mono ?_)
    rintro e W0 ⟨rfl, b0⟩
    have hpos : 0 < d.length := by omega
    have hs0 : 0 < s.length := by omega
    have hsz : 0 < (⟨s.toArray⟩ : ByteArray).size := by simpa [ByteArray.size] using hs0
    have hg0 : (⟨s.toArray⟩ : ByteArray)[0] = s[0] := rfl
    have hgn : ∀ x : UInt8, (s.head? = some x) ↔ s[0] = x := fun x => by
      rw [List.head?_eq_getElem?, List.getElem?_eq_getElem hs0]; simp
    cases d0 : ((d.length : Int) == 0)
    case true => exact absurd (by simpa using d0) h0
    have hS : (⟨(signT neg).toArray⟩ : ByteArray) ++ (⟨s.toArray⟩ : ByteArray).extract 0 d.length = ⟨(signT neg ++ d).toArray⟩ := by
      apply ByteArray.ext
      simp [ByteArray.data_extract, htk]
    have hcat : ¬ 9223372036854775807 < List.length (signT neg) + d.length := by have := signT_le neg; omega
    cases d1 : decide (1 < (d.length : Int))
    · have f1 : ¬ 1 < d.length := by have := of_decide_eq_false d1; omega
      have en : numD neg s = if inI neg d then (valI neg d, d.length) else (0, 0) := by
        unfold numD
        rw [ed, if_neg (by simp [e0, f1])]
        rfl
      have hv0 : W0.cell? ⟨3, 0, none⟩ = some ev := by rw [b0.cell hg]; exact hv
      by_cases hr : inI neg d
      · rw [if_pos hr] at en
        go_wp2_with (go_at_call 119; refine (atoi_in neg d e0 hall (by omega) _ (by first | exact hS | (apply ByteArray.ext; simp [ByteArray.data_extract, htk])) hr _).mono ?_)
        rintro e W1 ⟨rfl, b1⟩
        go_wp2
        go_ret2
        rw [en]
        exact ⟨rfl, b0.trans (b1.mono b0.size)⟩
      · rw [if_neg hr] at en
        go_wp2_with (go_at_call 119; refine (atoi_out neg d e0 hall (by omega) _ (by first | exact hS | (apply ByteArray.ext; simp [ByteArray.data_extract, htk])) hr _ ev hv0 hev).mono ?_)
        rintro e W1 ⟨⟨x, N, rfl⟩, b1⟩
        go_wp2
        go_ret2
        rw [en]
        exact ⟨rfl, b0.trans (b1.mono b0.size)⟩
    · have f1 : 1 < d.length := by have := of_decide_eq_true d1; omega
      cases d2 : ((s[0].toNat : Int) == 48)
      · have f2 : s.head? ≠ some 48 := by
          rw [ne_eq, hgn]; intro e; rw [e] at d2; simp at d2
        have en : numD neg s = if inI neg d then (valI neg d, d.length) else (0, 0) := by
          unfold numD
          rw [ed, if_neg (by simp [e0, f2])]
          rfl
        have hv0 : W0.cell? ⟨3, 0, none⟩ = some ev := by rw [b0.cell hg]; exact hv
        by_cases hr : inI neg d
        · rw [if_pos hr] at en
          go_wp2_with (go_at_call 119; refine (atoi_in neg d e0 hall (by omega) _ (by first | exact hS | (apply ByteArray.ext; simp [ByteArray.data_extract, htk])) hr _).mono ?_)
          rintro e W1 ⟨rfl, b1⟩
          go_wp2
          go_ret2
          rw [en]
          exact ⟨rfl, b0.trans (b1.mono b0.size)⟩
        · rw [if_neg hr] at en
          go_wp2_with (go_at_call 119; refine (atoi_out neg d e0 hall (by omega) _ (by first | exact hS | (apply ByteArray.ext; simp [ByteArray.data_extract, htk])) hr _ ev hv0 hev).mono ?_)
          rintro e W1 ⟨⟨x, N, rfl⟩, b1⟩
          go_wp2
          go_ret2
          rw [en]
          exact ⟨rfl, b0.trans (b1.mono b0.size)⟩
      · have f2 : s.head? = some 48 := by
          rw [hgn]
          have : (s[0].toNat : Int) = 48 := by simpa using d2
          exact UInt8.toNat_inj.1 (by show s[0].toNat = 48; omega)
        have en : numD neg s = (0, 0) := by unfold numD; rw [ed, if_pos (.inr ⟨f1, f2⟩)]
        go_wp2
        go_ret2
        rw [en]
        exact ⟨rfl, b0⟩
def ErrT (h : Heap) : Prop := ∃ ev : Value, (ev = .nilIface ∨ ∃ te pe, ev = .iface te pe) ∧ Tab h 3 [ev]
theorem ErrT.sub {h h' : Heap} (he : ErrT h) (hs : Ab.Sub h h') : ErrT h' := by
  obtain ⟨ev, h1, h2⟩ := he
  exact ⟨ev, h1, h2.sub hs⟩
theorem number_ok (neg : Bool) (s : Txt) (hs : s.length ≤ 10000) (h : Heap) (he : ErrT h) : FnOK Tryd.prog 104 [.s (signT neg), .s s] h fun r h' => r = .tup [.v (.int .i64 (numD neg s).1), .v (.int .i64 ((numD neg s).2 : Nat))] ∧ h' = h := by
  obtain ⟨ev, hev, id, hi⟩ := he
  refine .lib ⟨_, Tryd.func104, by kernel_rfl, rfl⟩ fun c vs hs' g h1 h2 => ?_
  obtain ⟨u, v, rfl⟩ : ∃ u v, vs = #[u, v] := by
    match vs, h1 with
    | ⟨[u, v]⟩, _ => exact ⟨u, v, rfl⟩
  have e1 : u = .string ⟨(signT neg).toArray⟩ := ((h2 0 (by simp)).s_inv).1
  have e2 : v = .string ⟨s.toArray⟩ := ((h2 1 (by simp)).s_inv).1
  subst e1; subst e2
  obtain ⟨_, t, fr, hh⟩ := g.ro id _ _ (hs' _ _ hi)
  have hc : c.w.cell? ⟨3, 0, none⟩ = some ev := by simp [World.cell?, hh]
  refine (number_walk neg s hs c.w ev hc hev (lt_of_get hh)).mono ?_
  rintro e w' ⟨rfl, hb⟩
  refine ⟨⟨_, rfl, fun c' _ => ?_⟩, hb⟩
  refine .tup _ _ rfl fun i hi => ?_
  rcases i with _ | _ | i
  · exact .v _
  · exact .v _
  · simp at hi; omega
end Go.Proofs.YtdcchpbncckhlaaDoor

set_option linter.unusedSimpArgs false
set_option linter.unusedVariables false
namespace Go.Bf
open Go Go.Ab
def marks : Txt := [123, 125, 40, 41, 46, 44, 59, 61, 60, 62, 33]
set_option maxRecDepth 100000 in
theorem idx_marks_fin : ∀ n : Fin 256, decide (0 ≤ Lib.indexByte marks (UInt8.ofNat n.val)) = markB (UInt8.ofNat n.val) := by decide
theorem idx_marks (c : UInt8) : decide (0 ≤ Lib.indexByte marks c) = markB c := by
  have := idx_marks_fin ⟨c.toNat, c.toNat_lt⟩
  simpa using this
end Go.Bf
namespace Go.Proofs.YtdcchpbncckhlaaDoor
open Go Go.Ab Go.Bf
theorem index_ok (l : Txt) (c : UInt8) (h : Heap) : FnOK Tryd.prog 106 [.s l, .v (.int .u8 c.toNat)] h fun r h' => r = .v (.int .i64 (Lib.indexByte l c)) ∧ h' = h := by
  refine .lib ⟨_, Tryd.func106, by kernel_rfl, rfl⟩ fun cx vs hs' g h1 h2 => ?_
  obtain ⟨u, v, rfl⟩ : ∃ u v, vs = #[u, v] := by
    match vs, h1 with
    | ⟨[u, v]⟩, _ => exact ⟨u, v, rfl⟩
  have e1 : u = .string ⟨l.toArray⟩ := ((h2 0 (by simp)).s_inv).1
  have e2 : v = .int .u8 c.toNat := (h2 1 (by simp)).v_inv
  subst e1; subst e2
  refine (Tryd.strings_IndexByte ⟨l.toArray⟩ c.toNat cx.w).mono ?_
  rintro e w' ⟨rfl, rfl⟩
  refine ⟨⟨_, rfl, fun c' _ => ?_⟩, .refl _ _⟩
  have : ((c.toNat : Int).toNat).toUInt8 = c := by simp
  rw [this]
  exact .v _
theorem begins_ok (s : Txt) (h0 : s ≠ []) (hs : s.length ≤ 4096) (h : Heap) (he : ErrT h) : FnOK Tryd.prog 78 [.s s] h fun r h' => r = .tup [tokA (beginsD s).1, .v (.int .i64 ((beginsD s).2 : Nat))] ∧ h' = h := by
  refine FnOK.body hU hm Tryd.func78 rfl (by kernel_rfl) 106 rfl [.cell 2 97, .tmp 3] rfl (Nat.le_of_ble_eq_true rfl) (fun hwf => ?_)
  obtain ⟨c, r, rfl⟩ := List.exists_cons_of_ne_nil h0
  have hsl : r.length ≤ 4095 := by simpa using hs
  simp -implicitDefEqProofs only [go_sem]
  intro i2 hi2
  simp -implicitDefEqProofs only [go_sem]
  intro i4 hi4
  have n24 := ne_upd hi4
  have g2 : ∀ (f : Heap) (x : Option Blk), upd f i4 x i2 = f i2 := fun f x => upd_other f x n24.symm
  have g4 : ∀ (f : Heap) (x : Option Blk), upd f i2 x i4 = f i4 := fun f x => upd_other f x n24
  have hsub : Ab.Sub h (upd (upd h i2 (some (.obj [.v (.int .i64 0), .v (.int .i64 0), .v (.int .i64 0), .s []] 97))) i4 (some (.obj [.v (.int .i64 0), .v (.int .i64 0), .v (.int .i64 0), .s []] 97))) := (Sub.upd_new hi2).trans (.upd_new hi4)
  have he2 := he.sub hsub
  have hi4h : h i4 = none := by rw [upd_other _ _ n24] at hi4; exact hi4
  simp -implicitDefEqProofs only [go_sem]
  refine .at 0 (by simp) ?_
  cases la : decide (97 ≤ (c.toNat : Int))
  · have hl : ltr c = false := by simp only [ltr, la, Bool.false_and]
    simp -implicitDefEqProofs only [go_sem, byteA, List.getElem_cons_zero, la]
    have hlt : (c :: r).headD 0 = c := rfl
    refine (isDigit_ok c _).pthen ?_
    cases d1 : dgt c
    case true =>
      simp -implicitDefEqProofs only [go_sem, d1, g2, g4, upd_same]
      refine (number_ok false (c :: r) (by simp; omega) _ (he.sub (by repeat (first | exact .refl _ | refine Sub.put ?_ (by assumption) _)))).pthen ?_
      simp -implicitDefEqProofs only [go_sem, d1, g2, g4, upd_same]
      exact .mk _ (.refl _) (by repeat (first | exact .refl _ | refine Sub.put ?_ (by assumption) _)) ⟨by simp [beginsD, hl, d1, tokA, oneOr], rfl⟩
    have nb : ∀ (x : UInt8) (n : Int), n = x.toNat → ((c.toNat : Int) == n) = true → c = x := fun x n e h => by
      have : (c.toNat : Int) = n := by simpa using h
      exact UInt8.toNat_inj.1 (by omega)
    have nn : ∀ (x : UInt8) (n : Int), n = x.toNat → ((c.toNat : Int) == n) = false → c ≠ x := fun x n e h hc => by
      subst hc; rw [e] at h; simp at h
    have k1 := numD_le true r
    have k2 := numD_le false r
    have k3 := wordD_le r
    cases d2 : ((c.toNat : Int) == 45)
    case true =>
      have e2 := nb 45 45 rfl d2
      simp -implicitDefEqProofs only [go_sem, d1, d2, g2, g4, upd_same, cutL_tf, Option.isSome_none, Option.isSome_some, Int.reduceToNat, List.drop_succ_cons, List.drop_zero, List.length_cons]
      refine ⟨by omega, by omega, by omega, ?_⟩
      refine (number_ok true r (by omega) _ (he.sub (by repeat (first | exact .refl _ | refine Sub.put ?_ (by assumption) _)))).pthen ?_
      cases d3 : ((numD true r).1 == 0)
      · have e3 : (numD true r).1 ≠ 0 := by simpa using d3
        have w1 : IntKind.i64.wrap (((numD true r).2 : Int) + 1) = (((numD true r).2 + 1 : Nat) : Int) := by rw [wr64 _ (by omega)]; omega
        simp -implicitDefEqProofs only [go_sem, d1, d2, d3, g2, g4, upd_same, w1]
        exact .mk _ (.refl _) (by repeat (first | exact .refl _ | refine Sub.put ?_ (by assumption) _)) ⟨by subst e2; simp [beginsD, hl, d1, e3, tokA, oneOr], rfl⟩
      · have e3 : (numD true r).1 = 0 := by simpa using d3
        simp -implicitDefEqProofs only [go_sem, d1, d2, d3, g2, g4, upd_same]
        exact .mk _ (.refl _) (by repeat (first | exact .refl _ | refine Sub.put ?_ (by assumption) _)) ⟨by subst e2; simp [beginsD, hl, d1, e3, tokA, oneOr], rfl⟩
    have e2 := nn 45 45 rfl d2
    cases d4 : ((c.toNat : Int) == 64)
    case true =>
      have e4 := nb 64 64 rfl d4
      simp -implicitDefEqProofs only [go_sem, d1, d2, d4, g2, g4, upd_same, cutL_tf, Option.isSome_none, Option.isSome_some, Int.reduceToNat, List.drop_succ_cons, List.drop_zero, List.length_cons]
      refine ⟨by omega, by omega, by omega, ?_⟩
      refine (number_ok false r (by omega) _ (he.sub (by repeat (first | exact .refl _ | refine Sub.put ?_ (by assumption) _)))).pthen ?_
      cases d3 : (((numD false r).2 : Int) == 0)
      case true =>
        have e3 : (numD false r).2 = 0 := by simpa using d3
        simp -implicitDefEqProofs only [go_sem, d1, d2, d4, d3, g2, g4, upd_same]
        exact .mk _ (.refl _) (by repeat (first | exact .refl _ | refine Sub.put ?_ (by assumption) _)) ⟨by subst e4; simp [beginsD, hl, d1, e3, tokA, oneOr], rfl⟩
      have e3 : (numD false r).2 ≠ 0 := by simpa using d3
      cases d5 : decide (1099511627776 < (numD false r).1)
      · have e5 : ¬ 1099511627776 < (numD false r).1 := of_decide_eq_false d5
        have w1 : IntKind.i64.wrap (((numD false r).2 : Int) + 1) = (((numD false r).2 + 1 : Nat) : Int) := by rw [wr64 _ (by omega)]; omega
        simp -implicitDefEqProofs only [go_sem, d1, d2, d4, d3, d5, g2, g4, upd_same, w1]
        exact .mk _ (.refl _) (by repeat (first | exact .refl _ | refine Sub.put ?_ (by assumption) _)) ⟨by subst e4; simp [beginsD, hl, d1, e3, e5, tokA, oneOr], rfl⟩
      · have e5 : 1099511627776 < (numD false r).1 := of_decide_eq_true d5
        simp -implicitDefEqProofs only [go_sem, d1, d2, d4, d3, d5, g2, g4, upd_same]
        exact .mk _ (.refl _) (by repeat (first | exact .refl _ | refine Sub.put ?_ (by assumption) _)) ⟨by subst e4; simp [beginsD, hl, d1, e3, e5, tokA, oneOr], rfl⟩
    have e4 := nn 64 64 rfl d4
    cases d6 : ((c.toNat : Int) == 35)
    case true =>
      have e6 := nb 35 35 rfl d6
      simp -implicitDefEqProofs only [go_sem, d1, d2, d4, d6, g2, g4, upd_same, cutL_tf, Option.isSome_none, Option.isSome_some, Int.reduceToNat, List.drop_succ_cons, List.drop_zero, List.length_cons]
      refine ⟨by omega, by omega, by omega, ?_⟩
      refine (name_ok' r _).pthen ?_
      cases d3 : (wordD r == [])
      · have e3 : wordD r ≠ [] := by simpa using d3
        have w1 : IntKind.i64.wrap (((wordD r).length : Int) + 1) = (((wordD r).length + 1 : Nat) : Int) := by rw [wr64 _ (by omega)]; omega
        simp -implicitDefEqProofs only [go_sem, d1, d2, d4, d6, d3, g2, g4, upd_same, w1]
        exact .mk _ (.refl _) (by repeat (first | exact .refl _ | refine Sub.put ?_ (by assumption) _)) ⟨by subst e6; simp [beginsD, hl, d1, e3, tokA, oneOr], rfl⟩
      · have e3 : wordD r = [] := by simpa using d3
        simp -implicitDefEqProofs only [go_sem, d1, d2, d4, d6, d3, g2, g4, upd_same]
        exact .mk _ (.refl _) (by repeat (first | exact .refl _ | refine Sub.put ?_ (by assumption) _)) ⟨by subst e6; simp [beginsD, hl, d1, e3, tokA, oneOr], rfl⟩
    have e6 := nn 35 35 rfl d6
    cases d7 : ((c.toNat : Int) == 34)
    case true =>
      have e7 := nb 34 34 rfl d7
      simp -implicitDefEqProofs only [go_sem, d1, d2, d4, d6, d7, g2, g4, upd_same]
      refine (text_ok (c :: r) (by simp; omega) _).pthen ?_
      simp -implicitDefEqProofs only [go_sem, d1, d2, d4, d6, d7, g2, g4, upd_same]
      exact .mk _ (.refl _) (by repeat (first | exact .refl _ | refine Sub.put ?_ (by assumption) _)) ⟨by subst e7; simp [beginsD, hl, d1, tokA, oneOr], rfl⟩
    have e7 := nn 34 34 rfl d7
    simp -implicitDefEqProofs only [go_sem, d1, d2, d4, d6, d7, g2, g4, upd_same]
    refine (index_ok marks c _).pthen ?_
    cases d8 : markB c
    · simp -implicitDefEqProofs only [go_sem, d1, d2, d4, d6, d7, g2, g4, upd_same, idx_marks, d8]
      exact .mk _ (.refl _) (by repeat (first | exact .refl _ | refine Sub.put ?_ (by assumption) _)) ⟨by simp [beginsD, hl, d1, e2, e4, e6, e7, d8, tokA, oneOr], rfl⟩
    · simp -implicitDefEqProofs only [go_sem, d1, d2, d4, d6, d7, g2, g4, upd_same, idx_marks, d8]
      refine .calls noHeap [0, 1, 2, 3, 4, 5, 6] (fun _ _ h => by cases h) (by kernel_rfl) rfl ?_
      simp -implicitDefEqProofs only [go_sem, d1, d2, d4, d6, d7, d8, g2, g4, upd_same, cutL_ft, Option.isSome_none, Option.isSome_some, Int.reduceToNat, List.take_succ_cons, List.take_zero, List.length_cons]
      refine ⟨by omega, by omega, by omega, (fun _ _ h => (by cases h)), (fun _ _ h => (by cases h)), ?_⟩
      exact .mk _ (.refl _) (by repeat (first | exact .refl _ | refine Sub.put ?_ (by assumption) _)) ⟨by simp [beginsD, hl, d1, e2, e4, e6, e7, d8, tokA, oneOr], rfl⟩
  · cases lb : decide ((c.toNat : Int) ≤ 122)
    · have hl : ltr c = false := by simp only [ltr, lb, Bool.and_false]
      simp -implicitDefEqProofs only [go_sem, byteA, List.getElem_cons_zero, la, lb]
      have hlt : (c :: r).headD 0 = c := rfl
      refine (isDigit_ok c _).pthen ?_
      cases d1 : dgt c
      case true =>
        simp -implicitDefEqProofs only [go_sem, d1, g2, g4, upd_same]
        refine (number_ok false (c :: r) (by simp; omega) _ (he.sub (by repeat (first | exact .refl _ | refine Sub.put ?_ (by assumption) _)))).pthen ?_
        simp -implicitDefEqProofs only [go_sem, d1, g2, g4, upd_same]
        exact .mk _ (.refl _) (by repeat (first | exact .refl _ | refine Sub.put ?_ (by assumption) _)) ⟨by simp [beginsD, hl, d1, tokA, oneOr], rfl⟩
      have nb : ∀ (x : UInt8) (n : Int), n = x.toNat → ((c.toNat : Int) == n) = true → c = x := fun x n e h => by
        have : (c.toNat : Int) = n := by simpa using h
        exact UInt8.toNat_inj.1 (by omega)
      have nn : ∀ (x : UInt8) (n : Int), n = x.toNat → ((c.toNat : Int) == n) = false → c ≠ x := fun x n e h hc => by
        subst hc; rw [e] at h; simp at h
      have k1 := numD_le true r
      have k2 := numD_le false r
      have k3 := wordD_le r
      cases d2 : ((c.toNat : Int) == 45)
      case true =>
        have e2 := nb 45 45 rfl d2
        simp -implicitDefEqProofs only [go_sem, d1, d2, g2, g4, upd_same, cutL_tf, Option.isSome_none, Option.isSome_some, Int.reduceToNat, List.drop_succ_cons, List.drop_zero, List.length_cons]
        refine ⟨by omega, by omega, by omega, ?_⟩
        refine (number_ok true r (by omega) _ (he.sub (by repeat (first | exact .refl _ | refine Sub.put ?_ (by assumption) _)))).pthen ?_
        cases d3 : ((numD true r).1 == 0)
        · have e3 : (numD true r).1 ≠ 0 := by simpa using d3
          have w1 : IntKind.i64.wrap (((numD true r).2 : Int) + 1) = (((numD true r).2 + 1 : Nat) : Int) := by rw [wr64 _ (by omega)]; omega
          simp -implicitDefEqProofs only [go_sem, d1, d2, d3, g2, g4, upd_same, w1]
          exact .mk _ (.refl _) (by repeat (first | exact .refl _ | refine Sub.put ?_ (by assumption) _)) ⟨by subst e2; simp [beginsD, hl, d1, e3, tokA, oneOr], rfl⟩
        · have e3 : (numD true r).1 = 0 := by simpa using d3
          simp -implicitDefEqProofs only [go_sem, d1, d2, d3, g2, g4, upd_same]
          exact .mk _ (.refl _) (by repeat (first | exact .refl _ | refine Sub.put ?_ (by assumption) _)) ⟨by subst e2; simp [beginsD, hl, d1, e3, tokA, oneOr], rfl⟩
      have e2 := nn 45 45 rfl d2
      cases d4 : ((c.toNat : Int) == 64)
      case true =>
        have e4 := nb 64 64 rfl d4
        simp -implicitDefEqProofs only [go_sem, d1, d2, d4, g2, g4, upd_same, cutL_tf, Option.isSome_none, Option.isSome_some, Int.reduceToNat, List.drop_succ_cons, List.drop_zero, List.length_cons]
        refine ⟨by omega, by omega, by omega, ?_⟩
        refine (number_ok false r (by omega) _ (he.sub (by repeat (first | exact .refl _ | refine Sub.put ?_ (by assumption) _)))).pthen ?_
        cases d3 : (((numD false r).2 : Int) == 0)
        case true =>
          have e3 : (numD false r).2 = 0 := by simpa using d3
          simp -implicitDefEqProofs only [go_sem, d1, d2, d4, d3, g2, g4, upd_same]
          exact .mk _ (.refl _) (by repeat (first | exact .refl _ | refine Sub.put ?_ (by assumption) _)) ⟨by subst e4; simp [beginsD, hl, d1, e3, tokA, oneOr], rfl⟩
        have e3 : (numD false r).2 ≠ 0 := by simpa using d3
        cases d5 : decide (1099511627776 < (numD false r).1)
        · have e5 : ¬ 1099511627776 < (numD false r).1 := of_decide_eq_false d5
          have w1 : IntKind.i64.wrap (((numD false r).2 : Int) + 1) = (((numD false r).2 + 1 : Nat) : Int) := by rw [wr64 _ (by omega)]; omega
          simp -implicitDefEqProofs only [go_sem, d1, d2, d4, d3, d5, g2, g4, upd_same, w1]
          exact .mk _ (.refl _) (by repeat (first | exact .refl _ | refine Sub.put ?_ (by assumption) _)) ⟨by subst e4; simp [beginsD, hl, d1, e3, e5, tokA, oneOr], rfl⟩
        · have e5 : 1099511627776 < (numD false r).1 := of_decide_eq_true d5
          simp -implicitDefEqProofs only [go_sem, d1, d2, d4, d3, d5, g2, g4, upd_same]
          exact .mk _ (.refl _) (by repeat (first | exact .refl _ | refine Sub.put ?_ (by assumption) _)) ⟨by subst e4; simp [beginsD, hl, d1, e3, e5, tokA, oneOr], rfl⟩
      have e4 := nn 64 64 rfl d4
      cases d6 : ((c.toNat : Int) == 35)
      case true =>
        have e6 := nb 35 35 rfl d6
        simp -implicitDefEqProofs only [go_sem, d1, d2, d4, d6, g2, g4, upd_same, cutL_tf, Option.isSome_none, Option.isSome_some, Int.reduceToNat, List.drop_succ_cons, List.drop_zero, List.length_cons]
        refine ⟨by omega, by omega, by omega, ?_⟩
        refine (name_ok' r _).pthen ?_
        cases d3 : (wordD r == [])
        · have e3 : wordD r ≠ [] := by simpa using d3
          have w1 : IntKind.i64.wrap (((wordD r).length : Int) + 1) = (((wordD r).length + 1 : Nat) : Int) := by rw [wr64 _ (by omega)]; omega
          simp -implicitDefEqProofs only [go_sem, d1, d2, d4, d6, d3, g2, g4, upd_same, w1]
          exact .mk _ (.refl _) (by repeat (first | exact .refl _ | refine Sub.put ?_ (by assumption) _)) ⟨by subst e6; simp [beginsD, hl, d1, e3, tokA, oneOr], rfl⟩
        · have e3 : wordD r = [] := by simpa using d3
          simp -implicitDefEqProofs only [go_sem, d1, d2, d4, d6, d3, g2, g4, upd_same]
          exact .mk _ (.refl _) (by repeat (first | exact .refl _ | refine Sub.put ?_ (by assumption) _)) ⟨by subst e6; simp [beginsD, hl, d1, e3, tokA, oneOr], rfl⟩
      have e6 := nn 35 35 rfl d6
      cases d7 : ((c.toNat : Int) == 34)
      case true =>
        have e7 := nb 34 34 rfl d7
        simp -implicitDefEqProofs only [go_sem, d1, d2, d4, d6, d7, g2, g4, upd_same]
        refine (text_ok (c :: r) (by simp; omega) _).pthen ?_
        simp -implicitDefEqProofs only [go_sem, d1, d2, d4, d6, d7, g2, g4, upd_same]
        exact .mk _ (.refl _) (by repeat (first | exact .refl _ | refine Sub.put ?_ (by assumption) _)) ⟨by subst e7; simp [beginsD, hl, d1, tokA, oneOr], rfl⟩
      have e7 := nn 34 34 rfl d7
      simp -implicitDefEqProofs only [go_sem, d1, d2, d4, d6, d7, g2, g4, upd_same]
      refine (index_ok marks c _).pthen ?_
      cases d8 : markB c
      · simp -implicitDefEqProofs only [go_sem, d1, d2, d4, d6, d7, g2, g4, upd_same, idx_marks, d8]
        exact .mk _ (.refl _) (by repeat (first | exact .refl _ | refine Sub.put ?_ (by assumption) _)) ⟨by simp [beginsD, hl, d1, e2, e4, e6, e7, d8, tokA, oneOr], rfl⟩
      · simp -implicitDefEqProofs only [go_sem, d1, d2, d4, d6, d7, g2, g4, upd_same, idx_marks, d8]
        refine .calls noHeap [0, 1, 2, 3, 4, 5, 6] (fun _ _ h => by cases h) (by kernel_rfl) rfl ?_
        simp -implicitDefEqProofs only [go_sem, d1, d2, d4, d6, d7, d8, g2, g4, upd_same, cutL_ft, Option.isSome_none, Option.isSome_some, Int.reduceToNat, List.take_succ_cons, List.take_zero, List.length_cons]
        refine ⟨by omega, by omega, by omega, (fun _ _ h => (by cases h)), (fun _ _ h => (by cases h)), ?_⟩
        exact .mk _ (.refl _) (by repeat (first | exact .refl _ | refine Sub.put ?_ (by assumption) _)) ⟨by simp [beginsD, hl, d1, e2, e4, e6, e7, d8, tokA, oneOr], rfl⟩
    · have hl : ltr c = true := by simp only [ltr, la, lb]; rfl
      simp -implicitDefEqProofs only [go_sem, byteA, List.getElem_cons_zero, la, lb]
      refine (name_ok' _ _).pthen ?_
      simp -implicitDefEqProofs only [go_sem, g2, g4, upd_same]
      exact .mk _ (.refl _) (by repeat (first | exact .refl _ | refine Sub.put ?_ (by assumption) _)) ⟨by simp [beginsD, hl, tokA, oneOr], rfl⟩
end Go.Proofs.YtdcchpbncckhlaaDoor

set_option linter.unusedSimpArgs false
set_option linter.unusedVariables false
namespace Go.Proofs.YtdcchpbncckhlaaDoor
open Go Go.Ab Go.Bf
theorem u97z : (U 97).sz = 4 := by simp only [go_sem]
theorem u97b : (U 97).bytes = 40 := by simp only [go_sem]
theorem tokA_sized (l : List TokD) : Sized 4 (l.map tokA) := fun z hz => by
  obtain ⟨c, _, rfl⟩ := List.mem_map.1 hz; rfl
def lexR : Lexed → AV
  | .bad e a => .tup [.sl [] .no, .v (.int .i64 e), .v (.int .i64 a)]
  | .ok l => .tup [.sl (l.map tokA) .no, .v (.int .i64 0), .v (.int .i64 0)]
def AtBlanks (s : Txt) (h : Heap) (m : Nat) (ρ : Env) (h' : Heap) : Prop :=
  ∃ (i f : Nat) (y : AV) (out : List TokD) (id : Nat), Acc U 97 h h' y (out.map tokA) ∧ out.length ≤ i ∧ i ≤ s.length ∧ m = s.length - i ∧ s.length < f + i ∧ s.length ≤ 4096 ∧ h id = none ∧ (∃ c0 c1 c2 c3, h' id = some (.obj [c0, c1, c2, c3] 97)) ∧ lexF f (s.drop i) i out = lexD s ∧ lk ρ 0 = some (.s s) ∧ lk ρ 5 = some y ∧ lk ρ 6 = some (.ptr id 0) ∧ lk ρ 7 = some (.v (.int .i64 i))
theorem all_tok_ok (s : Txt) (h : Heap) (he : ErrT h) : FnOK Tryd.prog 48 [.s s] h fun r h' => r = lexR (lexD s) ∧ h' = h := by
  refine FnOK.of_wp hU Tryd.func48 rfl (by kernel_rfl) 52 rfl [.tmp 2, .tmp 3, .tmp 4] rfl (Nat.le_of_ble_eq_true rfl) ?_
  refine .one hU hm ?_
  simp -implicitDefEqProofs only [go_sem]
  refine WP.scope2 hU hm 0 (AtBlanks s h) rfl ?_ ?_
  · rintro m ρ h' ⟨i, f, y, out, id, hy, hoi, hi, rfl, hf, hs, hid, ⟨c0, c1, c2, c3, hob⟩, hl, r0, r5, r6, r7⟩
    refine .vc hU hm ?_
    cases d1 : ((i : Int) == (s.length : Int))
    case true =>
      have e1 : i = s.length := by have : (i : Int) = s.length := by simpa using d1
                                   omega
      subst e1
      obtain ⟨f, rfl⟩ : ∃ g, f = g + 1 := ⟨f - 1, by omega⟩
      rw [List.drop_length] at hl
      simp only [lexF] at hl
      simp -implicitDefEqProofs only [go_sem, r0, r5, r6, r7, d1]
      refine hy.app (zs := [tokA ⟨7, s.length, 0, []⟩]) (by rw [u97z]; decide) (by rw [u97b]; decide) (fun k hk => hk) (by rw [u97z]; exact tokA_sized out) (by rw [u97z]; exact tokA_sized [⟨7, s.length, 0, []⟩]) (by rw [u97b]; simp; omega) fun y' h2 hy' hk2 => ?_
      simp -implicitDefEqProofs only [go_sem, r0, r5, r6, r7]
      obtain ⟨q, rfl⟩ := hy'.row
      refine .mk _ (weak_tup3 _ _ _ _) hy'.1 ⟨?_, rfl⟩
      rw [← hl, lexR, List.map_append]; rfl
    have e1 : i ≠ s.length := by intro e; rw [e] at d1; simp at d1
    have hlt : i < s.length := by omega
    obtain ⟨f, rfl⟩ : ∃ g, f = g + 1 := ⟨f - 1, by omega⟩
    have hdr : s.drop i = s[i] :: s.drop (i + 1) := List.drop_eq_getElem_cons hlt
    have w1 : IntKind.i64.wrap ((i : Int) + 1) = ((i + 1 : Nat) : Int) := by rw [wr64 _ (by omega)]; omega
    have hl2 := hl
    rw [hdr] at hl2
    simp only [lexF] at hl2
    rw [← hdr] at hl2
    have blank : blankB s[i] = true → ∃ m', m' < s.length - i ∧ True := fun _ => ⟨s.length - (i + 1), by omega, trivial⟩
    cases d2 : ((s[i].toNat : Int) == 32)
    case true =>
      have hb : blankB s[i] = true := by simp only [blankB, d2, Bool.true_or]
      rw [if_pos hb] at hl2
      simp -implicitDefEqProofs only [go_sem, r0, r5, r6, r7, d1]
      refine .at i hlt ?_
      simp -implicitDefEqProofs only [go_sem, r0, r5, r6, r7, d1, byteA, d2, w1]
      refine ⟨s.length - (i + 1), by omega, i + 1, f, y, out, id, hy, by omega, by omega, rfl, by omega, hs, hid, ⟨c0, c1, c2, c3, hob⟩, hl2, ?_, ?_, ?_, ?_⟩ <;> simp -implicitDefEqProofs only [go_sem, r0, r5, r6, r7, w1]
    cases d3 : ((s[i].toNat : Int) == 10)
    case true =>
      have hb : blankB s[i] = true := by simp only [blankB, d3, Bool.or_true]
      rw [if_pos hb] at hl2
      simp -implicitDefEqProofs only [go_sem, r0, r5, r6, r7, d1]
      refine .at i hlt ?_
      simp -implicitDefEqProofs only [go_sem, r0, r5, r6, r7, d1, byteA, d2]
      refine .at i hlt ?_
      simp -implicitDefEqProofs only [go_sem, r0, r5, r6, r7, d1, byteA, d2, d3, w1]
      refine ⟨s.length - (i + 1), by omega, i + 1, f, y, out, id, hy, by omega, by omega, rfl, by omega, hs, hid, ⟨c0, c1, c2, c3, hob⟩, hl2, ?_, ?_, ?_, ?_⟩ <;> simp -implicitDefEqProofs only [go_sem, r0, r5, r6, r7, w1]
    have hb : ¬ blankB s[i] = true := by simp only [blankB, d2, d3]; decide
    rw [if_neg hb] at hl2
    have hne : s.drop i ≠ [] := fun e => by have := congrArg List.length e; simp at this; omega
    have hle := beginsD_le (s.drop i) hne
    have hdl : (s.drop i).length = s.length - i := by simp
    have hbo := fun hh eh => begins_ok (s.drop i) hne (by omega) hh eh
    obtain ⟨t, n, etn⟩ : ∃ t n, beginsD (s.drop i) = (t, n) := ⟨_, _, rfl⟩
    rw [etn] at hbo hl2 hle
    simp only [tokA] at hbo hl2 hle
    simp -implicitDefEqProofs only [go_sem, r0, r5, r6, r7, d1]
    refine .at i hlt ?_
    simp -implicitDefEqProofs only [go_sem, r0, r5, r6, r7, d1, byteA, d2]
    refine .at i hlt ?_
    simp -implicitDefEqProofs only [go_sem, r0, r5, r6, r7, d1, byteA, d2, d3, cutL_tf, Option.isSome_none, Option.isSome_some, Int.toNat_natCast]
    refine ⟨by omega, by omega, by omega, ?_⟩
    refine (hbo _ (he.sub hy.1)).pthen ?_
    cases d4 : ((n : Int) == 0)
    case true =>
      have e4 : n = 0 := by have : (n : Int) = 0 := by simpa using d4
                            omega
      rw [if_pos e4] at hl2
      simp -implicitDefEqProofs only [go_sem, r0, r5, r6, r7, hob, d4]
      refine .mk _ (weak_tup3 _ _ _ _) (hy.1.put hid _) ⟨?_, rfl⟩
      rw [← hl2]; rfl
    have e4 : n ≠ 0 := by intro e; rw [e] at d4; simp at d4
    rw [if_neg e4] at hl2
    have w2 : IntKind.i64.wrap ((i : Int) + (n : Int)) = ((i + n : Nat) : Int) := by rw [wr64 _ (by omega)]; omega
    simp -implicitDefEqProofs only [go_sem, r0, r5, r6, r7, hob, d4]
    refine (hy.put hid hob _).app (zs := [tokA { t with pos := i }]) (by rw [u97z]; decide) (by rw [u97b]; decide) (fun k hk => hk) (by rw [u97z]; exact tokA_sized out) (by rw [u97z]; exact tokA_sized [{ t with pos := i }]) (by rw [u97b]; simp; omega) fun y' h2 hy' hk2 => ?_
    simp -implicitDefEqProofs only [go_sem, r0, r5, r6, r7, w2]
    refine ⟨s.length - (i + n), by omega, i + n, f, y', out ++ [{ t with pos := i }], id, by simpa using hy', by simp; omega, by omega, rfl, by omega, hs, hid, ⟨_, _, _, _, hk2 _ _ _ (upd_same ..)⟩, ?_, ?_, ?_, ?_, ?_⟩
    · rw [List.drop_drop] at hl2; exact hl2
    all_goals simp -implicitDefEqProofs only [go_sem, r0, r5, r6, r7, w2]
  · intro nx
    cases d0 : decide (4096 < (s.length : Int))
    case true =>
      have e0 : s.length > 4096 := by have := of_decide_eq_true d0; omega
      refine .one hU hm ?_
      simp -implicitDefEqProofs only [go_sem, d0]
      exact .mk (.tup [.sl [] .no, .v (.int .i64 6), .v (.int .i64 4096)]) (weak_strip (.tup [.sl [] .full, .v (.int .i64 6), .v (.int .i64 4096)])) (.refl _) ⟨by rw [lexD, if_pos e0]; rfl, rfl⟩
    have e0 : ¬ s.length > 4096 := by have := of_decide_eq_false d0; omega
    refine .one hU hm ?_
    simp -implicitDefEqProofs only [go_sem, d0]
    refine .one hU hm ?_
    simp -implicitDefEqProofs only [go_sem]
    refine .one hU hm ?_
    simp -implicitDefEqProofs only [go_sem]
    intro id hid
    simp -implicitDefEqProofs only [go_sem]
    refine .one hU hm ?_
    simp -implicitDefEqProofs only [go_sem]
    refine .one hU hm ?_
    simp -implicitDefEqProofs only [go_sem]
    refine nx (s.length - 0) _ _ ⟨0, s.length + 1, _, [], id, .full (.upd_new hid), by simp, by omega, rfl, by omega, by omega, hid, ⟨_, _, _, _, upd_same ..⟩, by rw [lexD, if_neg e0]; rfl, ?_, ?_, ?_, ?_⟩ <;> simp -implicitDefEqProofs only [go_sem]
end Go.Proofs.YtdcchpbncckhlaaDoor

set_option linter.unusedSimpArgs false
set_option linter.unusedVariables false
namespace Go.Proofs.YtdcchpbncckhlaaDoor
open Go Go.Ab Go.Bf
def PO (st : PS) : Blk := .obj [.sl (st.ts.map tokA) .no, .v (.int .i64 st.pos), .v (.int .i64 st.rules), .v (.int .i64 st.bad), .v (.int .i64 st.place)] 94
def PC (f : FuncId) (args : List AV) (st : PS) (R : AV) (st' : PS) : Prop := ∀ (h : Heap) (id : Nat), h id = some (PO st) → FnOK Tryd.prog f (.ptr id 0 :: args) h fun r h' => r = R ∧ h' = upd h id (some (PO st'))
theorem PC.go {f : FuncId} {args : List AV} {st st' : PS} {R : AV} (hc : PC f args st R st') {h : Heap} {id : Nat} {Q : AV → Heap → Prop} (hid : h id = some (PO st)) (k : Q R (upd h id (some (PO st')))) : FnOK Tryd.prog f (.ptr id 0 :: args) h Q :=
  (hc h id hid).mono fun r h' ⟨e1, e2⟩ => by subst e1; subst e2; exact k
theorem upd_self {h : Heap} {id : Nat} {b : Option Blk} (e : h id = b) : upd h id b = h := by
  funext j
  by_cases hj : j = id
  · subst hj; rw [upd_same, e]
  · rw [upd_other _ _ hj]
theorem wrong_ok (st : PS) (e p : Int) : PC 52 [.v (.int .i64 e), .v (.int .i64 p)] st (.tup []) (wrongD st e p) := fun h id hid => by
  refine FnOK.body hU hm Tryd.func52 rfl (by kernel_rfl) 19 rfl [] rfl (Nat.le_of_ble_eq_true rfl) (fun hwf => ?_)
  have g := hid
  unfold PO at g
  cases d1 : (st.bad == 0)
  · have e1 : st.bad ≠ 0 := by simpa using d1
    simp -implicitDefEqProofs only [go_sem, g, d1]
    exact .mk _ (.refl _) (.refl _) ⟨rfl, by rw [wrongD, if_neg e1, upd_self hid]⟩
  · have e1 : st.bad = 0 := by simpa using d1
    simp -implicitDefEqProofs only [go_sem, g, d1]
    exact .mk _ (.refl _) (.refl _) ⟨rfl, by rw [wrongD, if_pos e1]; rfl⟩
theorem here_ok (st : PS) (hw : WfP st) : PC 50 [] st (tokA (hereD st)) st := fun h id hid => by
  refine FnOK.body hU hm Tryd.func50 rfl (by kernel_rfl) 13 rfl [.cell 2 97] rfl (Nat.le_of_ble_eq_true rfl) (fun hwf => ?_)
  have g := hid
  unfold PO at g
  simp -implicitDefEqProofs only [go_sem]
  intro i2 hi2
  have n2 : id ≠ i2 := fun e => by rw [e, hi2] at hid; cases hid
  simp -implicitDefEqProofs only [go_sem, g, upd_ne, n2]
  refine ⟨.of (by kernel_rfl), ?_⟩
  refine .at st.pos (by simpa using hw.1) (by rw [List.getElem_map]; rfl) ?_
  simp -implicitDefEqProofs only [go_sem, g, upd_ne, n2, List.getElem_map, tokA]
  refine .mk _ (.refl _) (.upd_new hi2) ⟨by rw [hereD_eq hw.1]; rfl, (upd_self hid).symm⟩
theorem stuck_ok (st : PS) (hw : WfP st) : PC 51 [] st (.tup []) (stuckD st) := fun h id hid => by
  refine FnOK.body hU hm Tryd.func51 rfl (by kernel_rfl) 7 rfl [] rfl (Nat.le_of_ble_eq_true rfl) (fun hwf => ?_)
  simp -implicitDefEqProofs only [go_sem]
  refine (here_ok st hw).go hid ?_
  rw [upd_self hid]
  simp -implicitDefEqProofs only [go_sem, tokA]
  refine (wrong_ok st 5 _).go hid ?_
  simp -implicitDefEqProofs only [go_sem]
  exact .mk _ (.refl _) (.refl _) ⟨rfl, rfl⟩
theorem limit_ok (st : PS) (b : Bool) (hw : WfP st) : PC 110 [.v (.bool b)] st (.tup []) (limitD st b) := fun h id hid => by
  refine FnOK.body hU hm Tryd.func110 rfl (by kernel_rfl) 10 rfl [] rfl (Nat.le_of_ble_eq_true rfl) (fun hwf => ?_)
  cases b
  · simp -implicitDefEqProofs only [go_sem]
    exact .mk _ (.refl _) (.refl _) ⟨rfl, (upd_self hid).symm⟩
  simp -implicitDefEqProofs only [go_sem]
  refine (here_ok st hw).go hid ?_
  rw [upd_self hid]
  simp -implicitDefEqProofs only [go_sem, tokA]
  refine (wrong_ok st 6 _).go hid ?_
  simp -implicitDefEqProofs only [go_sem]
  exact .mk _ (.refl _) (.refl _) ⟨rfl, rfl⟩
theorem is_ok (st : PS) (s : Txt) (hw : WfP st) : PC 111 [.s s] st (.v (.bool (isD st s))) st := fun h id hid => by
  refine FnOK.body hU hm Tryd.func111 rfl (by kernel_rfl) 29 rfl [.tmp 4] rfl (Nat.le_of_ble_eq_true rfl) (fun hwf => ?_)
  have g := hid
  unfold PO at g
  simp -implicitDefEqProofs only [go_sem]
  refine (here_ok st hw).go hid ?_
  rw [upd_self hid]
  simp -implicitDefEqProofs only [go_sem, tokA]
  intro i2 hi2
  have n2 : id ≠ i2 := fun e => by rw [e, hi2] at hid; cases hid
  cases d1 : (st.bad == 0) <;> cases d2 : ((hereD st).s == s) <;> cases d3 : ((hereD st).kind == 1) <;> cases d4 : ((hereD st).kind == 6)
  all_goals
    simp -implicitDefEqProofs only [go_sem, g, upd_ne, n2, d1, d2, d3, d4]
    exact .mk _ (.refl _) (.upd_new hi2) ⟨by simp only [isD, d1, d2, d3, d4]; rfl, rfl⟩
theorem take_ok (st : PS) (s : Txt) (hw : WfP st) : PC 108 [.s s] st (.v (.bool (takeD st s).1)) (takeD st s).2 := fun h id hid => by
  refine FnOK.body hU hm Tryd.func108 rfl (by kernel_rfl) 18 rfl [.tmp 4] rfl (Nat.le_of_ble_eq_true rfl) (fun hwf => ?_)
  have g := hid
  unfold PO at g
  simp -implicitDefEqProofs only [go_sem]
  refine (is_ok st s hw).go hid ?_
  rw [upd_self hid]
  cases d1 : isD st s
  · have e : takeD st s = (false, st) := by simp [takeD, d1]
    simp -implicitDefEqProofs only [go_sem, d1]
    exact .mk _ (.refl _) (.refl _) ⟨by rw [e]; rfl, by rw [e, upd_self hid]⟩
  · have e : takeD st s = (true, nextD st) := by simp [takeD, d1]
    have w1 : IntKind.i64.wrap ((st.pos : Int) + 1) = ((st.pos + 1 : Nat) : Int) := by have := hw.1; have := hw.2.2; rw [wr64 _ (by omega)]; omega
    simp -implicitDefEqProofs only [go_sem, g, d1, w1]
    exact .mk _ (.refl _) (.refl _) ⟨by rw [e]; rfl, by rw [e]; rfl⟩
theorem must_ok (st : PS) (s : Txt) (hw : WfP st) : PC 82 [.s s] st (.tup []) (mustD st s) := fun h id hid => by
  refine FnOK.body hU hm Tryd.func82 rfl (by kernel_rfl) 10 rfl [] rfl (Nat.le_of_ble_eq_true rfl) (fun hwf => ?_)
  simp -implicitDefEqProofs only [go_sem]
  refine (take_ok st s hw).go hid ?_
  cases d1 : isD st s
  · have e : takeD st s = (false, st) := by simp [takeD, d1]
    rw [e, upd_self hid]
    simp -implicitDefEqProofs only [go_sem]
    refine (stuck_ok st hw).go hid ?_
    simp -implicitDefEqProofs only [go_sem]
    exact .mk _ (.refl _) (.refl _) ⟨rfl, by simp [mustD, d1]⟩
  · have e : takeD st s = (true, nextD st) := by simp [takeD, d1]
    rw [e]
    simp -implicitDefEqProofs only [go_sem]
    exact .mk _ (.refl _) (.refl _) ⟨rfl, by simp [mustD, d1]⟩
theorem pname_ok (st : PS) (hw : WfP st) : PC 80 [] st (.s (nameP st).1) (nameP st).2 := fun h id hid => by
  refine FnOK.body hU hm Tryd.func80 rfl (by kernel_rfl) 25 rfl [.tmp 2] rfl (Nat.le_of_ble_eq_true rfl) (fun hwf => ?_)
  have g := hid
  unfold PO at g
  have w1 : IntKind.i64.wrap ((st.pos : Int) + 1) = ((st.pos + 1 : Nat) : Int) := by have := hw.1; have := hw.2.2; rw [wr64 _ (by omega)]; omega
  simp -implicitDefEqProofs only [go_sem]
  refine (here_ok st hw).go hid ?_
  rw [upd_self hid]
  simp -implicitDefEqProofs only [go_sem, tokA]
  intro i2 hi2
  have n2 : id ≠ i2 := fun e => by rw [e, hi2] at hid; cases hid
  cases d1 : ((hereD st).kind != 1)
  case true =>
    have e1 : (hereD st).kind ≠ 1 := by simpa using d1
    have en : nameP st = ([], stuckD st) := by simp [nameP, e1]
    simp -implicitDefEqProofs only [go_sem, g, upd_ne, n2, d1]
    have hid2 : upd h i2 (some (.obj [.v (.int .i64 (hereD st).kind), .v (.int .i64 (hereD st).pos), .v (.int .i64 (hereD st).n), .s (hereD st).s] 97)) id = some (PO st) := by rw [upd_other _ _ n2]; exact hid
    refine (stuck_ok st hw).go hid2 ?_
    have hb : (stuckD st).bad ≠ 0 := by
      unfold stuckD wrongD; split
      · show (5 : Int) ≠ 0; decide
      · assumption
    have d2 : ((stuckD st).bad != 0) = true := by simpa using hb
    simp -implicitDefEqProofs only [go_sem, PO, d2]
    exact .mk _ (.refl _) (Sub.both (.upd_new hi2) _ _) ⟨by rw [en]; rfl, by rw [en]; try rfl⟩
  have e1 : (hereD st).kind = 1 := by simpa using d1
  cases d2 : (st.bad != 0)
  case true =>
    have e2 : st.bad ≠ 0 := by simpa using d2
    have en : nameP st = ([], st) := by simp [nameP, e1, e2]
    simp -implicitDefEqProofs only [go_sem, g, upd_ne, n2, d1, d2]
    exact .mk _ (.refl _) (.upd_new hi2) ⟨by rw [en]; rfl, by rw [en]; exact (upd_self hid).symm⟩
  have e2 : st.bad = 0 := by simpa using d2
  have en : nameP st = ((hereD st).s, nextD st) := by simp [nameP, e1, e2]
  simp -implicitDefEqProofs only [go_sem, g, upd_ne, n2, n2.symm, d1, d2, w1]
  exact .mk _ (.refl _) (Sub.both (.upd_new hi2) _ _) ⟨by rw [en]; rfl, by rw [en]; try rfl⟩
theorem PC.run {f : FuncId} {args : List AV} {st st' : PS} {R : AV} (hc : PC f args st R st') {G : Heap} {id : Nat} {Q : AV → Heap → Prop} (k : Q R (upd G id (some (PO st')))) : FnOK Tryd.prog f (.ptr id 0 :: args) (upd G id (some (PO st))) Q :=
  hc.go (upd_same ..) (by rw [upd_upd]; exact k)
theorem PC.of {f : FuncId} {args : List AV} {st st' : PS} {R : AV} (hk : ∀ (G : Heap) (id : Nat), FnOK Tryd.prog f (.ptr id 0 :: args) (upd G id (some (PO st))) fun r h' => r = R ∧ h' = upd G id (some (PO st'))) : PC f args st R st' := fun h id hid => by
  have := hk h id
  rw [upd_self hid] at this
  exact this
theorem upd_comm {α : Type} (f : Nat → α) {i j : Nat} (x y : α) (h : i ≠ j) : upd (upd f i x) j y = upd (upd f j y) i x := by
  funext k
  by_cases hi : k = i
  · subst hi; rw [upd_other _ _ h, upd_same, upd_same]
  · by_cases hj : k = j
    · subst hj; rw [upd_same, upd_other _ _ hi, upd_same]
    · rw [upd_other _ _ hj, upd_other _ _ hi, upd_other _ _ hi, upd_other _ _ hj]
theorem idxT_lt {s : Txt} : ∀ {ws : List Txt} {i : Nat}, idxT s ws = some i → i < ws.length
  | w :: r, i, h => by
    simp only [idxT] at h
    split at h
    · cases h; simp
    · cases hr : idxT s r with
      | none => rw [hr] at h; cases h
      | some j => rw [hr] at h; cases h; have := idxT_lt hr; simp; omega
theorem idxT_at {s : Txt} : ∀ {ws : List Txt} (i : Nat) (hi : i < ws.length), (∀ j (hj : j < ws.length), j < i → ws[j] ≠ s) → ws[i] = s → idxT s ws = some i
  | w :: r, 0, _, _, h => by simp only [List.getElem_cons_zero] at h; simp [idxT, h]
  | w :: r, i + 1, hi, hb, h => by
    have h0 := hb 0 (by simp) (by omega)
    simp only [List.getElem_cons_zero] at h0
    simp only [idxT, if_neg h0]
    rw [idxT_at i (by simpa using hi) (fun j hj hlt => by have := hb (j + 1) (by simpa using hj) (by omega); simpa using this) (by simpa using h)]
    rfl
theorem idxT_none {s : Txt} : ∀ {ws : List Txt}, (∀ j (hj : j < ws.length), ws[j] ≠ s) → idxT s ws = none
  | [], _ => rfl
  | w :: r, hb => by
    have h0 := hb 0 (by simp)
    simp only [List.getElem_cons_zero] at h0
    simp only [idxT, if_neg h0]
    rw [idxT_none (fun j hj => by have := hb (j + 1) (by simpa using hj); simpa using this)]
    rfl
def idxI (o : Option Nat) : Int := match o with
  | some i => i
  | none => -1
theorem indexT_ok (ws : List Txt) (q : Perm) (s : Txt) (hl : ws.length ≤ 1000) (h : Heap) : FnOK Tryd.prog 107 [.sl (ws.map AV.s) q, .s s] h fun r h' => r = .v (.int .i64 (idxI (idxT s ws))) ∧ h' = h := by
  refine FnOK.body hU hm Tryd.func107 rfl (by kernel_rfl) 19 rfl [.tmp 4] rfl (Nat.le_of_ble_eq_true rfl) (fun hwf => ?_)
  simp -implicitDefEqProofs only [go_sem, List.length_map]
  refine .intro (fun m ρ h' => h' = h ∧ ∃ i : Nat, i ≤ ws.length ∧ m = ws.length - i ∧ (∀ j (hj : j < ws.length), j < i → ws[j] ≠ s) ∧ lk ρ 0 = some (.sl (ws.map AV.s) q) ∧ lk ρ 1 = some (.s s) ∧ lk ρ 7 = some (.v (.int .i64 ws.length)) ∧ lk ρ 8 = some (.v (.int .i64 i))) ws.length ?_ ?_
  · refine ⟨rfl, 0, by omega, rfl, fun j _ hj => (by omega), ?_, ?_, ?_, ?_⟩ <;> simp -implicitDefEqProofs only [go_sem]
  · rintro m ρ h' ⟨rfl, i, hi, rfl, hc, r0, r1, r7, r8⟩
    simp -implicitDefEqProofs only [go_sem, r0, r1, r7, r8]
    refine .intro (fun e => ?_) (fun e => ?_)
    · have hlt : i < ws.length := Int.ofNat_lt.1 (of_decide_eq_true e)
      have w1 : IntKind.i64.wrap ((i : Int) + 1) = ((i + 1 : Nat) : Int) := by rw [wr64 _ (by omega)]; omega
      simp -implicitDefEqProofs only [go_sem, r0, r1, r7, r8]
      refine .at i (by simpa using hlt) (by rw [List.getElem_map]; rfl) ?_
      cases d1 : (s == ws[i])
      · have e1 : ws[i] ≠ s := by intro e; rw [e] at d1; simp at d1
        simp -implicitDefEqProofs only [go_sem, r0, r1, r7, r8, List.getElem_map, d1, w1]
        refine ⟨_, ?_, rfl, i + 1, by omega, rfl, fun j hj hji => ?_, ?_, ?_, ?_, ?_⟩
        · omega
        · by_cases e : j = i
          · subst e; exact e1
          · exact hc j hj (by omega)
        all_goals simp -implicitDefEqProofs only [go_sem, r0, r1, r7, r8, w1]
      · have e1 : ws[i] = s := by have : s = ws[i] := by simpa using d1
                                  exact this.symm
        simp -implicitDefEqProofs only [go_sem, r0, r1, r7, r8, List.getElem_map, d1]
        exact .same (.refl _) ⟨by rw [idxT_at i hlt hc e1]; rfl, rfl⟩
    · have hge : i = ws.length := by have := of_decide_eq_false e; omega
      subst hge
      simp -implicitDefEqProofs only [go_sem, r0, r1, r7, r8]
      exact .same (.refl _) ⟨by rw [idxT_none fun j hj => hc j hj hj]; rfl, rfl⟩
theorem among_ok (st : PS) (ws : List Txt) (q : Perm) (hl : ws.length ≤ 1000) (hw : WfP st) : PC 79 [.sl (ws.map AV.s) q] st (.v (.int .i64 (amongD st ws).1)) (amongD st ws).2 := .of fun G id => by
  refine FnOK.body hU hm Tryd.func79 rfl (by kernel_rfl) 28 rfl [.tmp 4] rfl (Nat.le_of_ble_eq_true rfl) (fun hwf => ?_)
  simp -implicitDefEqProofs only [go_sem]
  refine (here_ok st hw).run ?_
  simp -implicitDefEqProofs only [go_sem, tokA]
  intro i2 hi2
  have n2 := ne_upd hi2
  have hG2 : G i2 = none := by rw [upd_other _ _ n2] at hi2; exact hi2
  have c2 : ∀ (f : Heap) (x y : Option Blk), upd (upd f id x) i2 y = upd (upd f i2 y) id x := fun f x y => upd_comm f x y n2.symm
  cases d1 : ((hereD st).kind == 1)
  · have e1 : (hereD st).kind ≠ 1 := by simpa using d1
    have en : amongD st ws = (0, stuckD st) := by unfold amongD; split <;> simp [e1]
    simp -implicitDefEqProofs only [go_sem, c2, upd_ne, n2, d1]
    refine (stuck_ok st hw).run ?_
    simp -implicitDefEqProofs only [go_sem]
    exact .mk _ (.refl _) (Sub.both (.upd_new hG2) _ _) ⟨by rw [en]; rfl, by rw [en]⟩
  have e1 : (hereD st).kind = 1 := by simpa using d1
  simp -implicitDefEqProofs only [go_sem, c2, upd_ne, n2, d1]
  refine (indexT_ok ws q _ hl _).pthen ?_
  cases ei : idxT (hereD st).s ws with
  | none =>
    have en : amongD st ws = (0, stuckD st) := by simp [amongD, ei]
    have dm : decide ((0 : Int) ≤ -1) = false := by decide
    simp -implicitDefEqProofs only [go_sem, idxI, dm]
    refine (stuck_ok st hw).run ?_
    simp -implicitDefEqProofs only [go_sem]
    exact .mk _ (.refl _) (Sub.both (.upd_new hG2) _ _) ⟨by rw [en]; rfl, by rw [en]⟩
  | some i =>
    have hil := idxT_lt ei
    have d2 : decide (0 ≤ (i : Int)) = true := by simp
    have w1 : IntKind.i64.wrap ((i : Int) + 1) = ((i : Int) + 1) := by rw [wr64 _ (by omega)]
    simp -implicitDefEqProofs only [go_sem, idxI, d2, upd_ne, n2]
    refine (take_ok st _ hw).run ?_
    cases d3 : (st.bad == 0)
    · have e3 : st.bad ≠ 0 := by simpa using d3
      have et : takeD st (hereD st).s = (false, st) := by simp [takeD, isD, d3]
      have en : amongD st ws = (0, stuckD st) := by simp [amongD, ei, e3]
      rw [et]
      simp -implicitDefEqProofs only [go_sem]
      refine (stuck_ok st hw).run ?_
      simp -implicitDefEqProofs only [go_sem]
      exact .mk _ (.refl _) (Sub.both (.upd_new hG2) _ _) ⟨by rw [en]; rfl, by rw [en]⟩
    · have e3 : st.bad = 0 := by simpa using d3
      have et : takeD st (hereD st).s = (true, nextD st) := by simp [takeD, isD, e3, e1]
      have en : amongD st ws = ((i : Int) + 1, nextD st) := by simp [amongD, ei, e3, e1]
      rw [et]
      simp -implicitDefEqProofs only [go_sem, w1]
      exact .mk _ (.refl _) (Sub.both (.upd_new hG2) _ _) ⟨by rw [en]; rfl, by rw [en]⟩
end Go.Proofs.YtdcchpbncckhlaaDoor

set_option linter.unusedSimpArgs false
set_option linter.unusedVariables false
namespace Go.Proofs.YtdcchpbncckhlaaDoor
open Go Go.Ab Go.Bf
theorem attr_p (st : PS) (hw : WfP st) : PC 148 [] st (attrA (attrP st).1) (attrP st).2 := .of fun G id => by
  have h1 := ah_among catWs hw
  have h2 := ah_must [46] h1.1
  have h3 := ah_name h2.1
  refine FnOK.body hU hm Tryd.func148 rfl (by kernel_rfl) 17 rfl [.cell 2 23] rfl (Nat.le_of_ble_eq_true rfl) (fun hwf => ?_)
  simp -implicitDefEqProofs only [go_sem]
  intro i2 hi2
  have n2 := ne_upd hi2
  have hG2 : G i2 = none := by rw [upd_other _ _ n2] at hi2; exact hi2
  have c2 : ∀ (f : Heap) (x y : Option Blk), upd (upd f id x) i2 y = upd (upd f i2 y) id x := fun f x y => upd_comm f x y n2.symm
  simp -implicitDefEqProofs only [go_sem, c2]
  intro i3 hi3
  have n3 := ne_upd hi3
  have hi3' := hi3
  rw [upd_other _ _ n3] at hi3'
  have n32 := ne_upd hi3'
  have hG3 : G i3 = none := by rw [upd_other _ _ n32] at hi3'; exact hi3'
  have c3 : ∀ (f : Heap) (x y : Option Blk), upd (upd f id x) i3 y = upd (upd f i3 y) id x := fun f x y => upd_comm f x y n3.symm
  have c23 : ∀ (f : Heap) (x y : Option Blk), upd (upd f i3 x) i2 y = upd (upd f i2 y) i3 x := fun f x y => upd_comm f x y n32
  have m32 : ¬ i3 = i2 := n32
  have m23 : ¬ i2 = i3 := n32.symm
  simp -implicitDefEqProofs only [go_sem, c2, c3, c23]
  refine (among_ok st catWs .full (by decide) hw).run ?_
  simp -implicitDefEqProofs only [go_sem, c2, c3, c23, upd_ne, n2, n3, m32, m23]
  refine (must_ok _ [46] h1.1).run ?_
  simp -implicitDefEqProofs only [go_sem, c2, c3, c23, upd_ne, n2, n3, m32, m23]
  refine (pname_ok _ h2.1).run ?_
  simp -implicitDefEqProofs only [go_sem, c2, c3, c23, upd_ne, n2, n3, m32, m23]
  refine (take_ok _ [33] h3.1).run ?_
  simp -implicitDefEqProofs only [go_sem, c2, c3, c23, upd_ne, n2, n3, m32, m23]
  exact .mk _ (.refl _) (Sub.both (by repeat (first | exact .refl _ | refine Sub.put ?_ (by assumption) _)) _ _) ⟨rfl, rfl⟩
set_option maxRecDepth 20000 in
theorem value_p (st : PS) (hw : WfP st) : PC 149 [] st (valA (valueP st).1) (valueP st).2 := .of fun G id => by
  refine FnOK.body hU hm Tryd.func149 rfl (by kernel_rfl) 56 rfl [.cell 2 25] rfl (Nat.le_of_ble_eq_true rfl) (fun hwf => ?_)
  have w1 : IntKind.i64.wrap ((st.pos : Int) + 1) = ((st.pos + 1 : Nat) : Int) := by have := hw.1; have := hw.2.2; rw [wr64 _ (by omega)]; omega
  simp -implicitDefEqProofs only [go_sem]
  intro i2 hi2
  have n2 := ne_upd hi2
  have hG2 : G i2 = none := by rw [upd_other _ _ n2] at hi2; exact hi2
  have c2 : ∀ (f : Heap) (x y : Option Blk), upd (upd f id x) i2 y = upd (upd f i2 y) id x := fun f x y => upd_comm f x y n2.symm
  simp -implicitDefEqProofs only [go_sem, c2]
  refine (here_ok st hw).run ?_
  simp -implicitDefEqProofs only [go_sem, tokA]
  intro i3 hi3
  have n3 := ne_upd hi3
  have hi3' := hi3
  rw [upd_other _ _ n3] at hi3'
  have n32 := ne_upd hi3'
  have hG3 : G i3 = none := by rw [upd_other _ _ n32] at hi3'; exact hi3'
  have c3 : ∀ (f : Heap) (x y : Option Blk), upd (upd f id x) i3 y = upd (upd f i3 y) id x := fun f x y => upd_comm f x y n3.symm
  have c23 : ∀ (f : Heap) (x y : Option Blk), upd (upd f i3 x) i2 y = upd (upd f i2 y) i3 x := fun f x y => upd_comm f x y n32
  have m32 : ¬ i3 = i2 := n32
  have m23 : ¬ i2 = i3 := n32.symm
  simp -implicitDefEqProofs only [go_sem, c2, c3, c23, upd_ne, n2, n3, m32, m23]
  intro i4 hi4
  have n4 := ne_upd hi4
  have hi4' := hi4
  rw [upd_other _ _ n4] at hi4'
  have n43 := ne_upd hi4'
  have hi4'' := hi4'
  rw [upd_other _ _ n43] at hi4''
  have n42 := ne_upd hi4''
  have hG4 : G i4 = none := by rw [upd_other _ _ n42] at hi4''; exact hi4''
  have c4 : ∀ (f : Heap) (x y : Option Blk), upd (upd f id x) i4 y = upd (upd f i4 y) id x := fun f x y => upd_comm f x y n4.symm
  have c24 : ∀ (f : Heap) (x y : Option Blk), upd (upd f i4 x) i2 y = upd (upd f i2 y) i4 x := fun f x y => upd_comm f x y n42
  have c34 : ∀ (f : Heap) (x y : Option Blk), upd (upd f i4 x) i3 y = upd (upd f i3 y) i4 x := fun f x y => upd_comm f x y n43
  have m42 : ¬ i4 = i2 := n42
  have m24 : ¬ i2 = i4 := n42.symm
  have m43 : ¬ i4 = i3 := n43
  have m34 : ¬ i3 = i4 := n43.symm
  cases k2 : ((hereD st).kind == 2)
  case true =>
    have e2 : (hereD st).kind = 2 := by simpa using k2
    have ev : valueV st = (⟨2, (hereD st).n, (hereD st).s⟩, st) := by simp [valueV, e2]
    cases kb : (st.bad != 0)
    · have eb : st.bad = 0 := by simpa using kb
      have en : valueP st = (⟨2, (hereD st).n, (hereD st).s⟩, nextD st) := by simp [valueP, ev, eb]
      simp -implicitDefEqProofs only [go_sem, c2, c3, c4, c23, c24, c34, upd_ne, n2, n3, n4, m32, m23, m42, m24, m43, m34, k2, PO, kb, w1]
      exact .mk (h' := upd G id (some (PO (valueP st).2))) _ (.refl _) (by rw [en]; exact Sub.both (by repeat (first | exact .refl _ | refine Sub.put ?_ (by assumption) _)) _ _) ⟨by rw [en]; rfl, rfl⟩
    · have eb : st.bad ≠ 0 := by simpa using kb
      have en : valueP st = (⟨0, 0, []⟩, st) := by simp [valueP, ev, eb]
      simp -implicitDefEqProofs only [go_sem, c2, c3, c4, c23, c24, c34, upd_ne, n2, n3, n4, m32, m23, m42, m24, m43, m34, k2, PO, kb, w1]
      exact .mk (h' := upd G id (some (PO (valueP st).2))) _ (.refl _) (by rw [en]; exact Sub.both (by repeat (first | exact .refl _ | refine Sub.put ?_ (by assumption) _)) _ _) ⟨by rw [en]; rfl, rfl⟩
  have e2 : (hereD st).kind ≠ 2 := by simpa using k2
  cases k3 : ((hereD st).kind == 3)
  case true =>
    have e3 : (hereD st).kind = 3 := by simpa using k3
    have ev : valueV st = (⟨4, (hereD st).n, (hereD st).s⟩, st) := by simp [valueV, e3]
    cases kb : (st.bad != 0)
    · have eb : st.bad = 0 := by simpa using kb
      have en : valueP st = (⟨4, (hereD st).n, (hereD st).s⟩, nextD st) := by simp [valueP, ev, eb]
      simp -implicitDefEqProofs only [go_sem, c2, c3, c4, c23, c24, c34, upd_ne, n2, n3, n4, m32, m23, m42, m24, m43, m34, k2, k3, PO, kb, w1]
      exact .mk (h' := upd G id (some (PO (valueP st).2))) _ (.refl _) (by rw [en]; exact Sub.both (by repeat (first | exact .refl _ | refine Sub.put ?_ (by assumption) _)) _ _) ⟨by rw [en]; rfl, rfl⟩
    · have eb : st.bad ≠ 0 := by simpa using kb
      have en : valueP st = (⟨0, 0, []⟩, st) := by simp [valueP, ev, eb]
      simp -implicitDefEqProofs only [go_sem, c2, c3, c4, c23, c24, c34, upd_ne, n2, n3, n4, m32, m23, m42, m24, m43, m34, k2, k3, PO, kb, w1]
      exact .mk (h' := upd G id (some (PO (valueP st).2))) _ (.refl _) (by rw [en]; exact Sub.both (by repeat (first | exact .refl _ | refine Sub.put ?_ (by assumption) _)) _ _) ⟨by rw [en]; rfl, rfl⟩
  have e3 : (hereD st).kind ≠ 3 := by simpa using k3
  cases k4 : ((hereD st).kind == 4)
  case true =>
    have e4 : (hereD st).kind = 4 := by simpa using k4
    have ev : valueV st = (⟨5, (hereD st).n, (hereD st).s⟩, st) := by simp [valueV, e4]
    cases kb : (st.bad != 0)
    · have eb : st.bad = 0 := by simpa using kb
      have en : valueP st = (⟨5, (hereD st).n, (hereD st).s⟩, nextD st) := by simp [valueP, ev, eb]
      simp -implicitDefEqProofs only [go_sem, c2, c3, c4, c23, c24, c34, upd_ne, n2, n3, n4, m32, m23, m42, m24, m43, m34, k2, k3, k4, PO, kb, w1]
      exact .mk (h' := upd G id (some (PO (valueP st).2))) _ (.refl _) (by rw [en]; exact Sub.both (by repeat (first | exact .refl _ | refine Sub.put ?_ (by assumption) _)) _ _) ⟨by rw [en]; rfl, rfl⟩
    · have eb : st.bad ≠ 0 := by simpa using kb
      have en : valueP st = (⟨0, 0, []⟩, st) := by simp [valueP, ev, eb]
      simp -implicitDefEqProofs only [go_sem, c2, c3, c4, c23, c24, c34, upd_ne, n2, n3, n4, m32, m23, m42, m24, m43, m34, k2, k3, k4, PO, kb, w1]
      exact .mk (h' := upd G id (some (PO (valueP st).2))) _ (.refl _) (by rw [en]; exact Sub.both (by repeat (first | exact .refl _ | refine Sub.put ?_ (by assumption) _)) _ _) ⟨by rw [en]; rfl, rfl⟩
  have e4 : (hereD st).kind ≠ 4 := by simpa using k4
  cases k5 : ((hereD st).kind == 5)
  case true =>
    have e5 : (hereD st).kind = 5 := by simpa using k5
    have ev : valueV st = (⟨3, (hereD st).n, (hereD st).s⟩, st) := by simp [valueV, e5]
    cases kb : (st.bad != 0)
    · have eb : st.bad = 0 := by simpa using kb
      have en : valueP st = (⟨3, (hereD st).n, (hereD st).s⟩, nextD st) := by simp [valueP, ev, eb]
      simp -implicitDefEqProofs only [go_sem, c2, c3, c4, c23, c24, c34, upd_ne, n2, n3, n4, m32, m23, m42, m24, m43, m34, k2, k3, k4, k5, PO, kb, w1]
      exact .mk (h' := upd G id (some (PO (valueP st).2))) _ (.refl _) (by rw [en]; exact Sub.both (by repeat (first | exact .refl _ | refine Sub.put ?_ (by assumption) _)) _ _) ⟨by rw [en]; rfl, rfl⟩
    · have eb : st.bad ≠ 0 := by simpa using kb
      have en : valueP st = (⟨0, 0, []⟩, st) := by simp [valueP, ev, eb]
      simp -implicitDefEqProofs only [go_sem, c2, c3, c4, c23, c24, c34, upd_ne, n2, n3, n4, m32, m23, m42, m24, m43, m34, k2, k3, k4, k5, PO, kb, w1]
      exact .mk (h' := upd G id (some (PO (valueP st).2))) _ (.refl _) (by rw [en]; exact Sub.both (by repeat (first | exact .refl _ | refine Sub.put ?_ (by assumption) _)) _ _) ⟨by rw [en]; rfl, rfl⟩
  have e5 : (hereD st).kind ≠ 5 := by simpa using k5
  simp -implicitDefEqProofs only [go_sem, c2, c3, c4, c23, c24, c34, upd_ne, n2, n3, n4, m32, m23, m42, m24, m43, m34, k2, k3, k4, k5]
  refine (is_ok st trueT hw).run ?_
  cases kt : isD st trueT
  case true =>
    have ev : valueV st = (⟨1, 1, []⟩, st) := by simp [valueV, e2, e3, e4, e5, kt]
    cases kb : (st.bad != 0)
    · have eb : st.bad = 0 := by simpa using kb
      have en : valueP st = (⟨1, 1, []⟩, nextD st) := by simp [valueP, ev, eb]
      simp -implicitDefEqProofs only [go_sem, c2, c3, c4, c23, c24, c34, upd_ne, n2, n3, n4, m32, m23, m42, m24, m43, m34, k2, k3, k4, k5, kt, PO, kb, w1]
      exact .mk (h' := upd G id (some (PO (valueP st).2))) _ (.refl _) (by rw [en]; exact Sub.both (by repeat (first | exact .refl _ | refine Sub.put ?_ (by assumption) _)) _ _) ⟨by rw [en]; rfl, rfl⟩
    · have eb : st.bad ≠ 0 := by simpa using kb
      have en : valueP st = (⟨0, 0, []⟩, st) := by simp [valueP, ev, eb]
      simp -implicitDefEqProofs only [go_sem, c2, c3, c4, c23, c24, c34, upd_ne, n2, n3, n4, m32, m23, m42, m24, m43, m34, k2, k3, k4, k5, kt, PO, kb, w1]
      exact .mk (h' := upd G id (some (PO (valueP st).2))) _ (.refl _) (by rw [en]; exact Sub.both (by repeat (first | exact .refl _ | refine Sub.put ?_ (by assumption) _)) _ _) ⟨by rw [en]; rfl, rfl⟩
  simp -implicitDefEqProofs only [go_sem, c2, c3, c4, c23, c24, c34, upd_ne, n2, n3, n4, m32, m23, m42, m24, m43, m34, k2, k3, k4, k5, kt]
  refine (is_ok st falseT hw).run ?_
  cases kf : isD st falseT
  case true =>
    have ev : valueV st = (⟨1, 0, []⟩, st) := by simp [valueV, e2, e3, e4, e5, kt, kf]
    cases kb : (st.bad != 0)
    · have eb : st.bad = 0 := by simpa using kb
      have en : valueP st = (⟨1, 0, []⟩, nextD st) := by simp [valueP, ev, eb]
      simp -implicitDefEqProofs only [go_sem, c2, c3, c4, c23, c24, c34, upd_ne, n2, n3, n4, m32, m23, m42, m24, m43, m34, k2, k3, k4, k5, kt, kf, PO, kb, w1]
      exact .mk (h' := upd G id (some (PO (valueP st).2))) _ (.refl _) (by rw [en]; exact Sub.both (by repeat (first | exact .refl _ | refine Sub.put ?_ (by assumption) _)) _ _) ⟨by rw [en]; rfl, rfl⟩
    · have eb : st.bad ≠ 0 := by simpa using kb
      have en : valueP st = (⟨0, 0, []⟩, st) := by simp [valueP, ev, eb]
      simp -implicitDefEqProofs only [go_sem, c2, c3, c4, c23, c24, c34, upd_ne, n2, n3, n4, m32, m23, m42, m24, m43, m34, k2, k3, k4, k5, kt, kf, PO, kb, w1]
      exact .mk (h' := upd G id (some (PO (valueP st).2))) _ (.refl _) (by rw [en]; exact Sub.both (by repeat (first | exact .refl _ | refine Sub.put ?_ (by assumption) _)) _ _) ⟨by rw [en]; rfl, rfl⟩
  have ev : valueV st = (⟨0, (hereD st).n, (hereD st).s⟩, stuckD st) := by simp [valueV, e2, e3, e4, e5, kt, kf]
  have en : valueP st = (⟨0, 0, []⟩, stuckD st) := by simp [valueP, ev, stuck_bad]
  have kb : ((stuckD st).bad != 0) = true := by simpa using stuck_bad st
  simp -implicitDefEqProofs only [go_sem, c2, c3, c4, c23, c24, c34, upd_ne, n2, n3, n4, m32, m23, m42, m24, m43, m34, k2, k3, k4, k5, kt, kf]
  refine (stuck_ok st hw).run ?_
  simp -implicitDefEqProofs only [go_sem, c2, c3, c4, c23, c24, c34, upd_ne, n2, n3, n4, m32, m23, m42, m24, m43, m34, k2, k3, k4, k5, kt, kf, PO, kb]
  exact .mk (h' := upd G id (some (PO (valueP st).2))) _ (.refl _) (by rw [en]; exact Sub.both (by repeat (first | exact .refl _ | refine Sub.put ?_ (by assumption) _)) _ _) ⟨by rw [en]; rfl, rfl⟩
end Go.Proofs.YtdcchpbncckhlaaDoor

set_option linter.unusedSimpArgs false
set_option linter.unusedVariables false
namespace Go.Proofs.YtdcchpbncckhlaaDoor
open Go Go.Ab Go.Bf
def opsT : List Txt := [[61], [60], [62]]
theorem opP_at {st : PS} (i : Nat) (hi : i < opsT.length) (hb : ∀ j (hj : j < opsT.length), j < i → isD st opsT[j] = false) (h : isD st opsT[i] = true) : opP st = ((i : Int) + 1, nextD st) := by
  have h3 : i < 3 := hi
  rcases (by omega : i = 0 ∨ i = 1 ∨ i = 2) with rfl | rfl | rfl
  · simp only [opP, show isD st [61] = true from h, if_true]; rfl
  · simp only [opP, show isD st [61] = false from hb 0 (by decide) (by decide), show isD st [60] = true from h, if_true]; rfl
  · simp only [opP, show isD st [61] = false from hb 0 (by decide) (by decide), show isD st [60] = false from hb 1 (by decide) (by decide), show isD st [62] = true from h, if_true]; rfl
theorem opP_none {st : PS} (hb : ∀ j (hj : j < opsT.length), isD st opsT[j] = false) : opP st = (0, stuckD st) := by
  simp only [opP, show isD st [61] = false from hb 0 (by decide), show isD st [60] = false from hb 1 (by decide), show isD st [62] = false from hb 2 (by decide)]; rfl
set_option maxRecDepth 20000 in
theorem match_p (st : PS) (hw : WfP st) : PC 135 [] st (matchA (matchP st).1) (matchP st).2 := .of fun G id => by
  have h1 := ah_attr hw
  obtain ⟨a, st1, e1⟩ : ∃ a st1, attrP st = (a, st1) := ⟨_, _, rfl⟩
  have hat := attr_p st hw
  rw [e1] at h1 hat
  simp only at h1 hat
  refine FnOK.body hU hm Tryd.func135 rfl (by kernel_rfl) 32 rfl [.cell 2 27] rfl (Nat.le_of_ble_eq_true rfl) (fun hwf => ?_)
  simp -implicitDefEqProofs only [go_sem]
  intro i2 hi2
  have n2 := ne_upd hi2
  have hG2 : G i2 = none := by rw [upd_other _ _ n2] at hi2; exact hi2
  have c2 : ∀ (f : Heap) (x y : Option Blk), upd (upd f id x) i2 y = upd (upd f i2 y) id x := fun f x y => upd_comm f x y n2.symm
  simp -implicitDefEqProofs only [go_sem, c2]
  refine hat.run ?_
  simp -implicitDefEqProofs only [go_sem, attrA]
  intro i3 hi3
  have n3 := ne_upd hi3
  have hi3' := hi3
  rw [upd_other _ _ n3] at hi3'
  have n32 := ne_upd hi3'
  have hG3 : G i3 = none := by rw [upd_other _ _ n32] at hi3'; exact hi3'
  have c3 : ∀ (f : Heap) (x y : Option Blk), upd (upd f id x) i3 y = upd (upd f i3 y) id x := fun f x y => upd_comm f x y n3.symm
  have c23 : ∀ (f : Heap) (x y : Option Blk), upd (upd f i3 x) i2 y = upd (upd f i2 y) i3 x := fun f x y => upd_comm f x y n32
  have m32 : ¬ i3 = i2 := n32
  have m23 : ¬ i2 = i3 := n32.symm
  simp -implicitDefEqProofs only [go_sem, c2, c3, c23, upd_ne, n2, n3, m32, m23, attrA]
  refine .intro (fun m ρ H => H = upd (upd (upd G i2 (some (.obj [.v (.int .i64 0), .s [], .v (.bool false), .v (.int .i64 0), .v (.int .i64 0), .v (.int .i64 0), .s []] 27))) i3 (some (.obj [.v (.int .i64 a.cat), .s a.name, .v (.bool a.must), .v (.int .i64 0), .v (.int .i64 0), .v (.int .i64 0), .s []] 27))) id (some (PO st1)) ∧
    ∃ i : Nat, i ≤ 3 ∧ m = 3 - i ∧ (∀ j (hj : j < opsT.length), j < i → isD st1 opsT[j] = false) ∧ lk ρ 0 = some (.ptr id 0) ∧ lk ρ 2 = some (.ptr i2 0) ∧ lk ρ 3 = some (.ptr i3 0) ∧ lk ρ 9 = some (.sl (opsT.map AV.s) .full) ∧ lk ρ 10 = some (.v (.int .i64 3)) ∧ lk ρ 11 = some (.v (.int .i64 i))) 3 ?_ ?_
  · refine ⟨rfl, 0, by omega, rfl, fun j _ hj => (by omega), ?_, ?_, ?_, ?_, ?_, ?_⟩ <;> simp -implicitDefEqProofs only [go_sem] <;> rfl
  · rintro m ρ H ⟨rfl, i, hi, rfl, hb, r0, r2, r3, r9, r10, r11⟩
    simp -implicitDefEqProofs only [go_sem, r0, r2, r3, r9, r10, r11]
    refine .intro (fun e => ?_) (fun e => ?_)
    · have hlt : i < 3 := by have := of_decide_eq_true e; omega
      have hlo : i < opsT.length := hlt
      have w1 : IntKind.i64.wrap ((i : Int) + 1) = ((i + 1 : Nat) : Int) := by rw [wr64 _ (by omega)]; omega
      have w2 : IntKind.i64.wrap (1 + (i : Int)) = ((i : Int) + 1) := by rw [wr64 _ (by omega)]; omega
      simp -implicitDefEqProofs only [go_sem, r0, r2, r3, r9, r10, r11]
      refine .at i (by simpa using hlo) (by rw [List.getElem_map]; rfl) ?_
      simp -implicitDefEqProofs only [go_sem, r0, r2, r3, r9, r10, r11, List.getElem_map]
      refine (take_ok st1 opsT[i] h1.1).run ?_
      cases d1 : isD st1 opsT[i]
      · have et : takeD st1 opsT[i] = (false, st1) := by simp [takeD, d1]
        rw [et]
        simp -implicitDefEqProofs only [go_sem, r0, r2, r3, r9, r10, r11, w1]
        refine ⟨_, ?_, rfl, i + 1, by omega, rfl, fun j hj hji => ?_, ?_, ?_, ?_, ?_, ?_, ?_⟩
        · omega
        · by_cases e : j = i
          · subst e; exact d1
          · exact hb j hj (by omega)
        all_goals simp -implicitDefEqProofs only [go_sem, r0, r2, r3, r9, r10, r11, w1]
      · have et : takeD st1 opsT[i] = (true, nextD st1) := by simp [takeD, d1]
        have eo := opP_at i hlo hb d1
        have h2 : Ah st1 (nextD st1) := ah_next h1.1 (isD_kind d1)
        have en : matchP st = (⟨a, (i : Int) + 1, (valueP (nextD st1)).1⟩, (valueP (nextD st1)).2) := by simp [matchP, e1, eo]
        have d2 : (((i : Int) + 1) == 0) = false := by simp; omega
        rw [et]
        simp -implicitDefEqProofs only [go_sem, c2, c3, c23, upd_ne, n2, n3, m32, m23, attrA, r0, r2, r3, r9, r10, r11, w2, d2]
        refine (value_p (nextD st1) h2.1).run ?_
        simp -implicitDefEqProofs only [go_sem, c2, c3, c23, upd_ne, n2, n3, m32, m23, attrA, valA, r0, r2, r3]
        exact .mk (h' := upd G id (some (PO (matchP st).2))) _ (.refl _) (by rw [en]; exact Sub.both (by repeat (first | exact .refl _ | refine Sub.put ?_ (by assumption) _)) _ _) ⟨by rw [en]; rfl, rfl⟩
    · have hge : i = 3 := by have := of_decide_eq_false e; omega
      subst hge
      have eo := opP_none fun j hj => hb j hj hj
      have h2 : Ah st1 (stuckD st1) := ah_stuck h1.1
      have en : matchP st = (⟨a, 0, (valueP (stuckD st1)).1⟩, (valueP (stuckD st1)).2) := by simp [matchP, e1, eo]
      simp -implicitDefEqProofs only [go_sem, r0, r2, r3, r9, r10, r11, c2, c3, c23, upd_ne, n2, n3, m32, m23, attrA]
      refine (stuck_ok st1 h1.1).run ?_
      simp -implicitDefEqProofs only [go_sem, c2, c3, c23, upd_ne, n2, n3, m32, m23, attrA, r0, r2, r3, r9, r10, r11]
      refine (value_p (stuckD st1) h2.1).run ?_
      simp -implicitDefEqProofs only [go_sem, c2, c3, c23, upd_ne, n2, n3, m32, m23, attrA, valA, r0, r2, r3]
      exact .mk (h' := upd G id (some (PO (matchP st).2))) _ (.refl _) (by rw [en]; exact Sub.both (by repeat (first | exact .refl _ | refine Sub.put ?_ (by assumption) _)) _ _) ⟨by rw [en]; rfl, rfl⟩
end Go.Proofs.YtdcchpbncckhlaaDoor

set_option linter.unusedSimpArgs false
set_option linter.unusedVariables false
namespace Go.Proofs.YtdcchpbncckhlaaDoor
open Go Go.Ab Go.Bf
theorem uz_m : (U 27).sz = 7 := by simp only [go_sem]
theorem ub_m : (U 27).bytes = 72 := by simp only [go_sem]
theorem sized_m (l : List MatchD) : Sized 7 (l.map matchA) := fun z hz => by
  obtain ⟨c, _, rfl⟩ := List.mem_map.1 hz; rfl
theorem uz_a : (U 28).sz = 1 := by simp only [go_sem]
theorem ub_a : (U 28).bytes = 24 := by simp only [go_sem]
theorem sized_a (l : List (List MatchD)) : Sized 1 (l.map allA) := fun z hz => by
  obtain ⟨c, _, rfl⟩ := List.mem_map.1 hz; rfl
theorem uz_y : (U 29).sz = 1 := by simp only [go_sem]
theorem ub_y : (U 29).bytes = 24 := by simp only [go_sem]
theorem sized_y (l : List (List (List MatchD))) : Sized 1 (l.map anyA) := fun z hz => by
  obtain ⟨c, _, rfl⟩ := List.mem_map.1 hz; rfl
theorem all_p (st : PS) (hw : WfP st) : PC 123 [] st (allA (allP st).1) (allP st).2 := .of fun G id => by
  have h1 := ah_match hw
  have hm1 := match_p st hw
  obtain ⟨x0, st1, e1⟩ : ∃ x0 st1, matchP st = (x0, st1) := ⟨_, _, rfl⟩
  have ep : manyF matchP [44] 8 st.ts.length st1 [x0] = allP st := by simp only [allP, e1]
  rw [e1] at h1 hm1
  simp only [matchA] at h1 hm1
  refine FnOK.body hU hm Tryd.func123 rfl (by kernel_rfl) 20 rfl [.tmp 2] rfl (Nat.le_of_ble_eq_true rfl) (fun hwf => ?_)
  simp -implicitDefEqProofs only [go_sem]
  refine hm1.run ?_
  simp -implicitDefEqProofs only [go_sem]
  have hB : upd G id none id = none := upd_same ..
  refine .intro (fun m ρ H => ∃ (f : Nat) (st' : PS) (l : List _) (y : AV), H id = some (PO st') ∧ Acc U 27 (upd G id none) H y (l.map matchA) ∧ Ah st1 st' ∧ manyF matchP [44] 8 f st' l = allP st ∧ st1.ts.length ≤ f + st'.pos ∧ l.length ≤ st'.pos + 1 ∧ m = st1.ts.length - st'.pos ∧ lk ρ 0 = some (.ptr id 0) ∧ lk ρ 3 = some y) (st1.ts.length - st1.pos) ?_ ?_
  · refine ⟨st.ts.length, st1, [x0], .sl ([x0].map matchA) .full, upd_same .., .full (base_start G id _), .refl h1.1, ep, by rw [h1.2.1]; omega, by simp, rfl, ?_, ?_⟩ <;> simp -implicitDefEqProofs only [go_sem] <;> rfl
  · rintro m ρ H ⟨f, st', l, y, hH, hy, ha, hfin, hf, hll, rfl, r0, r3⟩
    have hlen := ha.1.2.2
    have hpos := ha.1.1
    have htl := ha.2.1
    simp -implicitDefEqProofs only [go_sem, r0, r3]
    refine (take_ok st' [44] ha.1).go hH ?_
    cases d1 : isD st' [44]
    · have et : takeD st' [44] = (false, st') := by simp [takeD, d1]
      have ef : manyF matchP [44] 8 f st' l = (l, st') := by cases f <;> simp [manyF, d1]
      rw [et, upd_self hH]
      rw [ef] at hfin
      simp -implicitDefEqProofs only [go_sem, r0, r3]
      exact .mk (h' := upd G id (some (PO (allP st).2))) (allA l) hy.weak (by rw [← hfin]; exact base_end hy.1 hH) ⟨by rw [← hfin], rfl⟩
    · have et : takeD st' [44] = (true, nextD st') := by simp [takeD, d1]
      obtain ⟨g, rfl⟩ : ∃ g, f = g + 1 := ⟨f - 1, by rw [htl] at hpos; omega⟩
      simp only [manyF, d1, if_true] at hfin
      have h2 := ah_next ha.1 (isD_kind d1)
      have hone := match_p (nextD st') h2.1
      have h3 := (fun _ h => ah_match h : ∀ st, WfP st → Ah st (matchP st).2) _ h2.1
      obtain ⟨x, st2, e2⟩ : ∃ x st2, matchP (nextD st') = (x, st2) := ⟨_, _, rfl⟩
      rw [e2] at hfin hone h3
      simp only [matchA] at hfin hone h3
      have hdec : decide ((8 : Int) < ((l.length + 1 : Nat) : Int)) = decide (8 < l.length + 1) := by
        by_cases h : 8 < l.length + 1
        · simp only [h, decide_true]; exact decide_eq_true (by omega)
        · simp only [h, decide_false]; exact decide_eq_false (by omega)
      have h4 := ah_limit (decide (8 < l.length + 1)) h3.1
      have hnp : (nextD st').pos = st'.pos + 1 := rfl
      have hp3 := h3.2.2
      have hp4 := h4.2.2
      rw [et]
      simp -implicitDefEqProofs only [go_sem, r0, r3]
      refine hone.run ?_
      simp -implicitDefEqProofs only [go_sem, r0, r3]
      refine (hy.put hB hH _).app (zs := [matchA x]) (by rw [uz_m]; decide) (by rw [ub_m]; decide) (fun k hk => hk) (by rw [uz_m]; exact sized_m l) (by rw [uz_m]; exact sized_m [x]) (by rw [ub_m]; simp; omega) fun y' H2 hy' hk2 => ?_
      have hH2 : H2 id = some (PO st2) := hk2 _ _ _ (upd_same ..)
      simp -implicitDefEqProofs only [go_sem, r0, r3, hy'.len, List.length_append, List.length_map, List.length_cons, List.length_nil, Nat.zero_add, hdec]
      refine (limit_ok st2 _ h3.1).go hH2 ?_
      simp -implicitDefEqProofs only [go_sem, r0, r3]
      refine ⟨_, ?_, g, limitD st2 (decide (8 < l.length + 1)), l ++ [x], y', upd_same .., by rw [List.map_append]; exact hy'.put hB hH2 _, (((ha.trans h2).trans h3).trans h4), hfin, by omega, by simp; omega, rfl, ?_, ?_⟩
      · have : st1.ts.length = st'.ts.length := by rw [htl]
        omega
      all_goals simp -implicitDefEqProofs only [go_sem, r0, r3]
theorem any_p (st : PS) (hw : WfP st) : PC 109 [] st (anyA (anyP st).1) (anyP st).2 := .of fun G id => by
  have h0 := ah_must [40] hw
  have h1 := ah_all h0.1
  have hm1 := all_p _ h0.1
  obtain ⟨x0, st1, e1⟩ : ∃ x0 st1, allP (mustD st [40]) = (x0, st1) := ⟨_, _, rfl⟩
  obtain ⟨M, eM⟩ : ∃ M, manyF allP orT 8 st.ts.length st1 [x0] = M := ⟨_, rfl⟩
  have epp : (M.1, mustD M.2 [41]) = anyP st := by simp only [anyP, e1, eM]
  rw [e1] at h1 hm1
  simp only [allA] at h1 hm1
  refine FnOK.body hU hm Tryd.func109 rfl (by kernel_rfl) 24 rfl [.tmp 2] rfl (Nat.le_of_ble_eq_true rfl) (fun hwf => ?_)
  simp -implicitDefEqProofs only [go_sem]
  refine (must_ok st [40] hw).run ?_
  simp -implicitDefEqProofs only [go_sem]
  refine hm1.run ?_
  simp -implicitDefEqProofs only [go_sem]
  have hB : upd G id none id = none := upd_same ..
  refine .intro (fun m ρ H => ∃ (f : Nat) (st' : PS) (l : List _) (y : AV), H id = some (PO st') ∧ Acc U 28 (upd G id none) H y (l.map allA) ∧ Ah st1 st' ∧ manyF allP orT 8 f st' l = M ∧ st1.ts.length ≤ f + st'.pos ∧ l.length ≤ st'.pos + 1 ∧ m = st1.ts.length - st'.pos ∧ lk ρ 0 = some (.ptr id 0) ∧ lk ρ 3 = some y) (st1.ts.length - st1.pos) ?_ ?_
  · refine ⟨st.ts.length, st1, [x0], .sl ([x0].map allA) .full, upd_same .., .full (base_start G id _), .refl h1.1, eM, by rw [h1.2.1, h0.2.1]; omega, by simp, rfl, ?_, ?_⟩ <;> simp -implicitDefEqProofs only [go_sem] <;> rfl
  · rintro m ρ H ⟨f, st', l, y, hH, hy, ha, hfin, hf, hll, rfl, r0, r3⟩
    have hlen := ha.1.2.2
    have hpos := ha.1.1
    have htl := ha.2.1
    simp -implicitDefEqProofs only [go_sem, r0, r3]
    refine (take_ok st' orT ha.1).go hH ?_
    cases d1 : isD st' orT
    · have et : takeD st' orT = (false, st') := by simp [takeD, d1]
      have ef : manyF allP orT 8 f st' l = (l, st') := by cases f <;> simp [manyF, d1]
      rw [et, upd_self hH]
      rw [ef] at hfin
      simp -implicitDefEqProofs only [go_sem, r0, r3]
      refine (must_ok st' [41] ha.1).go hH ?_
      simp -implicitDefEqProofs only [go_sem, r0, r3]
      exact .mk (h' := upd G id (some (PO (anyP st).2))) (anyA l) hy.weak (by rw [← epp, ← hfin]; exact base_end (hy.1.put hB _) (upd_same ..)) ⟨by rw [← epp, ← hfin], rfl⟩
    · have et : takeD st' orT = (true, nextD st') := by simp [takeD, d1]
      obtain ⟨g, rfl⟩ : ∃ g, f = g + 1 := ⟨f - 1, by rw [htl] at hpos; omega⟩
      simp only [manyF, d1, if_true] at hfin
      have h2 := ah_next ha.1 (isD_kind d1)
      have hone := all_p (nextD st') h2.1
      have h3 := (fun _ h => ah_all h : ∀ st, WfP st → Ah st (allP st).2) _ h2.1
      obtain ⟨x, st2, e2⟩ : ∃ x st2, allP (nextD st') = (x, st2) := ⟨_, _, rfl⟩
      rw [e2] at hfin hone h3
      simp only [allA] at hfin hone h3
      have hdec : decide ((8 : Int) < ((l.length + 1 : Nat) : Int)) = decide (8 < l.length + 1) := by
        by_cases h : 8 < l.length + 1
        · simp only [h, decide_true]; exact decide_eq_true (by omega)
        · simp only [h, decide_false]; exact decide_eq_false (by omega)
      have h4 := ah_limit (decide (8 < l.length + 1)) h3.1
      have hnp : (nextD st').pos = st'.pos + 1 := rfl
      have hp3 := h3.2.2
      have hp4 := h4.2.2
      rw [et]
      simp -implicitDefEqProofs only [go_sem, r0, r3]
      refine hone.run ?_
      simp -implicitDefEqProofs only [go_sem, r0, r3]
      refine (hy.put hB hH _).app (zs := [allA x]) (by rw [uz_a]; decide) (by rw [ub_a]; decide) (fun k hk => hk) (by rw [uz_a]; exact sized_a l) (by rw [uz_a]; exact sized_a [x]) (by rw [ub_a]; simp; omega) fun y' H2 hy' hk2 => ?_
      have hH2 : H2 id = some (PO st2) := hk2 _ _ _ (upd_same ..)
      simp -implicitDefEqProofs only [go_sem, r0, r3, hy'.len, List.length_append, List.length_map, List.length_cons, List.length_nil, Nat.zero_add, hdec]
      refine (limit_ok st2 _ h3.1).go hH2 ?_
      simp -implicitDefEqProofs only [go_sem, r0, r3]
      refine ⟨_, ?_, g, limitD st2 (decide (8 < l.length + 1)), l ++ [x], y', upd_same .., by rw [List.map_append]; exact hy'.put hB hH2 _, (((ha.trans h2).trans h3).trans h4), hfin, by omega, by simp; omega, rfl, ?_, ?_⟩
      · have : st1.ts.length = st'.ts.length := by rw [htl]
        omega
      all_goals simp -implicitDefEqProofs only [go_sem, r0, r3]
theorem tgt_p (st : PS) (hw : WfP st) : PC 81 [] st (tgtA (tgtP st).1) (tgtP st).2 := .of fun G id => by
  refine FnOK.body hU hm Tryd.func81 rfl (by kernel_rfl) 23 rfl [.tmp 2] rfl (Nat.le_of_ble_eq_true rfl) (fun hwf => ?_)
  simp -implicitDefEqProofs only [go_sem]
  refine (take_ok st whenT hw).run ?_
  cases d0 : isD st whenT
  · have et : takeD st whenT = (false, st) := by simp [takeD, d0]
    have ep : tgtP st = ([], st) := by simp [tgtP, d0]
    rw [et]
    simp -implicitDefEqProofs only [go_sem]
    exact .mk (h' := upd G id (some (PO (tgtP st).2))) (tgtA []) (.sl _ _) (by rw [ep]; exact .refl _) ⟨by rw [ep], rfl⟩
  have et : takeD st whenT = (true, nextD st) := by simp [takeD, d0]
  have h0 := ah_next hw (isD_kind d0)
  have h1 := ah_any h0.1
  have hm1 := any_p _ h0.1
  obtain ⟨x0, st1, e1⟩ : ∃ x0 st1, anyP (nextD st) = (x0, st1) := ⟨_, _, rfl⟩
  obtain ⟨M, eM⟩ : ∃ M, manyF anyP andT 8 st.ts.length st1 [x0] = M := ⟨_, rfl⟩
  have ep : M = tgtP st := by simp only [tgtP, d0, if_true, e1, eM]
  rw [e1] at h1 hm1
  simp only [anyA] at h1 hm1
  rw [et]
  simp -implicitDefEqProofs only [go_sem]
  refine hm1.run ?_
  simp -implicitDefEqProofs only [go_sem]
  have hB : upd G id none id = none := upd_same ..
  refine .intro (fun m ρ H => ∃ (f : Nat) (st' : PS) (l : List _) (y : AV), H id = some (PO st') ∧ Acc U 29 (upd G id none) H y (l.map anyA) ∧ Ah st1 st' ∧ manyF anyP andT 8 f st' l = M ∧ st1.ts.length ≤ f + st'.pos ∧ l.length ≤ st'.pos + 1 ∧ m = st1.ts.length - st'.pos ∧ lk ρ 0 = some (.ptr id 0) ∧ lk ρ 3 = some y) (st1.ts.length - st1.pos) ?_ ?_
  · refine ⟨st.ts.length, st1, [x0], .sl ([x0].map anyA) .full, upd_same .., .full (base_start G id _), .refl h1.1, eM, by rw [h1.2.1, h0.2.1]; omega, by simp, rfl, ?_, ?_⟩ <;> simp -implicitDefEqProofs only [go_sem] <;> rfl
  · rintro m ρ H ⟨f, st', l, y, hH, hy, ha, hfin, hf, hll, rfl, r0, r3⟩
    have hlen := ha.1.2.2
    have hpos := ha.1.1
    have htl := ha.2.1
    simp -implicitDefEqProofs only [go_sem, r0, r3]
    refine (take_ok st' andT ha.1).go hH ?_
    cases d1 : isD st' andT
    · have et : takeD st' andT = (false, st') := by simp [takeD, d1]
      have ef : manyF anyP andT 8 f st' l = (l, st') := by cases f <;> simp [manyF, d1]
      rw [et, upd_self hH]
      rw [ef] at hfin
      simp -implicitDefEqProofs only [go_sem, r0, r3]
      exact .mk (h' := upd G id (some (PO (tgtP st).2))) (tgtA l) hy.weak (by rw [← ep, ← hfin]; exact base_end hy.1 hH) ⟨by rw [← ep, ← hfin], rfl⟩
    · have et : takeD st' andT = (true, nextD st') := by simp [takeD, d1]
      obtain ⟨g, rfl⟩ : ∃ g, f = g + 1 := ⟨f - 1, by rw [htl] at hpos; omega⟩
      simp only [manyF, d1, if_true] at hfin
      have h2 := ah_next ha.1 (isD_kind d1)
      have hone := any_p (nextD st') h2.1
      have h3 := (fun _ h => ah_any h : ∀ st, WfP st → Ah st (anyP st).2) _ h2.1
      obtain ⟨x, st2, e2⟩ : ∃ x st2, anyP (nextD st') = (x, st2) := ⟨_, _, rfl⟩
      rw [e2] at hfin hone h3
      simp only [anyA] at hfin hone h3
      have hdec : decide ((8 : Int) < ((l.length + 1 : Nat) : Int)) = decide (8 < l.length + 1) := by
        by_cases h : 8 < l.length + 1
        · simp only [h, decide_true]; exact decide_eq_true (by omega)
        · simp only [h, decide_false]; exact decide_eq_false (by omega)
      have h4 := ah_limit (decide (8 < l.length + 1)) h3.1
      have hnp : (nextD st').pos = st'.pos + 1 := rfl
      have hp3 := h3.2.2
      have hp4 := h4.2.2
      rw [et]
      simp -implicitDefEqProofs only [go_sem, r0, r3]
      refine hone.run ?_
      simp -implicitDefEqProofs only [go_sem, r0, r3]
      refine (hy.put hB hH _).app (zs := [anyA x]) (by rw [uz_y]; decide) (by rw [ub_y]; decide) (fun k hk => hk) (by rw [uz_y]; exact sized_y l) (by rw [uz_y]; exact sized_y [x]) (by rw [ub_y]; simp; omega) fun y' H2 hy' hk2 => ?_
      have hH2 : H2 id = some (PO st2) := hk2 _ _ _ (upd_same ..)
      simp -implicitDefEqProofs only [go_sem, r0, r3, hy'.len, List.length_append, List.length_map, List.length_cons, List.length_nil, Nat.zero_add, hdec]
      refine (limit_ok st2 _ h3.1).go hH2 ?_
      simp -implicitDefEqProofs only [go_sem, r0, r3]
      refine ⟨_, ?_, g, limitD st2 (decide (8 < l.length + 1)), l ++ [x], y', upd_same .., by rw [List.map_append]; exact hy'.put hB hH2 _, (((ha.trans h2).trans h3).trans h4), hfin, by omega, by simp; omega, rfl, ?_, ?_⟩
      · have : st1.ts.length = st'.ts.length := by rw [htl]
        omega
      all_goals simp -implicitDefEqProofs only [go_sem, r0, r3]
end Go.Proofs.YtdcchpbncckhlaaDoor

set_option linter.unusedSimpArgs false
set_option linter.unusedVariables false
namespace Go.Proofs.YtdcchpbncckhlaaDoor
open Go Go.Ab Go.Bf
theorem operands_ok (op : Int) (h : Heap) : FnOK Tryd.prog 156 [.v (.int .i64 op)] h fun r h' => r = .sl ((opers op).map boolA) .no ∧ h' = h := by
  refine FnOK.body hU hm Tryd.func156 rfl (by kernel_rfl) 15 rfl [.tmp 2] rfl (Nat.le_of_ble_eq_true rfl) (fun hwf => ?_)
  cases k3 : (op == 3) <;> cases k4 : (op == 4) <;> cases k5 : (op == 5) <;> cases k11 : (op == 11)
  all_goals
    simp -implicitDefEqProofs only [go_sem, k3, k4, k5, k11]
    simp only [beq_iff_eq, beq_eq_false_iff_ne] at k3 k4 k5 k11
    refine .mk _ (.sl _ _) (.refl _) ⟨?_, rfl⟩
    simp [opers, k3, k4, k5, k11, boolA]
theorem uz_o : (U 40).sz = 3 := by simp only [go_sem]
theorem ub_o : (U 40).bytes = 32 := by simp only [go_sem]
theorem sized_o (l : List OblD) : Sized 3 (l.map oblA) := fun z hz => by
  obtain ⟨c, _, rfl⟩ := List.mem_map.1 hz; rfl
set_option maxRecDepth 20000 in
theorem duties_p (st : PS) (hw : WfP st) : PC 85 [] st (oblsA (oblsP st).1) (oblsP st).2 := .of fun G id => by
  obtain ⟨M, eM⟩ : ∃ M, oblsP st = M := ⟨_, rfl⟩
  have eM2 : manyF oblP onceT 8 st.ts.length st [] = M := eM
  refine FnOK.body hU hm Tryd.func85 rfl (by kernel_rfl) 28 rfl [.tmp 2] rfl (Nat.le_of_ble_eq_true rfl) (fun hwf => ?_)
  simp -implicitDefEqProofs only [go_sem]
  have hB : upd G id none id = none := upd_same ..
  refine .intro (fun m ρ H => ∃ (f : Nat) (st' : PS) (l : List OblD) (y : AV), H id = some (PO st') ∧ Acc U 40 (upd G id none) H y (l.map oblA) ∧ Ah st st' ∧ manyF oblP onceT 8 f st' l = M ∧ st.ts.length ≤ f + st'.pos ∧ l.length ≤ st'.pos + 1 ∧ m = st.ts.length - st'.pos ∧ lk ρ 0 = some (.ptr id 0) ∧ lk ρ 3 = some y) (st.ts.length - st.pos) ?_ ?_
  · refine ⟨st.ts.length, st, [], .sl ([].map oblA) .full, upd_same .., .full (base_start G id _), .refl hw, eM2, by omega, by simp, rfl, ?_, ?_⟩ <;> simp -implicitDefEqProofs only [go_sem] <;> rfl
  · rintro m ρ H ⟨f, st', l, y, hH, hy, ha, hfin, hf, hll, rfl, r0, r3⟩
    have hlen := ha.1.2.2
    have hpos := ha.1.1
    have htl := ha.2.1
    simp -implicitDefEqProofs only [go_sem, r0, r3]
    refine (take_ok st' onceT ha.1).go hH ?_
    cases d1 : isD st' onceT
    · have et : takeD st' onceT = (false, st') := by simp [takeD, d1]
      have ef : manyF oblP onceT 8 f st' l = (l, st') := by cases f <;> simp [manyF, d1]
      rw [et, upd_self hH]
      rw [ef] at hfin
      simp -implicitDefEqProofs only [go_sem, r0, r3]
      exact .mk (h' := upd G id (some (PO (oblsP st).2))) (oblsA l) hy.weak (by rw [eM, ← hfin]; exact base_end hy.1 hH) ⟨by rw [eM, ← hfin], rfl⟩
    · have et : takeD st' onceT = (true, nextD st') := by simp [takeD, d1]
      obtain ⟨g, rfl⟩ : ∃ g, f = g + 1 := ⟨f - 1, by rw [htl] at hpos; omega⟩
      simp only [manyF, d1, if_true] at hfin
      have h2 := ah_next ha.1 (isD_kind d1)
      have ho1 := ah_among onWs h2.1
      have ho2 := ah_among dutyWs ho1.1
      have ho3 := ah_name ho2.1
      have h3 : Ah (nextD st') (oblP (nextD st')).2 := ah_obl h2.1
      have hdec : decide ((8 : Int) < ((l.length + 1 : Nat) : Int)) = decide (8 < l.length + 1) := by
        by_cases h : 8 < l.length + 1
        · simp only [h, decide_true]; exact decide_eq_true (by omega)
        · simp only [h, decide_false]; exact decide_eq_false (by omega)
      have h4 := ah_limit (decide (8 < l.length + 1)) h3.1
      have hnp : (nextD st').pos = st'.pos + 1 := rfl
      have hp3 := h3.2.2
      have hp4 := h4.2.2
      have eX : (oblP (nextD st')) = (⟨(amongD (nextD st') onWs).1, (amongD (amongD (nextD st') onWs).2 dutyWs).1, (nameP (amongD (amongD (nextD st') onWs).2 dutyWs).2).1⟩, (nameP (amongD (amongD (nextD st') onWs).2 dutyWs).2).2) := rfl
      obtain ⟨x, st2, e2⟩ : ∃ x st2, oblP (nextD st') = (x, st2) := ⟨_, _, rfl⟩
      rw [et]
      simp -implicitDefEqProofs only [go_sem, r0, r3]
      intro i4 hi4
      have n4 := ne_upd hi4
      have hH4 : H i4 = none := by rw [upd_other _ _ n4] at hi4; exact hi4
      have c4 : ∀ (f : Heap) (x y : Option Blk), upd (upd f id x) i4 y = upd (upd f i4 y) id x := fun f x y => upd_comm f x y n4.symm
      simp -implicitDefEqProofs only [go_sem, r0, r3, c4]
      refine (among_ok _ onWs .full (by decide) h2.1).run ?_
      simp -implicitDefEqProofs only [go_sem, r0, r3, c4, upd_ne, n4]
      refine (among_ok _ dutyWs .full (by decide) ho1.1).run ?_
      simp -implicitDefEqProofs only [go_sem, r0, r3, c4, upd_ne, n4]
      refine (pname_ok _ ho2.1).run ?_
      simp -implicitDefEqProofs only [go_sem, r0, r3, c4, upd_ne, n4]
      rw [e2] at hfin h3 h4 hp3 hp4
      simp only at hfin h3 h4 hp3 hp4
      have ex1 : x = (oblP (nextD st')).1 := by rw [e2]
      have ex2 : st2 = (nameP (amongD (amongD (nextD st') onWs).2 dutyWs).2).2 := by
        have : st2 = (oblP (nextD st')).2 := by rw [e2]
        exact this
      rw [← ex2]
      refine ((hy.sub (Sub.upd_new (k := _) hH4)).put hB (by rw [upd_other _ _ n4.symm]; exact hH) _).app (zs := [oblA x]) (by rw [uz_o]; decide) (by rw [ub_o]; decide) (fun k hk => by rw [ex1] at hk; exact hk) (by rw [uz_o]; exact sized_o l) (by rw [uz_o]; exact sized_o [x]) (by rw [ub_o]; simp; omega) fun y' H2 hy' hk2 => ?_
      have hH2 : H2 id = some (PO st2) := hk2 _ _ _ (upd_same ..)
      simp -implicitDefEqProofs only [go_sem, r0, r3, hy'.len, List.length_append, List.length_map, List.length_cons, List.length_nil, Nat.zero_add, hdec]
      refine (limit_ok st2 _ h3.1).go hH2 ?_
      simp -implicitDefEqProofs only [go_sem, r0, r3]
      refine ⟨_, ?_, g, limitD st2 (decide (8 < l.length + 1)), l ++ [x], y', upd_same .., by rw [List.map_append]; exact hy'.put hB hH2 _, (((ha.trans h2).trans h3).trans h4), hfin, by omega, by simp; omega, rfl, ?_, ?_⟩
      · have : st.ts.length = st'.ts.length := by rw [htl]
        omega
      all_goals simp -implicitDefEqProofs only [go_sem, r0, r3]
end Go.Proofs.YtdcchpbncckhlaaDoor

set_option linter.unusedSimpArgs false
set_option linter.unusedVariables false
namespace Go.Proofs.YtdcchpbncckhlaaDoor
open Go Go.Ab Go.Bf
theorem acc_less {U : TypeId → TI} {e : TypeId} {B B' H : Heap} {y : AV} {xs : List AV} (hs : Sub B B') (ha : Acc U e B' H y xs) : Acc U e B H y xs := by
  obtain ⟨h1, rfl | ⟨k, i1, rfl, i2⟩⟩ := ha
  · exact ⟨hs.trans h1, .inl rfl⟩
  · refine ⟨hs.trans h1, .inr ⟨k, ?_, rfl, i2⟩⟩
    cases hk : B k with
    | none => rfl
    | some b => rw [hs _ _ hk] at i1; cases i1
theorem acc_grow {U : TypeId → TI} {e : TypeId} {B H : Heap} {y : AV} {xs : List AV} (ha : Acc U e B H y xs) {i : Nat} (hi : H i = none) (b : Option Blk) : Acc U e (upd B i b) (upd H i b) y xs := by
  obtain ⟨h1, rfl | ⟨k, i1, rfl, i2⟩⟩ := ha
  · exact ⟨h1.both _ _, .inl rfl⟩
  · have hne : k ≠ i := fun hh => by subst hh; rw [hi] at i2; cases i2
    exact ⟨h1.both _ _, .inr ⟨k, by rw [upd_other _ _ hne]; exact i1, rfl, by rw [upd_other _ _ hne]; exact i2⟩⟩
theorem acc_step {U : TypeId → TI} {e : TypeId} {G K : Heap} {id : Nat} {st : PS} {y : AV} {xs : List AV} (ha : Acc U e (upd G id none) (upd K id (some (PO st))) y xs) (st' : PS) : Acc U e (upd G id none) (upd K id (some (PO st'))) y xs := by
  have := ha.put (id := id) (upd_same ..) (cs := _) (t := _) (upd_same ..) (some (PO st'))
  rw [upd_upd] at this
  exact this
def XC (f : FuncId) (args : List AV) (st : PS) (l : List NodeD) (mk : AV → AV) (st' : PS) (l' : List NodeD) : Prop :=
  ∀ (G K : Heap) (id : Nat) (y : AV), Acc U 33 (upd G id none) (upd K id (some (PO st))) y (l.map nodeA) → FnOK Tryd.prog f (.ptr id 0 :: y :: args) (upd K id (some (PO st))) fun r h' => ∃ y', r = mk y' ∧ h' id = some (PO st') ∧ Acc U 33 (upd G id none) h' y' (l'.map nodeA)
theorem XC.run {f : FuncId} {args : List AV} {st st' : PS} {l l' : List NodeD} {mk : AV → AV} (hc : XC f args st l mk st' l') {G K : Heap} {id : Nat} {y : AV} {Q : AV → Heap → Prop} (ha : Acc U 33 (upd G id none) (upd K id (some (PO st))) y (l.map nodeA))
    (k : ∀ y' K', Acc U 33 (upd G id none) (upd K' id (some (PO st'))) y' (l'.map nodeA) → Q (mk y') (upd K' id (some (PO st')))) : FnOK Tryd.prog f (.ptr id 0 :: y :: args) (upd K id (some (PO st))) Q :=
  (hc G K id y ha).mono fun r h' ⟨y', e1, e2, e3⟩ => by
    subst e1
    have := k y' h' (by rw [upd_self e2]; exact e3)
    rwa [upd_self e2] at this
def EH (ex : ExF) (f : Nat) : Prop := ∀ st l, WfP st → st.ts.length ≤ f + st.pos → l.length ≤ 2 * st.pos + 1 → XC 136 [] st l (fun y => .tup [y, .v (.bool (ex st l).1.2)]) (ex st l).2 (ex st l).1.1
theorem among_rng (st : PS) (ws : List Txt) : 0 ≤ (amongD st ws).1 ∧ (amongD st ws).1 ≤ ws.length := by
  unfold amongD
  cases ei : idxT (hereD st).s ws with
  | none => simp
  | some i =>
    have := idxT_lt ei
    simp only
    split <;> simp <;> omega
theorem operand_x {ex : ExF} (ho : ExOK ex) {f : Nat} (he : EH ex f) (st : PS) (l : List NodeD) (b : Bool) (hw : WfP st) (hf : st.ts.length ≤ f + st.pos) (hl : l.length ≤ 2 * st.pos + 1) : XC 124 [.v (.bool b)] st l (fun y => y) (operG ex st l b).2 (operG ex st l b).1 := fun G K id y ha => by
  refine FnOK.body hU hm Tryd.func124 rfl (by kernel_rfl) 25 rfl [.tmp 6] rfl (Nat.le_of_ble_eq_true rfl) (fun hwf => ?_)
  simp -implicitDefEqProofs only [go_sem]
  refine (here_ok st hw).run ?_
  simp -implicitDefEqProofs only [go_sem, tokA]
  refine (he st l hw hf hl).run ha fun y' K' ha' => ?_
  cases db : ((ex st l).1.2 == b)
  · have e1 : (ex st l).1.2 ≠ b := by simpa using db
    have en : operG ex st l b = ((ex st l).1.1, wrongD (ex st l).2 5 (hereD st).pos) := by simp [operG, e1]
    simp -implicitDefEqProofs only [go_sem, db, Bool.not_false]
    refine (wrong_ok _ 5 _).run ?_
    simp -implicitDefEqProofs only [go_sem]
    exact .mk (h' := upd K' id (some (PO (wrongD (ex st l).2 5 (hereD st).pos)))) y' (.refl _) (.refl _) ⟨y', rfl, by rw [en]; exact upd_same .., by rw [en]; exact acc_step ha' _⟩
  · have e1 : (ex st l).1.2 = b := by simpa using db
    have en : operG ex st l b = ((ex st l).1.1, (ex st l).2) := by simp [operG, e1]
    simp -implicitDefEqProofs only [go_sem, db, Bool.not_true]
    exact .mk (h' := upd K' id (some (PO (ex st l).2))) y' (.refl _) (.refl _) ⟨y', rfl, by rw [en]; exact upd_same .., by rw [en]; exact ha'⟩
set_option maxRecDepth 20000 in
theorem function_x {ex : ExF} (ho : ExOK ex) {f : Nat} (he : EH ex f) (st : PS) (l : List NodeD) (hw : WfP st) (hf : st.ts.length ≤ f + st.pos) (hl : l.length + 1 ≤ 2 * st.pos) : XC 150 [] st l (fun y => .tup [y, nodeA (funcG ex st l).1.2]) (funcG ex st l).2 (funcG ex st l).1.1 := fun G K id y ha => by
  have h1 := ah_among fnWs hw
  have hrg := among_rng st fnWs
  have hfl : fnWs.length = 11 := rfl
  have w2 : IntKind.i64.wrap (2 + (amongD st fnWs).1) = 2 + (amongD st fnWs).1 := by rw [wr64 _ (by omega)]
  refine FnOK.body hU hm Tryd.func150 rfl (by kernel_rfl) 36 rfl [.tmp 4, .cell 5 33] rfl (Nat.le_of_ble_eq_true rfl) (fun hwf => ?_)
  simp -implicitDefEqProofs only [go_sem]
  intro i5 hi5
  have n5 := ne_upd hi5
  have hK5 : K i5 = none := by rw [upd_other _ _ n5] at hi5; exact hi5
  have c5 : ∀ (f : Heap) (x y : Option Blk), upd (upd f id x) i5 y = upd (upd f i5 y) id x := fun f x y => upd_comm f x y n5.symm
  simp -implicitDefEqProofs only [go_sem, c5]
  refine (among_ok _ fnWs .full (by decide) hw).run ?_
  simp -implicitDefEqProofs only [go_sem, w2, c5]
  intro i6 hi6
  have n6 := ne_upd hi6
  have c6 : ∀ (f : Heap) (x y : Option Blk), upd (upd f id x) i6 y = upd (upd f i6 y) id x := fun f x y => upd_comm f x y n6.symm
  have hi6' := hi6
  rw [upd_other _ _ n6] at hi6'
  have n65 := ne_upd hi6'
  have hK6 : K i6 = none := by rw [upd_other _ _ n65] at hi6'; exact hi6'
  simp -implicitDefEqProofs only [go_sem, w2, c5, c6, upd_ne, n5, n6]
  refine (operands_ok _ _).pthen ?_
  simp -implicitDefEqProofs only [go_sem, w2, c5, c6, upd_ne, n5, n6]
  have h5f := ha
  obtain ⟨bs, ebs⟩ : ∃ bs, opers (2 + (amongD st fnWs).1) = bs := ⟨_, rfl⟩
  obtain ⟨M, eM⟩ : ∃ M, opersG ex bs (amongD st fnWs).2 l = M := ⟨_, rfl⟩
  have hb2 : bs.length ≤ 2 := by rw [← ebs]; exact opers_le _
  have hMr : funcG ex st l = ((M.1, ⟨2 + (amongD st fnWs).1, ⟨0, 0, []⟩, ⟨0, [], false⟩⟩), mustD M.2 [41]) := by simp only [funcG, ebs, eM]
  obtain ⟨st1, es1⟩ : ∃ st1, (amongD st fnWs).2 = st1 := ⟨_, rfl⟩
  have hac0 := acc_grow (acc_grow (acc_step ha st1) (by rw [upd_other _ _ n5]; exact hK5) (some (.obj [.v (.int .i64 0), .v (.int .i64 0), .v (.int .i64 0), .s [], .v (.int .i64 0), .s [], .v (.bool false)] 33))) (by rw [upd_other _ _ n65, upd_other _ _ n6]; exact hK6) (some (.obj [.v (.int .i64 (2 + (amongD st fnWs).1)), .v (.int .i64 0), .v (.int .i64 0), .s [], .v (.int .i64 0), .s [], .v (.bool false)] 33))
  simp only [c5, c6] at hac0
  obtain ⟨G', eG⟩ : ∃ G', G' = upd (upd G i5 (some (.obj [.v (.int .i64 0), .v (.int .i64 0), .v (.int .i64 0), .s [], .v (.int .i64 0), .s [], .v (.bool false)] 33))) i6 (some (.obj [.v (.int .i64 (2 + (amongD st fnWs).1)), .v (.int .i64 0), .v (.int .i64 0), .s [], .v (.int .i64 0), .s [], .v (.bool false)] 33)) := ⟨_, rfl⟩
  have g5 : upd G' id none i5 = some (.obj [.v (.int .i64 0), .v (.int .i64 0), .v (.int .i64 0), .s [], .v (.int .i64 0), .s [], .v (.bool false)] 33) := by rw [eG, upd_other _ _ n5, upd_other _ _ (Ne.symm n65), upd_same]
  have g6 : upd G' id none i6 = some (.obj [.v (.int .i64 (2 + (amongD st fnWs).1)), .v (.int .i64 0), .v (.int .i64 0), .s [], .v (.int .i64 0), .s [], .v (.bool false)] 33) := by rw [eG, upd_other _ _ n6, upd_same]
  rw [← eG] at hac0
  have gi5 : upd G id none i5 = none := by
    cases hk : upd G id none i5 with
    | none => rfl
    | some b => rw [ha.1 _ _ hk] at hi5; cases hi5
  have hsG : Sub (upd G id none) (upd G' id none) := fun k b hk => by
    have hs1 := ha.1 k b hk
    have hk5 : k ≠ i5 := fun e => by rw [e, hi5] at hs1; cases hs1
    have hk6 : k ≠ i6 := fun e => by
      rw [e, upd_other _ _ n6, hK6] at hs1; cases hs1
    by_cases hkid : k = id
    · subst hkid; rw [upd_same] at hk; cases hk
    · rw [upd_other _ _ hkid] at hk ⊢
      rw [eG, upd_other _ _ hk6, upd_other _ _ hk5]; exact hk
  simp only [es1, ebs] at h1 eM ⊢
  refine .intro (fun m ρ H => ∃ (i : Nat) (st' : PS) (l' : List NodeD) (y' : AV) (K' : Heap), H = upd K' id (some (PO st')) ∧ Acc U 33 (upd G' id none) (upd K' id (some (PO st'))) y' (l'.map nodeA) ∧ Ah st1 st' ∧ i ≤ bs.length ∧ opersG ex (bs.drop i) st' l' = M ∧ l'.length + 1 ≤ 2 * st'.pos + i ∧ m = bs.length - i ∧ lk ρ 0 = some (.ptr id 0) ∧ lk ρ 1 = some y' ∧ lk ρ 5 = some (.ptr i5 0) ∧ lk ρ 6 = some (.ptr i6 0) ∧ lk ρ 16 = some (.sl (bs.map boolA) .no) ∧ lk ρ 17 = some (.v (.int .i64 bs.length)) ∧ lk ρ 18 = some (.v (.int .i64 i))) bs.length ?_ ?_
  · refine ⟨0, st1, l, y, _, rfl, hac0, .refl h1.1, by omega, by simpa using eM, by have := h1.2.2; omega, rfl, ?_, ?_, ?_, ?_, ?_, ?_, ?_⟩ <;> simp -implicitDefEqProofs only [go_sem] <;> (try rfl) <;> simp
  · rintro m ρ H ⟨i, st', l', y', K', rfl, hac, hah, hi, hfin, hll, rfl, r0, r1, r5, r6, r16, r17, r18⟩
    simp -implicitDefEqProofs only [go_sem, r0, r1, r5, r6, r16, r17, r18]
    have k6 : upd K' id (some (PO st')) i6 = some (.obj [.v (.int .i64 (2 + (amongD st fnWs).1)), .v (.int .i64 0), .v (.int .i64 0), .s [], .v (.int .i64 0), .s [], .v (.bool false)] 33) := hac.1 _ _ g6
    have k5 : upd K' id (some (PO st')) i5 = some (.obj [.v (.int .i64 0), .v (.int .i64 0), .v (.int .i64 0), .s [], .v (.int .i64 0), .s [], .v (.bool false)] 33) := hac.1 _ _ g5
    rw [upd_other _ _ n6] at k6
    rw [upd_other _ _ n5] at k5
    refine .intro (fun e => ?_) (fun e => ?_)
    · have hlt : i < bs.length := Int.ofNat_lt.1 (of_decide_eq_true e)
      simp -implicitDefEqProofs only [go_sem, r0, r1, r5, r6, r16, r17, r18]
      refine .at i (by simpa using hlt) (by rw [List.getElem_map]; rfl) ?_
      cases db : (st'.bad != 0)
      · have e1 : st'.bad = 0 := by simpa using db
        rw [List.drop_eq_getElem_cons hlt] at hfin
        simp only [opersG, e1, if_true] at hfin
        simp -implicitDefEqProofs only [go_sem, r0, r1, r5, r6, r16, r17, r18, List.getElem_map, boolA, PO, db]
        have hpl := hah.2.2
        refine (operand_x ho he st' l' bs[i] hah.1 (by rw [hah.2.1, h1.2.1]; have := h1.2.2; omega) (by omega)).run hac fun y2 K2 hac2 => ?_
        obtain ⟨q1, q2⟩ := operG_ok ho st' l' bs[i] hah.1
        have w1 : IntKind.i64.wrap ((i : Int) + 1) = ((i + 1 : Nat) : Int) := by rw [wr64 _ (by omega)]; omega
        simp -implicitDefEqProofs only [go_sem, r0, r1, r5, r6, r16, r17, r18, w1]
        refine ⟨_, ?_, i + 1, (operG ex st' l' bs[i]).2, (operG ex st' l' bs[i]).1, y2, K2, rfl, hac2, hah.trans q1, hlt, hfin, by omega, rfl, ?_⟩
        · omega
        refine ⟨?_, ?_, ?_, ?_, ?_, ?_, ?_⟩
        all_goals simp -implicitDefEqProofs only [go_sem, r0, r1, r5, r6, r16, r17, r18, w1]
      · have e1 : st'.bad ≠ 0 := by simpa using db
        have hfin2 : (l', st') = M := by
          rw [← hfin, List.drop_eq_getElem_cons hlt]
          simp [opersG, e1]
        clear hfin
        have hfin := hfin2
        simp -implicitDefEqProofs only [go_sem, r0, r1, r5, r6, r16, r17, r18, List.getElem_map, boolA, PO, db]
        refine (must_ok _ [41] hah.1).run ?_
        simp -implicitDefEqProofs only [go_sem, r0, r1, r5, r6, r16, r17, r18, upd_ne, n5, n6, k5, k6]
        refine ⟨.of (by kernel_rfl), ?_⟩
        exact .mk (.tup [y', nodeA ⟨2 + (amongD st fnWs).1, ⟨0, 0, []⟩, ⟨0, [], false⟩⟩]) (.refl _) (.refl _) ⟨y', by rw [hMr], by rw [hMr, ← hfin]; exact (upd_other _ _ (Ne.symm n5)).trans (upd_same ..), by rw [hMr, ← hfin]; exact (acc_less hsG (acc_step hac (mustD st' [41]))).put gi5 ((upd_other _ _ n5).trans k5) _⟩
    · have hge : i = bs.length := by have := of_decide_eq_false e; omega
      subst hge
      rw [List.drop_length] at hfin
      simp only [opersG] at hfin
      simp -implicitDefEqProofs only [go_sem, r0, r1, r5, r6, r16, r17, r18]
      refine (must_ok _ [41] hah.1).run ?_
      simp -implicitDefEqProofs only [go_sem, r0, r1, r5, r6, r16, r17, r18, upd_ne, n5, n6, k5, k6]
      refine ⟨.of (by kernel_rfl), ?_⟩
      exact .mk (.tup [y', nodeA ⟨2 + (amongD st fnWs).1, ⟨0, 0, []⟩, ⟨0, [], false⟩⟩]) (.refl _) (.refl _) ⟨y', by rw [hMr], by rw [hMr, ← hfin]; exact (upd_other _ _ (Ne.symm n5)).trans (upd_same ..), by rw [hMr, ← hfin]; exact (acc_less hsG (acc_step hac (mustD st' [41]))).put gi5 ((upd_other _ _ n5).trans k5) _⟩
end Go.Proofs.YtdcchpbncckhlaaDoor

set_option linter.unusedSimpArgs false
set_option linter.unusedVariables false
namespace Go.Proofs.YtdcchpbncckhlaaDoor
open Go Go.Ab Go.Bf
theorem uz_n : (U 33).sz = 7 := by simp only [go_sem]
theorem ub_n : (U 33).bytes = 72 := by simp only [go_sem]
theorem sized_n (l : List NodeD) : Sized 7 (l.map nodeA) := fun z hz => by
  obtain ⟨c, _, rfl⟩ := List.mem_map.1 hz; rfl
set_option maxRecDepth 20000 in
theorem expr_s (f : Nat) (ih : EH (exprF f) f) : EH (exprF (f + 1)) (f + 1) := fun st l hw hf hl G K id y ha => by
  refine FnOK.body hU hm Tryd.func136 rfl (by kernel_rfl) 52 rfl [.tmp 4, .tmp 5] rfl (Nat.le_of_ble_eq_true rfl) (fun hwf => ?_)
  simp -implicitDefEqProofs only [go_sem]
  intro i6 hi6
  have n6 := ne_upd hi6
  have hK6 : K i6 = none := by rw [upd_other _ _ n6] at hi6; exact hi6
  have c6 : ∀ (f : Heap) (x y : Option Blk), upd (upd f id x) i6 y = upd (upd f i6 y) id x := fun f x y => upd_comm f x y n6.symm
  have gi6 : upd G id none i6 = none := by
    cases hk : upd G id none i6 with
    | none => rfl
    | some b => rw [ha.1 _ _ hk] at hi6; cases hi6
  have hac := acc_grow ha hi6 (some (.obj [.v (.int .i64 0), .v (.int .i64 0), .v (.int .i64 0), .s [], .v (.int .i64 0), .s [], .v (.bool false)] 33))
  simp -implicitDefEqProofs only [go_sem, c6]
  refine (here_ok st hw).run ?_
  simp -implicitDefEqProofs only [go_sem, c6, tokA]
  intro i7 hi7
  have n7 := ne_upd hi7
  have hi7' := hi7
  rw [upd_other _ _ n7] at hi7'
  have n76 := ne_upd hi7'
  have m76 : ¬ i7 = i6 := n76
  have m67 : ¬ i6 = i7 := fun e => n76 e.symm
  have hK7 : K i7 = none := by rw [upd_other _ _ n76] at hi7'; exact hi7'
  have c7 : ∀ (f : Heap) (x y : Option Blk), upd (upd f id x) i7 y = upd (upd f i7 y) id x := fun f x y => upd_comm f x y n7.symm
  have e6 : upd (upd G id none) i6 (some (.obj [.v (.int .i64 0), .v (.int .i64 0), .v (.int .i64 0), .s [], .v (.int .i64 0), .s [], .v (.bool false)] 33)) = upd (upd G i6 (some (.obj [.v (.int .i64 0), .v (.int .i64 0), .v (.int .i64 0), .s [], .v (.int .i64 0), .s [], .v (.bool false)] 33))) id none := c6 G none _
  have hac7 : ∀ k, Acc U 33 (upd (upd G i6 (some (.obj [.v (.int .i64 0), .v (.int .i64 0), .v (.int .i64 0), .s [], .v (.int .i64 0), .s [], .v (.bool false)] 33))) id none) (upd (upd (upd K i6 (some (.obj [.v (.int .i64 0), .v (.int .i64 0), .v (.int .i64 0), .s [], .v (.int .i64 0), .s [], .v (.bool false)] 33))) i7 k) id (some (PO st))) y (l.map nodeA) := fun k => by
    have := hac.sub (Sub.upd_new (k := k) (by rw [c6]; exact hi7))
    rw [e6, c6 K, c7] at this
    exact this
  have hsG : Sub (upd G id none) (upd (upd G i6 (some (.obj [.v (.int .i64 0), .v (.int .i64 0), .v (.int .i64 0), .s [], .v (.int .i64 0), .s [], .v (.bool false)] 33))) id none) := by
    rw [← e6]; exact Sub.upd_new gi6
  have g6 : upd (upd G i6 (some (.obj [.v (.int .i64 0), .v (.int .i64 0), .v (.int .i64 0), .s [], .v (.int .i64 0), .s [], .v (.bool false)] 33))) id none i6 = some (.obj [.v (.int .i64 0), .v (.int .i64 0), .v (.int .i64 0), .s [], .v (.int .i64 0), .s [], .v (.bool false)] 33) := by rw [← e6, upd_same]
  simp -implicitDefEqProofs only [go_sem, c6, c7, upd_ne, n6, n7, m76, m67]
  refine (take_ok st [40] hw).run ?_
  have hacX : ∀ tk NB st', Acc U 33 (upd G id none) (upd (upd (upd (upd K i6 (some (.obj [.v (.int .i64 0), .v (.int .i64 0), .v (.int .i64 0), .s [], .v (.int .i64 0), .s [], .v (.bool false)] 33))) i7 tk) i6 NB) id (some (PO st'))) y (l.map nodeA) := fun tk NB st' => by
    have := (acc_step (acc_less hsG (hac7 tk)) st').put gi6 ((upd_other _ _ n6).trans ((upd_other _ _ m67).trans (upd_same ..))) NB
    rw [c6] at this
    exact this
  obtain ⟨⟨⟨lh, n⟩, sth⟩, eh⟩ : ∃ x, headG (exprF f) st l = x := ⟨_, rfl⟩
  obtain ⟨hha, hhl⟩ := headG_ok (exprF_ok f) st l hw
  rw [eh] at hha hhl
  simp only at hha hhl
  have hwp := hha.1.2.2
  have hwq := hha.1.1
  have hpl := hha.2.2
  have hdec : decide ((32 : Int) < ((lh.length + 1 : Nat) : Int)) = decide (32 < lh.length + 1) := by
    by_cases h : 32 < lh.length + 1
    · simp only [h, decide_true]; exact decide_eq_true (by omega)
    · simp only [h, decide_false]; exact decide_eq_false (by omega)
  cases d0 : isD st [40]
  · have et : takeD st [40] = (false, st) := by simp [takeD, d0]
    rw [et]
    cases d1 : ((hereD st).kind == 1)
    · have en : headG (exprF f) st l = ((l, ⟨1, (valueP st).1, ⟨0, [], false⟩⟩), (valueP st).2) := by
        have : (hereD st).kind ≠ 1 := by simpa using d1
        simp [headG, d0, this]
      simp -implicitDefEqProofs only [go_sem, c6, c7, upd_ne, n6, n7, m76, m67, d1]
      refine (value_p st hw).run ?_
      rw [en] at eh
      injection eh with eh1 eh2
      injection eh1 with eh3 eh4
      subst eh2
      subst eh3
      subst eh4
      simp -implicitDefEqProofs only [go_sem, c6, c7, upd_ne, n6, n7, m76, m67, valA]
      refine (hacX _ _ _).app (zs := [nodeA (⟨1, (valueP st).1, ⟨0, [], false⟩⟩ : NodeD)]) (by rw [uz_n]; decide) (by rw [ub_n]; decide) (fun k hk => hk) (by rw [uz_n]; exact sized_n _) (by rw [uz_n]; exact sized_n [(⟨1, (valueP st).1, ⟨0, [], false⟩⟩ : NodeD)]) (by rw [ub_n]; simp; omega) fun y3 H3 hy3 hk3 => ?_
      have hH3 : H3 id = some (PO (valueP st).2) := hk3 _ _ _ (upd_same ..)
      have hb3 : H3 i6 = some (.obj [.v (.int .i64 (⟨1, (valueP st).1, ⟨0, [], false⟩⟩ : NodeD).op), .v (.int .i64 (⟨1, (valueP st).1, ⟨0, [], false⟩⟩ : NodeD).val.kind), .v (.int .i64 (⟨1, (valueP st).1, ⟨0, [], false⟩⟩ : NodeD).val.n), .s (⟨1, (valueP st).1, ⟨0, [], false⟩⟩ : NodeD).val.s, .v (.int .i64 (⟨1, (valueP st).1, ⟨0, [], false⟩⟩ : NodeD).attr.cat), .s (⟨1, (valueP st).1, ⟨0, [], false⟩⟩ : NodeD).attr.name, .v (.bool (⟨1, (valueP st).1, ⟨0, [], false⟩⟩ : NodeD).attr.must)] 33) := hk3 _ _ _ ((upd_other _ _ n6).trans (upd_same ..))
      simp -implicitDefEqProofs only [go_sem, hy3.len, List.length_append, List.length_map, List.length_cons, List.length_nil, Nat.zero_add, hdec]
      refine (limit_ok (valueP st).2 _ hha.1).go hH3 ?_
      simp -implicitDefEqProofs only [go_sem, upd_ne, n6, hb3]
      refine ⟨.of (by kernel_rfl), ?_⟩
      have efin : exprF (f + 1) st l = ((l ++ [(⟨1, (valueP st).1, ⟨0, [], false⟩⟩ : NodeD)], (⟨1, (valueP st).1, ⟨0, [], false⟩⟩ : NodeD).op == 2), limitD (valueP st).2 (decide (32 < l.length + 1))) := by simp only [exprF, en]
      exact .mk (.tup [y3, .v (.bool ((⟨1, (valueP st).1, ⟨0, [], false⟩⟩ : NodeD).op == 2))]) (.refl _) (.refl _) ⟨y3, by rw [efin], by rw [efin]; exact upd_same .., by rw [efin, List.map_append]; exact hy3.put (upd_same ..) hH3 _⟩
    · have k1 : (hereD st).kind = 1 := by simpa using d1
      cases d2 : ((hereD st).s == [116, 114, 117, 101])
      · have k2 : (hereD st).s ≠ trueT := by unfold trueT; simpa using d2
        cases d3 : ((hereD st).s == [102, 97, 108, 115, 101])
        · have k3 : (hereD st).s ≠ falseT := by unfold falseT; simpa using d3
          have en : headG (exprF f) st l = ((l, ⟨2, ⟨0, 0, []⟩, (attrP st).1⟩), (attrP st).2) := by simp [headG, d0, k1, k2, k3]
          simp -implicitDefEqProofs only [go_sem, c6, c7, upd_ne, n6, n7, m76, m67, d1, d2, d3, Bool.not_false]
          refine (attr_p st hw).run ?_
          rw [en] at eh
          injection eh with eh1 eh2
          injection eh1 with eh3 eh4
          subst eh2
          subst eh3
          subst eh4
          simp -implicitDefEqProofs only [go_sem, c6, c7, upd_ne, n6, n7, m76, m67, attrA]
          refine (hacX _ _ _).app (zs := [nodeA (⟨2, ⟨0, 0, []⟩, (attrP st).1⟩ : NodeD)]) (by rw [uz_n]; decide) (by rw [ub_n]; decide) (fun k hk => hk) (by rw [uz_n]; exact sized_n _) (by rw [uz_n]; exact sized_n [(⟨2, ⟨0, 0, []⟩, (attrP st).1⟩ : NodeD)]) (by rw [ub_n]; simp; omega) fun y3 H3 hy3 hk3 => ?_
          have hH3 : H3 id = some (PO (attrP st).2) := hk3 _ _ _ (upd_same ..)
          have hb3 : H3 i6 = some (.obj [.v (.int .i64 (⟨2, ⟨0, 0, []⟩, (attrP st).1⟩ : NodeD).op), .v (.int .i64 (⟨2, ⟨0, 0, []⟩, (attrP st).1⟩ : NodeD).val.kind), .v (.int .i64 (⟨2, ⟨0, 0, []⟩, (attrP st).1⟩ : NodeD).val.n), .s (⟨2, ⟨0, 0, []⟩, (attrP st).1⟩ : NodeD).val.s, .v (.int .i64 (⟨2, ⟨0, 0, []⟩, (attrP st).1⟩ : NodeD).attr.cat), .s (⟨2, ⟨0, 0, []⟩, (attrP st).1⟩ : NodeD).attr.name, .v (.bool (⟨2, ⟨0, 0, []⟩, (attrP st).1⟩ : NodeD).attr.must)] 33) := hk3 _ _ _ ((upd_other _ _ n6).trans (upd_same ..))
          simp -implicitDefEqProofs only [go_sem, hy3.len, List.length_append, List.length_map, List.length_cons, List.length_nil, Nat.zero_add, hdec]
          refine (limit_ok (attrP st).2 _ hha.1).go hH3 ?_
          simp -implicitDefEqProofs only [go_sem, upd_ne, n6, hb3]
          refine ⟨.of (by kernel_rfl), ?_⟩
          have efin : exprF (f + 1) st l = ((l ++ [(⟨2, ⟨0, 0, []⟩, (attrP st).1⟩ : NodeD)], (⟨2, ⟨0, 0, []⟩, (attrP st).1⟩ : NodeD).op == 2), limitD (attrP st).2 (decide (32 < l.length + 1))) := by simp only [exprF, en]
          exact .mk (.tup [y3, .v (.bool ((⟨2, ⟨0, 0, []⟩, (attrP st).1⟩ : NodeD).op == 2))]) (.refl _) (.refl _) ⟨y3, by rw [efin], by rw [efin]; exact upd_same .., by rw [efin, List.map_append]; exact hy3.put (upd_same ..) hH3 _⟩
        · have k3 : (hereD st).s = falseT := by unfold falseT; simpa using d3
          have en : headG (exprF f) st l = ((l, ⟨1, (valueP st).1, ⟨0, [], false⟩⟩), (valueP st).2) := by simp [headG, d0, k1, k2, k3]
          simp -implicitDefEqProofs only [go_sem, c6, c7, upd_ne, n6, n7, m76, m67, d1, d2, d3, Bool.not_false, Bool.not_true]
          refine (value_p st hw).run ?_
          rw [en] at eh
          injection eh with eh1 eh2
          injection eh1 with eh3 eh4
          subst eh2
          subst eh3
          subst eh4
          simp -implicitDefEqProofs only [go_sem, c6, c7, upd_ne, n6, n7, m76, m67, valA]
          refine (hacX _ _ _).app (zs := [nodeA (⟨1, (valueP st).1, ⟨0, [], false⟩⟩ : NodeD)]) (by rw [uz_n]; decide) (by rw [ub_n]; decide) (fun k hk => hk) (by rw [uz_n]; exact sized_n _) (by rw [uz_n]; exact sized_n [(⟨1, (valueP st).1, ⟨0, [], false⟩⟩ : NodeD)]) (by rw [ub_n]; simp; omega) fun y3 H3 hy3 hk3 => ?_
          have hH3 : H3 id = some (PO (valueP st).2) := hk3 _ _ _ (upd_same ..)
          have hb3 : H3 i6 = some (.obj [.v (.int .i64 (⟨1, (valueP st).1, ⟨0, [], false⟩⟩ : NodeD).op), .v (.int .i64 (⟨1, (valueP st).1, ⟨0, [], false⟩⟩ : NodeD).val.kind), .v (.int .i64 (⟨1, (valueP st).1, ⟨0, [], false⟩⟩ : NodeD).val.n), .s (⟨1, (valueP st).1, ⟨0, [], false⟩⟩ : NodeD).val.s, .v (.int .i64 (⟨1, (valueP st).1, ⟨0, [], false⟩⟩ : NodeD).attr.cat), .s (⟨1, (valueP st).1, ⟨0, [], false⟩⟩ : NodeD).attr.name, .v (.bool (⟨1, (valueP st).1, ⟨0, [], false⟩⟩ : NodeD).attr.must)] 33) := hk3 _ _ _ ((upd_other _ _ n6).trans (upd_same ..))
          simp -implicitDefEqProofs only [go_sem, hy3.len, List.length_append, List.length_map, List.length_cons, List.length_nil, Nat.zero_add, hdec]
          refine (limit_ok (valueP st).2 _ hha.1).go hH3 ?_
          simp -implicitDefEqProofs only [go_sem, upd_ne, n6, hb3]
          refine ⟨.of (by kernel_rfl), ?_⟩
          have efin : exprF (f + 1) st l = ((l ++ [(⟨1, (valueP st).1, ⟨0, [], false⟩⟩ : NodeD)], (⟨1, (valueP st).1, ⟨0, [], false⟩⟩ : NodeD).op == 2), limitD (valueP st).2 (decide (32 < l.length + 1))) := by simp only [exprF, en]
          exact .mk (.tup [y3, .v (.bool ((⟨1, (valueP st).1, ⟨0, [], false⟩⟩ : NodeD).op == 2))]) (.refl _) (.refl _) ⟨y3, by rw [efin], by rw [efin]; exact upd_same .., by rw [efin, List.map_append]; exact hy3.put (upd_same ..) hH3 _⟩
      · have k2 : (hereD st).s = trueT := by unfold trueT; simpa using d2
        have en : headG (exprF f) st l = ((l, ⟨1, (valueP st).1, ⟨0, [], false⟩⟩), (valueP st).2) := by simp [headG, d0, k1, k2]
        simp -implicitDefEqProofs only [go_sem, c6, c7, upd_ne, n6, n7, m76, m67, d1, d2, Bool.not_true]
        refine (value_p st hw).run ?_
        rw [en] at eh
        injection eh with eh1 eh2
        injection eh1 with eh3 eh4
        subst eh2
        subst eh3
        subst eh4
        simp -implicitDefEqProofs only [go_sem, c6, c7, upd_ne, n6, n7, m76, m67, valA]
        refine (hacX _ _ _).app (zs := [nodeA (⟨1, (valueP st).1, ⟨0, [], false⟩⟩ : NodeD)]) (by rw [uz_n]; decide) (by rw [ub_n]; decide) (fun k hk => hk) (by rw [uz_n]; exact sized_n _) (by rw [uz_n]; exact sized_n [(⟨1, (valueP st).1, ⟨0, [], false⟩⟩ : NodeD)]) (by rw [ub_n]; simp; omega) fun y3 H3 hy3 hk3 => ?_
        have hH3 : H3 id = some (PO (valueP st).2) := hk3 _ _ _ (upd_same ..)
        have hb3 : H3 i6 = some (.obj [.v (.int .i64 (⟨1, (valueP st).1, ⟨0, [], false⟩⟩ : NodeD).op), .v (.int .i64 (⟨1, (valueP st).1, ⟨0, [], false⟩⟩ : NodeD).val.kind), .v (.int .i64 (⟨1, (valueP st).1, ⟨0, [], false⟩⟩ : NodeD).val.n), .s (⟨1, (valueP st).1, ⟨0, [], false⟩⟩ : NodeD).val.s, .v (.int .i64 (⟨1, (valueP st).1, ⟨0, [], false⟩⟩ : NodeD).attr.cat), .s (⟨1, (valueP st).1, ⟨0, [], false⟩⟩ : NodeD).attr.name, .v (.bool (⟨1, (valueP st).1, ⟨0, [], false⟩⟩ : NodeD).attr.must)] 33) := hk3 _ _ _ ((upd_other _ _ n6).trans (upd_same ..))
        simp -implicitDefEqProofs only [go_sem, hy3.len, List.length_append, List.length_map, List.length_cons, List.length_nil, Nat.zero_add, hdec]
        refine (limit_ok (valueP st).2 _ hha.1).go hH3 ?_
        simp -implicitDefEqProofs only [go_sem, upd_ne, n6, hb3]
        refine ⟨.of (by kernel_rfl), ?_⟩
        have efin : exprF (f + 1) st l = ((l ++ [(⟨1, (valueP st).1, ⟨0, [], false⟩⟩ : NodeD)], (⟨1, (valueP st).1, ⟨0, [], false⟩⟩ : NodeD).op == 2), limitD (valueP st).2 (decide (32 < l.length + 1))) := by simp only [exprF, en]
        exact .mk (.tup [y3, .v (.bool ((⟨1, (valueP st).1, ⟨0, [], false⟩⟩ : NodeD).op == 2))]) (.refl _) (.refl _) ⟨y3, by rw [efin], by rw [efin]; exact upd_same .., by rw [efin, List.map_append]; exact hy3.put (upd_same ..) hH3 _⟩
  · have et : takeD st [40] = (true, nextD st) := by simp [takeD, d0]
    have h1 := ah_next hw (isD_kind d0)
    have hnp : (nextD st).pos = st.pos + 1 := rfl
    have hnt : (nextD st).ts = st.ts := rfl
    rw [et]
    simp -implicitDefEqProofs only [go_sem, c6, c7]
    have ef : funcG (exprF f) (nextD st) l = ((lh, n), sth) := by rw [← eh]; simp [headG, d0]
    have hfx := function_x (exprF_ok f) ih (nextD st) l h1.1 (by rw [hnt]; omega) (by omega)
    simp only [ef] at hfx
    refine hfx.run (acc_step (hac7 _) _) fun y2 K2 hac2 => ?_
    have k6 := hac2.1 _ _ g6
    rw [upd_other _ _ n6] at k6
    simp -implicitDefEqProofs only [go_sem, c6, c7, upd_ne, n6, n7, k6, nodeA, valA, attrA]
    have hac3 := (acc_less hsG hac2).put gi6 ((upd_other _ _ n6).trans k6) (some (.obj [.v (.int .i64 n.op), .v (.int .i64 n.val.kind), .v (.int .i64 n.val.n), .s n.val.s, .v (.int .i64 n.attr.cat), .s n.attr.name, .v (.bool n.attr.must)] 33))
    rw [c6] at hac3
    refine (hac3).app (zs := [nodeA n]) (by rw [uz_n]; decide) (by rw [ub_n]; decide) (fun k hk => hk) (by rw [uz_n]; exact sized_n _) (by rw [uz_n]; exact sized_n [n]) (by rw [ub_n]; simp; omega) fun y3 H3 hy3 hk3 => ?_
    have hH3 : H3 id = some (PO sth) := hk3 _ _ _ (upd_same ..)
    have hb3 : H3 i6 = some (.obj [.v (.int .i64 n.op), .v (.int .i64 n.val.kind), .v (.int .i64 n.val.n), .s n.val.s, .v (.int .i64 n.attr.cat), .s n.attr.name, .v (.bool n.attr.must)] 33) := hk3 _ _ _ ((upd_other _ _ n6).trans (upd_same ..))
    simp -implicitDefEqProofs only [go_sem, hy3.len, List.length_append, List.length_map, List.length_cons, List.length_nil, Nat.zero_add, hdec]
    refine (limit_ok sth _ hha.1).go hH3 ?_
    simp -implicitDefEqProofs only [go_sem, upd_ne, n6, hb3]
    refine ⟨.of (by kernel_rfl), ?_⟩
    have efin : exprF (f + 1) st l = ((lh ++ [n], n.op == 2), limitD sth (decide (32 < lh.length + 1))) := by simp only [exprF, eh]
    exact .mk (.tup [y3, .v (.bool (n.op == 2))]) (.refl _) (.refl _) ⟨y3, by rw [efin], by rw [efin]; exact upd_same .., by rw [efin, List.map_append]; exact hy3.put (upd_same ..) hH3 _⟩
theorem expr_x : ∀ f, EH (exprF f) f
  | 0 => fun st l hw hf _ => absurd hw.1 (by omega)
  | f + 1 => expr_s f (expr_x f)
end Go.Proofs.YtdcchpbncckhlaaDoor

set_option linter.unusedSimpArgs false
set_option linter.unusedVariables false
namespace Go.Proofs.YtdcchpbncckhlaaDoor
open Go Go.Ab Go.Bf
theorem fnok_loose {P : Program} {f : FuncId} {args : List AV} {h : Heap} {Q Q' : AV → Heap → Prop} (hf : FnOK P f args h Q) (hq : ∀ x h1, Q x h1 → ∃ y h2, Weak x y ∧ Sub h2 h1 ∧ Q' y h2) : FnOK P f args h Q' :=
  ⟨hf.1, fun c vs h1 h2 h3 h4 => (hf.2 c vs h1 h2 h3 h4).mono fun e w' ⟨u, h5, c', x, h', g1, g2, g3, g4, g5, g6⟩ => by
    obtain ⟨y, h'', k1, k2, k3⟩ := hq x h' g6
    exact ⟨u, h5, c', y, h'', g1, g2, g3, g4.weak k1, k2.trans g5, k3⟩⟩
def flat : AV → AV
  | .sl xs _ => .sl xs .no
  | x => x
theorem weak_flat (xs : List AV) : Weak (.agg xs) (.agg (xs.map flat)) := .agg _ _ (by simp) fun i h1 h2 => by
  rw [List.getElem_map]
  cases xs[i] <;> first | exact .refl _ | exact .sl _ _
theorem operand_p (st : PS) (hw : WfP st) : PC 124 [.sl [] .full, .v (.bool false)] st (condA (operG (exprF st.ts.length) st [] false).1) (operG (exprF st.ts.length) st [] false).2 := .of fun G id => by
  have hx := operand_x (exprF_ok st.ts.length) (expr_x st.ts.length) st [] false hw (by omega) (by simp)
  refine fnok_loose (hx G G id (.sl [] .full) (.full (base_start G id _))) fun r h1 ⟨y', e1, e2, e3⟩ => ⟨_, upd G id (some (PO (operG (exprF st.ts.length) st [] false).2)), ?_, base_end e3.1 e2, rfl, rfl⟩
  subst e1
  exact e3.weak
set_option maxRecDepth 20000 in
theorem rule_p (deny : Bool) (st : PS) (hw : WfP st) : PC 112 [.v (.bool deny)] st (ruleA (ruleP deny st).1) (ruleP deny st).2 := .of fun G id => by
  have h1 := ah_name hw
  have h2 := ah_tgt h1.1
  have h3 := ah_cond h2.1
  have h4 := ah_obls h3.1
  have ht := tgt_p _ h1.1
  simp only [tgtA] at ht
  refine FnOK.body hU hm Tryd.func112 rfl (by kernel_rfl) 23 rfl [.cell 4 37] rfl (Nat.le_of_ble_eq_true rfl) (fun hwf => ?_)
  simp -implicitDefEqProofs only [go_sem]
  intro i4 hi4
  have n4 := ne_upd hi4
  have hG4 : G i4 = none := by rw [upd_other _ _ n4] at hi4; exact hi4
  have c4 : ∀ (f : Heap) (x y : Option Blk), upd (upd f id x) i4 y = upd (upd f i4 y) id x := fun f x y => upd_comm f x y n4.symm
  simp -implicitDefEqProofs only [go_sem, c4]
  refine (pname_ok st hw).run ?_
  simp -implicitDefEqProofs only [go_sem, c4]
  refine ht.run ?_
  simp -implicitDefEqProofs only [go_sem, c4]
  intro i5 hi5
  have n5 := ne_upd hi5
  have hi5' := hi5
  rw [upd_other _ _ n5] at hi5'
  have n54 := ne_upd hi5'
  have m54 : ¬ i5 = i4 := n54
  have m45 : ¬ i4 = i5 := n54.symm
  have hG5 : G i5 = none := by rw [upd_other _ _ n54] at hi5'; exact hi5'
  have c5 : ∀ (f : Heap) (x y : Option Blk), upd (upd f id x) i5 y = upd (upd f i5 y) id x := fun f x y => upd_comm f x y n5.symm
  have c45 : ∀ (f : Heap) (x y : Option Blk), upd (upd f i5 x) i4 y = upd (upd f i4 y) i5 x := fun f x y => upd_comm f x y n54
  simp -implicitDefEqProofs only [go_sem, c4, c5, c45, upd_ne, n4, n5, m54, m45]
  refine (take_ok _ ifT h2.1).run ?_
  cases d0 : isD (tgtP (nameP st).2).2 ifT
  · have et : takeD (tgtP (nameP st).2).2 ifT = (false, (tgtP (nameP st).2).2) := by simp [takeD, d0]
    have ec : condP (tgtP (nameP st).2).2 = ([], (tgtP (nameP st).2).2) := by simp [condP, d0]
    have er : ruleP deny st = (⟨(nameP st).1, deny, (tgtP (nameP st).2).1, [], (oblsP (tgtP (nameP st).2).2).1⟩, mustD (oblsP (tgtP (nameP st).2).2).2 [59]) := by simp only [ruleP, ec]
    rw [ec] at h4
    have ho := duties_p _ h2.1
    simp only [oblsA] at ho
    rw [et]
    simp -implicitDefEqProofs only [go_sem, c4, c5, c45, upd_ne, n4, n5, m54, m45]
    refine ho.run ?_
    simp -implicitDefEqProofs only [go_sem, c4, c5, c45, upd_ne, n4, n5, m54, m45]
    refine (must_ok _ [59] h4.1).run ?_
    simp -implicitDefEqProofs only [go_sem, c4, c5, c45, upd_ne, n4, n5, m54, m45]
    exact .mk (h' := upd G id (some (PO (mustD (oblsP (tgtP (nameP st).2).2).2 [59])))) (ruleA ⟨(nameP st).1, deny, (tgtP (nameP st).2).1, [], (oblsP (tgtP (nameP st).2).2).1⟩) (weak_flat _) (Sub.both (by repeat (first | exact .refl _ | refine Sub.put ?_ (by assumption) _)) _ _) ⟨by rw [er], by rw [er]⟩
  · have et : takeD (tgtP (nameP st).2).2 ifT = (true, nextD (tgtP (nameP st).2).2) := by simp [takeD, d0]
    obtain ⟨⟨cn, stc⟩, ec⟩ : ∃ x, condP (tgtP (nameP st).2).2 = x := ⟨_, rfl⟩
    have er : ruleP deny st = (⟨(nameP st).1, deny, (tgtP (nameP st).2).1, cn, (oblsP stc).1⟩, mustD (oblsP stc).2 [59]) := by simp only [ruleP, ec]
    have hcnd := operand_p (nextD (tgtP (nameP st).2).2) (ah_next h2.1 (isD_kind d0)).1
    have ec2 : operG (exprF (nextD (tgtP (nameP st).2).2).ts.length) (nextD (tgtP (nameP st).2).2) [] false = (cn, stc) := by rw [← ec]; simp only [condP, d0, if_true]; rfl
    rw [ec2] at hcnd
    simp only [condA] at hcnd
    rw [ec] at h3 h4
    have ho := duties_p _ h3.1
    simp only [oblsA] at ho
    rw [et]
    simp -implicitDefEqProofs only [go_sem, c4, c5, c45, upd_ne, n4, n5, m54, m45]
    refine hcnd.run ?_
    simp -implicitDefEqProofs only [go_sem, c4, c5, c45, upd_ne, n4, n5, m54, m45]
    refine ho.run ?_
    simp -implicitDefEqProofs only [go_sem, c4, c5, c45, upd_ne, n4, n5, m54, m45]
    refine (must_ok _ [59] h4.1).run ?_
    simp -implicitDefEqProofs only [go_sem, c4, c5, c45, upd_ne, n4, n5, m54, m45]
    exact .mk (h' := upd G id (some (PO (mustD (oblsP stc).2 [59])))) (ruleA ⟨(nameP st).1, deny, (tgtP (nameP st).2).1, cn, (oblsP stc).1⟩) (weak_flat _) (Sub.both (by repeat (first | exact .refl _ | refine Sub.put ?_ (by assumption) _)) _ _) ⟨by rw [er], by rw [er]⟩
end Go.Proofs.YtdcchpbncckhlaaDoor

set_option linter.unusedSimpArgs false
set_option linter.unusedVariables false
namespace Go.Proofs.YtdcchpbncckhlaaDoor
open Go Go.Ab Go.Bf
theorem uz_r : (U 37).sz = 5 := by simp only [go_sem]
theorem ub_r : (U 37).bytes = 96 := by simp only [go_sem]
theorem sized_r (l : List RuleD) : Sized 5 (l.map ruleA) := fun z hz => by
  obtain ⟨c, _, rfl⟩ := List.mem_map.1 hz; rfl
set_option maxRecDepth 20000 in
theorem some_p (st : PS) (hw : WfP st) (hr : st.rules ≤ 64) : PC 84 [] st (.sl ((someF 17 st []).1.map ruleA) .no) (someF 17 st []).2 := .of fun G id => by
  obtain ⟨M, eM⟩ : ∃ M, someF 17 st [] = M := ⟨_, rfl⟩
  rw [eM]
  refine FnOK.body hU hm Tryd.func84 rfl (by kernel_rfl) 51 rfl [.tmp 2] rfl (Nat.le_of_ble_eq_true rfl) (fun hwf => ?_)
  simp -implicitDefEqProofs only [go_sem]
  have hB : upd G id none id = none := upd_same ..
  refine .intro (fun m ρ H => ∃ (f : Nat) (st' : PS) (l : List RuleD) (y : AV), H id = some (PO st') ∧ Acc U 37 (upd G id none) H y (l.map ruleA) ∧ Ah st st' ∧ st'.rules ≤ 64 ∧ someF f st' l = M ∧ f + l.length = 17 ∧ l.length ≤ 16 ∧ m = f ∧ lk ρ 0 = some (.ptr id 0) ∧ lk ρ 3 = some y) 17 ?_ ?_
  · refine ⟨17, st, [], .sl ([].map ruleA) .full, upd_same .., .full (base_start G id _), .refl hw, hr, eM, by simp, by simp, rfl, ?_, ?_⟩ <;> simp -implicitDefEqProofs only [go_sem] <;> rfl
  · rintro m ρ H ⟨f, st', l, y, hH, hy, ha, hru, hfin, hf, hll, rfl, r0, r3⟩
    have hlen := ha.1.2.2
    have hpos := ha.1.1
    obtain ⟨g, rfl⟩ : ∃ g, m = g + 1 := ⟨m - 1, by omega⟩
    simp -implicitDefEqProofs only [go_sem, r0, r3]
    refine (is_ok st' permitT ha.1).go hH ?_
    rw [upd_self hH]
    have fin : isD st' permitT = false → isD st' denyT = false → (l, st') = M := fun d1 d2 => by
      rw [← hfin]; simp [someF, d1, d2]
    have rest : isD st' permitT = true ∨ isD st' denyT = true → True := fun _ => trivial
    cases d1 : isD st' permitT
    · simp -implicitDefEqProofs only [go_sem, r0, r3]
      refine (is_ok st' denyT ha.1).go hH ?_
      rw [upd_self hH]
      cases d2 : isD st' denyT
      · simp -implicitDefEqProofs only [go_sem, r0, r3]
        have e := fin d1 d2
        exact .mk (h' := upd G id (some (PO M.2))) (.sl (M.1.map ruleA) .no) (by rw [← e]; exact hy.weak) (by rw [← e]; exact base_end hy.1 hH) ⟨rfl, rfl⟩
      · have hd : isD st' permitT = true ∨ isD st' denyT = true := by first | exact .inl d1 | exact .inr d2
        have eb := (isD_or hd).1
        have ek := (isD_or hd).2
        have db : (st'.bad != 0) = false := by simp [eb]
        have gP := hH
        unfold PO at gP
        have lim : l.length = 16 ∨ st'.rules = 64 → (l, limitD st' true) = M := fun h => by
          rw [← hfin]; simp only [someF, if_pos hd, if_pos h]
        have hdl : limitD st' true = wrongD st' 6 (hereD st').pos := rfl
        have hlb : ((limitD st' true).bad != 0) = true := by rw [hdl]; simp [wrongD, eb]
        cases dA : ((l.length : Int) == 16)
        · cases dB : ((st'.rules : Int) == 64)
          · have nA : l.length ≠ 16 := fun e => by rw [e] at dA; simp at dA
            have nB : st'.rules ≠ 64 := fun e => by rw [e] at dB; simp at dB
            have hno : ¬ (l.length = 16 ∨ st'.rules = 64) := fun h => h.elim nA nB
            simp only [someF, if_pos hd, if_neg hno] at hfin
            simp -implicitDefEqProofs only [go_sem, r0, r3, hy.len, List.length_map, dA, gP, dB]
            refine (limit_ok st' false ha.1).go hH ?_
            rw [show limitD st' false = st' from rfl, upd_self hH]
            have w1 : IntKind.i64.wrap ((st'.rules : Int) + 1) = ((st'.rules + 1 : Nat) : Int) := by rw [wr64 _ (by omega)]; omega
            have w2 : IntKind.i64.wrap ((st'.pos : Int) + 1) = ((st'.pos + 1 : Nat) : Int) := by rw [wr64 _ (by omega)]; omega
            simp -implicitDefEqProofs only [go_sem, r0, r3, gP, db, w1]
            have hwr : WfP { st' with rules := st'.rules + 1 } := ha.1
            refine (is_ok { st' with rules := st'.rules + 1 } denyT hwr).go (upd_same ..) ?_
            rw [upd_upd]
            have g2 : upd H id (some (PO { st' with rules := st'.rules + 1 })) id = some (.obj [.sl (st'.ts.map tokA) .no, .v (.int .i64 st'.pos), .v (.int .i64 (st'.rules + 1 : Nat)), .v (.int .i64 st'.bad), .v (.int .i64 st'.place)] 94) := upd_same ..
            simp -implicitDefEqProofs only [go_sem, r0, r3, g2, w2]
            have h2 : Ah st' { nextD st' with rules := st'.rules + 1 } := ah_rules ha.1 ek
            have h3 := ah_rule (isD st' denyT) h2.1
            have hrp := rule_p (isD st' denyT) { nextD st' with rules := st'.rules + 1 } h2.1
            have hr3 := (rch_pos (rch_rule (isD st' denyT) { nextD st' with rules := st'.rules + 1 })).2.2
            obtain ⟨x, st2, e2⟩ : ∃ x st2, ruleP (isD st' denyT) { nextD st' with rules := st'.rules + 1 } = (x, st2) := ⟨_, _, rfl⟩
            rw [e2] at hfin hrp h3 hr3
            simp only [ruleA] at hrp hfin h3 hr3
            refine hrp.go (upd_same ..) ?_
            rw [upd_upd]
            simp -implicitDefEqProofs only [go_sem, r0, r3]
            refine (hy.put hB hH _).app (zs := [ruleA x]) (by rw [uz_r]; decide) (by rw [ub_r]; decide) (fun k hk => hk) (by rw [uz_r]; exact sized_r l) (by rw [uz_r]; exact sized_r [x]) (by rw [ub_r]; simp; omega) fun y' H2 hy' hk2 => ?_
            have hH2 : H2 id = some (PO st2) := hk2 _ _ _ (upd_same ..)
            simp -implicitDefEqProofs only [go_sem, r0, r3]
            refine ⟨_, ?_, g, st2, l ++ [x], y', hH2, by rw [List.map_append]; exact hy', (ha.trans h2).trans h3, by omega, hfin, by simp; omega, by simp; omega, rfl, ?_, ?_⟩
            · omega
            all_goals simp -implicitDefEqProofs only [go_sem, r0, r3]
          · have nB : st'.rules = 64 := by have : (st'.rules : Int) = 64 := by simpa using dB
                                           omega
            have e := lim (.inr nB)
            simp -implicitDefEqProofs only [go_sem, r0, r3, hy.len, List.length_map, dA, gP, dB]
            refine (limit_ok st' true ha.1).go hH ?_
            have g3 : upd H id (some (PO (limitD st' true))) id = some (PO (limitD st' true)) := upd_same ..
            unfold PO at g3
            simp -implicitDefEqProofs only [go_sem, r0, r3, g3, hlb, PO]
            exact .mk (h' := upd G id (some (PO M.2))) (.sl (M.1.map ruleA) .no) (by rw [← e]; exact hy.weak) (by rw [← e]; exact base_end (hy.put hB hH _).1 (upd_same ..)) ⟨rfl, rfl⟩
        · have nA : l.length = 16 := by have : (l.length : Int) = 16 := by simpa using dA
                                        omega
          have e := lim (.inl nA)
          simp -implicitDefEqProofs only [go_sem, r0, r3, hy.len, List.length_map, dA, gP]
          refine (limit_ok st' true ha.1).go hH ?_
          have g3 : upd H id (some (PO (limitD st' true))) id = some (PO (limitD st' true)) := upd_same ..
          unfold PO at g3
          simp -implicitDefEqProofs only [go_sem, r0, r3, g3, hlb, PO]
          exact .mk (h' := upd G id (some (PO M.2))) (.sl (M.1.map ruleA) .no) (by rw [← e]; exact hy.weak) (by rw [← e]; exact base_end (hy.put hB hH _).1 (upd_same ..)) ⟨rfl, rfl⟩
    · have hd : isD st' permitT = true ∨ isD st' denyT = true := by first | exact .inl d1 | exact .inr d2
      have eb := (isD_or hd).1
      have ek := (isD_or hd).2
      have db : (st'.bad != 0) = false := by simp [eb]
      have gP := hH
      unfold PO at gP
      have lim : l.length = 16 ∨ st'.rules = 64 → (l, limitD st' true) = M := fun h => by
        rw [← hfin]; simp only [someF, if_pos hd, if_pos h]
      have hdl : limitD st' true = wrongD st' 6 (hereD st').pos := rfl
      have hlb : ((limitD st' true).bad != 0) = true := by rw [hdl]; simp [wrongD, eb]
      cases dA : ((l.length : Int) == 16)
      · cases dB : ((st'.rules : Int) == 64)
        · have nA : l.length ≠ 16 := fun e => by rw [e] at dA; simp at dA
          have nB : st'.rules ≠ 64 := fun e => by rw [e] at dB; simp at dB
          have hno : ¬ (l.length = 16 ∨ st'.rules = 64) := fun h => h.elim nA nB
          simp only [someF, if_pos hd, if_neg hno] at hfin
          simp -implicitDefEqProofs only [go_sem, r0, r3, hy.len, List.length_map, dA, gP, dB]
          refine (limit_ok st' false ha.1).go hH ?_
          rw [show limitD st' false = st' from rfl, upd_self hH]
          have w1 : IntKind.i64.wrap ((st'.rules : Int) + 1) = ((st'.rules + 1 : Nat) : Int) := by rw [wr64 _ (by omega)]; omega
          have w2 : IntKind.i64.wrap ((st'.pos : Int) + 1) = ((st'.pos + 1 : Nat) : Int) := by rw [wr64 _ (by omega)]; omega
          simp -implicitDefEqProofs only [go_sem, r0, r3, gP, db, w1]
          have hwr : WfP { st' with rules := st'.rules + 1 } := ha.1
          refine (is_ok { st' with rules := st'.rules + 1 } denyT hwr).go (upd_same ..) ?_
          rw [upd_upd]
          have g2 : upd H id (some (PO { st' with rules := st'.rules + 1 })) id = some (.obj [.sl (st'.ts.map tokA) .no, .v (.int .i64 st'.pos), .v (.int .i64 (st'.rules + 1 : Nat)), .v (.int .i64 st'.bad), .v (.int .i64 st'.place)] 94) := upd_same ..
          simp -implicitDefEqProofs only [go_sem, r0, r3, g2, w2]
          have h2 : Ah st' { nextD st' with rules := st'.rules + 1 } := ah_rules ha.1 ek
          have h3 := ah_rule (isD st' denyT) h2.1
          have hrp := rule_p (isD st' denyT) { nextD st' with rules := st'.rules + 1 } h2.1
          have hr3 := (rch_pos (rch_rule (isD st' denyT) { nextD st' with rules := st'.rules + 1 })).2.2
          obtain ⟨x, st2, e2⟩ : ∃ x st2, ruleP (isD st' denyT) { nextD st' with rules := st'.rules + 1 } = (x, st2) := ⟨_, _, rfl⟩
          rw [e2] at hfin hrp h3 hr3
          simp only [ruleA] at hrp hfin h3 hr3
          refine hrp.go (upd_same ..) ?_
          rw [upd_upd]
          simp -implicitDefEqProofs only [go_sem, r0, r3]
          refine (hy.put hB hH _).app (zs := [ruleA x]) (by rw [uz_r]; decide) (by rw [ub_r]; decide) (fun k hk => hk) (by rw [uz_r]; exact sized_r l) (by rw [uz_r]; exact sized_r [x]) (by rw [ub_r]; simp; omega) fun y' H2 hy' hk2 => ?_
          have hH2 : H2 id = some (PO st2) := hk2 _ _ _ (upd_same ..)
          simp -implicitDefEqProofs only [go_sem, r0, r3]
          refine ⟨_, ?_, g, st2, l ++ [x], y', hH2, by rw [List.map_append]; exact hy', (ha.trans h2).trans h3, by omega, hfin, by simp; omega, by simp; omega, rfl, ?_, ?_⟩
          · omega
          all_goals simp -implicitDefEqProofs only [go_sem, r0, r3]
        · have nB : st'.rules = 64 := by have : (st'.rules : Int) = 64 := by simpa using dB
                                         omega
          have e := lim (.inr nB)
          simp -implicitDefEqProofs only [go_sem, r0, r3, hy.len, List.length_map, dA, gP, dB]
          refine (limit_ok st' true ha.1).go hH ?_
          have g3 : upd H id (some (PO (limitD st' true))) id = some (PO (limitD st' true)) := upd_same ..
          unfold PO at g3
          simp -implicitDefEqProofs only [go_sem, r0, r3, g3, hlb, PO]
          exact .mk (h' := upd G id (some (PO M.2))) (.sl (M.1.map ruleA) .no) (by rw [← e]; exact hy.weak) (by rw [← e]; exact base_end (hy.put hB hH _).1 (upd_same ..)) ⟨rfl, rfl⟩
      · have nA : l.length = 16 := by have : (l.length : Int) = 16 := by simpa using dA
                                      omega
        have e := lim (.inl nA)
        simp -implicitDefEqProofs only [go_sem, r0, r3, hy.len, List.length_map, dA, gP]
        refine (limit_ok st' true ha.1).go hH ?_
        have g3 : upd H id (some (PO (limitD st' true))) id = some (PO (limitD st' true)) := upd_same ..
        unfold PO at g3
        simp -implicitDefEqProofs only [go_sem, r0, r3, g3, hlb, PO]
        exact .mk (h' := upd G id (some (PO M.2))) (.sl (M.1.map ruleA) .no) (by rw [← e]; exact hy.weak) (by rw [← e]; exact base_end (hy.put hB hH _).1 (upd_same ..)) ⟨rfl, rfl⟩
end Go.Proofs.YtdcchpbncckhlaaDoor
