/- The table of the types of this translation, and that the program bears it out. Printed by types.py. -/
import Derived.Test.YtidpcjblciompaaAb19
import Derived.Test.YtidpcjblciompaaProg
import Derived.KernelRfl
set_option linter.unusedSimpArgs false
set_option linter.unusedVariables false
namespace Go.Proofs.Ytidpcjblciompaa
open Go Go.Ab

def tyRows : List TI := [
  ⟨.other, 0, 0, default⟩,
  ⟨.other, 1, 8, .v .nilFunc⟩,
  ⟨.int .i64, 1, 8, .v (.int .i64 0)⟩,
  ⟨.int .i64, 1, 8, .v (.int .i64 0)⟩,
  ⟨.bool, 1, 1, .v (.bool false)⟩,
  ⟨.int .u8, 1, 1, .v (.int .u8 0)⟩,
  ⟨.int .u8, 1, 1, .v (.int .u8 0)⟩,
  ⟨.strct [(0, 2), (1, 3), (2, 4), (3, 6)], 4, 24, .agg [.v (.int .i64 0), .v (.int .i64 0), .v (.bool false), .v (.int .u8 0)]⟩,
  ⟨.strct [(0, 2), (1, 3), (2, 4), (3, 6)], 4, 24, .agg [.v (.int .i64 0), .v (.int .i64 0), .v (.bool false), .v (.int .u8 0)]⟩,
  ⟨.str, 1, 16, .s []⟩,
  ⟨.str, 1, 16, .s []⟩,
  ⟨.str, 1, 16, .s []⟩,
  ⟨.int .u64, 1, 8, .v (.int .u64 0)⟩,
  ⟨.strct [(0, 9), (1, 12)], 2, 24, .agg [.s [], .v (.int .u64 0)]⟩,
  ⟨.strct [(0, 9), (1, 12)], 2, 24, .agg [.s [], .v (.int .u64 0)]⟩,
  ⟨.ptr 88, 1, 8, .v (.pointer none)⟩,
  ⟨.ptr 91, 1, 8, .v (.pointer none)⟩,
  ⟨.ptr 99, 1, 8, .v (.pointer none)⟩,
  ⟨.strct [(0, 17)], 1, 8, .agg [.v (.pointer none)]⟩,
  ⟨.strct [(0, 17)], 1, 8, .agg [.v (.pointer none)]⟩,
  ⟨.iface, 1, 16, .v .nilIface⟩,
  ⟨.int .i32, 1, 4, .v (.int .i32 0)⟩,
  ⟨.ptr 75, 1, 8, .v (.pointer none)⟩,
  ⟨.int .i64, 1, 8, .v (.int .i64 0)⟩,
  ⟨.other, 0, 0, default⟩,
  ⟨.other, 1, 8, .v .nilFunc⟩,
  ⟨.other, 1, 8, .v .nilFunc⟩,
  ⟨.slice 5, 1, 24, .sl [] .full⟩,
  ⟨.other, 1, 8, .v .nilFunc⟩,
  ⟨.other, 1, 8, .v .nilFunc⟩,
  ⟨.other, 1, 8, .v .nilFunc⟩,
  ⟨.other, 1, 8, .v .nilFunc⟩,
  ⟨.other, 1, 8, .v .nilFunc⟩,
  ⟨.other, 1, 8, .v .nilFunc⟩,
  ⟨.other, 1, 8, .v .nilFunc⟩,
  ⟨.other, 1, 8, .v .nilFunc⟩,
  ⟨.other, 1, 8, .v .nilFunc⟩,
  ⟨.other, 1, 8, .v .nilFunc⟩,
  ⟨.slice 27, 1, 24, .sl [] .full⟩,
  ⟨.other, 0, 0, default⟩,
  ⟨.other, 1, 8, .v .nilFunc⟩,
  ⟨.other, 1, 8, .v .nilFunc⟩,
  ⟨.other, 1, 8, .v .nilFunc⟩,
  ⟨.other, 1, 8, .v .nilFunc⟩,
  ⟨.other, 1, 8, .v .nilFunc⟩,
  ⟨.slice 47, 1, 24, .sl [] .full⟩,
  ⟨.strct [(0, 3), (1, 3), (2, 3), (3, 27)], 4, 48, .agg [.v (.int .i64 0), .v (.int .i64 0), .v (.int .i64 0), .sl [] .full]⟩,
  ⟨.strct [(0, 3), (1, 3), (2, 3), (3, 27)], 4, 48, .agg [.v (.int .i64 0), .v (.int .i64 0), .v (.int .i64 0), .sl [] .full]⟩,
  ⟨.other, 1, 8, .v .nilFunc⟩,
  ⟨.other, 1, 8, .v .nilFunc⟩,
  ⟨.ptr 56, 1, 8, .v (.pointer none)⟩,
  ⟨.other, 0, 0, default⟩,
  ⟨.other, 1, 8, .v .nilFunc⟩,
  ⟨.other, 1, 8, .v .nilFunc⟩,
  ⟨.other, 1, 8, .v .nilFunc⟩,
  ⟨.strct [(0, 3), (1, 27), (2, 3), (3, 3), (4, 4)], 5, 56, .agg [.v (.int .i64 0), .sl [] .full, .v (.int .i64 0), .v (.int .i64 0), .v (.bool false)]⟩,
  ⟨.strct [(0, 3), (1, 27), (2, 3), (3, 3), (4, 4)], 5, 56, .agg [.v (.int .i64 0), .sl [] .full, .v (.int .i64 0), .v (.int .i64 0), .v (.bool false)]⟩,
  ⟨.slice 3, 1, 24, .sl [] .full⟩,
  ⟨.other, 1, 8, .v .nilFunc⟩,
  ⟨.ptr 84, 1, 8, .v (.pointer none)⟩,
  ⟨.other, 0, 0, default⟩,
  ⟨.other, 1, 8, .v .nilFunc⟩,
  ⟨.other, 1, 8, .v .nilFunc⟩,
  ⟨.other, 1, 8, .v .nilFunc⟩,
  ⟨.other, 1, 8, .v .nilFunc⟩,
  ⟨.other, 1, 8, .v .nilFunc⟩,
  ⟨.slice 70, 1, 24, .sl [] .full⟩,
  ⟨.ptr 72, 1, 8, .v (.pointer none)⟩,
  ⟨.other, 0, 0, default⟩,
  ⟨.other, 1, 8, .v .nilFunc⟩,
  ⟨.strct [(0, 3), (1, 3), (2, 3), (3, 27)], 4, 48, .agg [.v (.int .i64 0), .v (.int .i64 0), .v (.int .i64 0), .sl [] .full]⟩,
  ⟨.strct [(0, 50), (1, 38), (2, 4)], 3, 40, .agg [.v (.pointer none), .sl [] .full, .v (.bool false)]⟩,
  ⟨.strct [(0, 50), (1, 38), (2, 4)], 3, 40, .agg [.v (.pointer none), .sl [] .full, .v (.bool false)]⟩,
  ⟨.other, 1, 8, .v .nilFunc⟩,
  ⟨.strct [(0, 3), (1, 27), (2, 3), (3, 3), (4, 4)], 5, 56, .agg [.v (.int .i64 0), .sl [] .full, .v (.int .i64 0), .v (.int .i64 0), .v (.bool false)]⟩,
  ⟨.strct [(0, 3), (1, 27), (2, 3), (3, 3), (4, 4)], 5, 56, .agg [.v (.int .i64 0), .sl [] .full, .v (.int .i64 0), .v (.int .i64 0), .v (.bool false)]⟩,
  ⟨.other, 1, 8, .v .nilFunc⟩,
  ⟨.other, 1, 8, .v .nilFunc⟩,
  ⟨.int .u32, 1, 4, .v (.int .u32 0)⟩,
  ⟨.other, 1, 8, .v .nilFunc⟩,
  ⟨.other, 0, 0, default⟩,
  ⟨.other, 1, 8, .v .nilFunc⟩,
  ⟨.int .u64, 1, 8, .v (.int .u64 0)⟩,
  ⟨.strct [(0, 22), (1, 38), (2, 4)], 3, 40, .agg [.v (.pointer none), .sl [] .full, .v (.bool false)]⟩,
  ⟨.strct [(0, 22), (1, 38), (2, 4)], 3, 40, .agg [.v (.pointer none), .sl [] .full, .v (.bool false)]⟩,
  ⟨.other, 1, 8, .v .nilFunc⟩,
  ⟨.other, 1, 8, .v .nilFunc⟩,
  ⟨.strct [(0, 17), (1, 17), (2, 17), (3, 9)], 4, 40, .agg [.v (.pointer none), .v (.pointer none), .v (.pointer none), .s []]⟩,
  ⟨.strct [(0, 17), (1, 17), (2, 17), (3, 9)], 4, 40, .agg [.v (.pointer none), .v (.pointer none), .v (.pointer none), .s []]⟩,
  ⟨.arr 0 16, 0, 0, default⟩,
  ⟨.other, 0, 0, default⟩,
  ⟨.other, 0, 0, default⟩,
  ⟨.int .u8, 1, 1, .v (.int .u8 0)⟩,
  ⟨.int .u8, 1, 1, .v (.int .u8 0)⟩,
  ⟨.other, 1, 8, .v .nilFunc⟩,
  ⟨.ptr 5, 1, 8, .v (.pointer none)⟩,
  ⟨.int .i32, 1, 4, .v (.int .i32 0)⟩,
  ⟨.int .i32, 1, 4, .v (.int .i32 0)⟩,
  ⟨.strct [(0, 12), (1, 12), (2, 78), (3, 92), (4, 5), (5, 5), (6, 93), (7, 94), (8, 95), (9, 96), (10, 97)], 11, 48, .agg [.v (.int .u64 0), .v (.int .u64 0), .v (.int .u32 0), .v (.int .u8 0), .v (.int .u8 0), .v (.int .u8 0), .v (.int .u8 0), .v .nilFunc, .v (.pointer none), .v (.int .i32 0), .v (.int .i32 0)]⟩,
  ⟨.strct [(0, 12), (1, 12), (2, 78), (3, 92), (4, 5), (5, 5), (6, 93), (7, 94), (8, 95), (9, 96), (10, 97)], 11, 48, .agg [.v (.int .u64 0), .v (.int .u64 0), .v (.int .u32 0), .v (.int .u8 0), .v (.int .u8 0), .v (.int .u8 0), .v (.int .u8 0), .v .nilFunc, .v (.pointer none), .v (.int .i32 0), .v (.int .i32 0)]⟩,
  ⟨.other, 1, 8, .v (.pointer none)⟩]

def U (t : TypeId) : TI := tyRows.getD t ⟨.other, 0, 0, default⟩

@[go_sem] theorem U1k : (U 1).k = .other := rfl
@[go_sem] theorem U1s : (U 1).sz = 1 := rfl
@[go_sem] theorem U1b : (U 1).bytes = 8 := rfl
@[go_sem] theorem U1z : (U 1).zero = .v .nilFunc := rfl
@[go_sem] theorem U2k : (U 2).k = .int .i64 := rfl
@[go_sem] theorem U2s : (U 2).sz = 1 := rfl
@[go_sem] theorem U2b : (U 2).bytes = 8 := rfl
@[go_sem] theorem U2z : (U 2).zero = .v (.int .i64 0) := rfl
@[go_sem] theorem U3k : (U 3).k = .int .i64 := rfl
@[go_sem] theorem U3s : (U 3).sz = 1 := rfl
@[go_sem] theorem U3b : (U 3).bytes = 8 := rfl
@[go_sem] theorem U3z : (U 3).zero = .v (.int .i64 0) := rfl
@[go_sem] theorem U4k : (U 4).k = .bool := rfl
@[go_sem] theorem U4s : (U 4).sz = 1 := rfl
@[go_sem] theorem U4b : (U 4).bytes = 1 := rfl
@[go_sem] theorem U4z : (U 4).zero = .v (.bool false) := rfl
@[go_sem] theorem U5k : (U 5).k = .int .u8 := rfl
@[go_sem] theorem U5s : (U 5).sz = 1 := rfl
@[go_sem] theorem U5b : (U 5).bytes = 1 := rfl
@[go_sem] theorem U5z : (U 5).zero = .v (.int .u8 0) := rfl
@[go_sem] theorem U6k : (U 6).k = .int .u8 := rfl
@[go_sem] theorem U6s : (U 6).sz = 1 := rfl
@[go_sem] theorem U6b : (U 6).bytes = 1 := rfl
@[go_sem] theorem U6z : (U 6).zero = .v (.int .u8 0) := rfl
@[go_sem] theorem U7k : (U 7).k = .strct [(0, 2), (1, 3), (2, 4), (3, 6)] := rfl
@[go_sem] theorem U7s : (U 7).sz = 4 := rfl
@[go_sem] theorem U7b : (U 7).bytes = 24 := rfl
@[go_sem] theorem U7z : (U 7).zero = .agg [.v (.int .i64 0), .v (.int .i64 0), .v (.bool false), .v (.int .u8 0)] := rfl
@[go_sem] theorem U8k : (U 8).k = .strct [(0, 2), (1, 3), (2, 4), (3, 6)] := rfl
@[go_sem] theorem U8s : (U 8).sz = 4 := rfl
@[go_sem] theorem U8b : (U 8).bytes = 24 := rfl
@[go_sem] theorem U8z : (U 8).zero = .agg [.v (.int .i64 0), .v (.int .i64 0), .v (.bool false), .v (.int .u8 0)] := rfl
@[go_sem] theorem U9k : (U 9).k = .str := rfl
@[go_sem] theorem U9s : (U 9).sz = 1 := rfl
@[go_sem] theorem U9b : (U 9).bytes = 16 := rfl
@[go_sem] theorem U9z : (U 9).zero = .s [] := rfl
@[go_sem] theorem U10k : (U 10).k = .str := rfl
@[go_sem] theorem U10s : (U 10).sz = 1 := rfl
@[go_sem] theorem U10b : (U 10).bytes = 16 := rfl
@[go_sem] theorem U10z : (U 10).zero = .s [] := rfl
@[go_sem] theorem U11k : (U 11).k = .str := rfl
@[go_sem] theorem U11s : (U 11).sz = 1 := rfl
@[go_sem] theorem U11b : (U 11).bytes = 16 := rfl
@[go_sem] theorem U11z : (U 11).zero = .s [] := rfl
@[go_sem] theorem U12k : (U 12).k = .int .u64 := rfl
@[go_sem] theorem U12s : (U 12).sz = 1 := rfl
@[go_sem] theorem U12b : (U 12).bytes = 8 := rfl
@[go_sem] theorem U12z : (U 12).zero = .v (.int .u64 0) := rfl
@[go_sem] theorem U13k : (U 13).k = .strct [(0, 9), (1, 12)] := rfl
@[go_sem] theorem U13s : (U 13).sz = 2 := rfl
@[go_sem] theorem U13b : (U 13).bytes = 24 := rfl
@[go_sem] theorem U13z : (U 13).zero = .agg [.s [], .v (.int .u64 0)] := rfl
@[go_sem] theorem U14k : (U 14).k = .strct [(0, 9), (1, 12)] := rfl
@[go_sem] theorem U14s : (U 14).sz = 2 := rfl
@[go_sem] theorem U14b : (U 14).bytes = 24 := rfl
@[go_sem] theorem U14z : (U 14).zero = .agg [.s [], .v (.int .u64 0)] := rfl
@[go_sem] theorem U15k : (U 15).k = .ptr 88 := rfl
@[go_sem] theorem U15s : (U 15).sz = 1 := rfl
@[go_sem] theorem U15b : (U 15).bytes = 8 := rfl
@[go_sem] theorem U15z : (U 15).zero = .v (.pointer none) := rfl
@[go_sem] theorem U16k : (U 16).k = .ptr 91 := rfl
@[go_sem] theorem U16s : (U 16).sz = 1 := rfl
@[go_sem] theorem U16b : (U 16).bytes = 8 := rfl
@[go_sem] theorem U16z : (U 16).zero = .v (.pointer none) := rfl
@[go_sem] theorem U17k : (U 17).k = .ptr 99 := rfl
@[go_sem] theorem U17s : (U 17).sz = 1 := rfl
@[go_sem] theorem U17b : (U 17).bytes = 8 := rfl
@[go_sem] theorem U17z : (U 17).zero = .v (.pointer none) := rfl
@[go_sem] theorem U18k : (U 18).k = .strct [(0, 17)] := rfl
@[go_sem] theorem U18s : (U 18).sz = 1 := rfl
@[go_sem] theorem U18b : (U 18).bytes = 8 := rfl
@[go_sem] theorem U18z : (U 18).zero = .agg [.v (.pointer none)] := rfl
@[go_sem] theorem U19k : (U 19).k = .strct [(0, 17)] := rfl
@[go_sem] theorem U19s : (U 19).sz = 1 := rfl
@[go_sem] theorem U19b : (U 19).bytes = 8 := rfl
@[go_sem] theorem U19z : (U 19).zero = .agg [.v (.pointer none)] := rfl
@[go_sem] theorem U20k : (U 20).k = .iface := rfl
@[go_sem] theorem U20s : (U 20).sz = 1 := rfl
@[go_sem] theorem U20b : (U 20).bytes = 16 := rfl
@[go_sem] theorem U20z : (U 20).zero = .v .nilIface := rfl
@[go_sem] theorem U21k : (U 21).k = .int .i32 := rfl
@[go_sem] theorem U21s : (U 21).sz = 1 := rfl
@[go_sem] theorem U21b : (U 21).bytes = 4 := rfl
@[go_sem] theorem U21z : (U 21).zero = .v (.int .i32 0) := rfl
@[go_sem] theorem U22k : (U 22).k = .ptr 75 := rfl
@[go_sem] theorem U22s : (U 22).sz = 1 := rfl
@[go_sem] theorem U22b : (U 22).bytes = 8 := rfl
@[go_sem] theorem U22z : (U 22).zero = .v (.pointer none) := rfl
@[go_sem] theorem U23k : (U 23).k = .int .i64 := rfl
@[go_sem] theorem U23s : (U 23).sz = 1 := rfl
@[go_sem] theorem U23b : (U 23).bytes = 8 := rfl
@[go_sem] theorem U23z : (U 23).zero = .v (.int .i64 0) := rfl
@[go_sem] theorem U25k : (U 25).k = .other := rfl
@[go_sem] theorem U25s : (U 25).sz = 1 := rfl
@[go_sem] theorem U25b : (U 25).bytes = 8 := rfl
@[go_sem] theorem U25z : (U 25).zero = .v .nilFunc := rfl
@[go_sem] theorem U26k : (U 26).k = .other := rfl
@[go_sem] theorem U26s : (U 26).sz = 1 := rfl
@[go_sem] theorem U26b : (U 26).bytes = 8 := rfl
@[go_sem] theorem U26z : (U 26).zero = .v .nilFunc := rfl
@[go_sem] theorem U27k : (U 27).k = .slice 5 := rfl
@[go_sem] theorem U27s : (U 27).sz = 1 := rfl
@[go_sem] theorem U27b : (U 27).bytes = 24 := rfl
@[go_sem] theorem U27z : (U 27).zero = .sl [] .full := rfl
@[go_sem] theorem U28k : (U 28).k = .other := rfl
@[go_sem] theorem U28s : (U 28).sz = 1 := rfl
@[go_sem] theorem U28b : (U 28).bytes = 8 := rfl
@[go_sem] theorem U28z : (U 28).zero = .v .nilFunc := rfl
@[go_sem] theorem U29k : (U 29).k = .other := rfl
@[go_sem] theorem U29s : (U 29).sz = 1 := rfl
@[go_sem] theorem U29b : (U 29).bytes = 8 := rfl
@[go_sem] theorem U29z : (U 29).zero = .v .nilFunc := rfl
@[go_sem] theorem U30k : (U 30).k = .other := rfl
@[go_sem] theorem U30s : (U 30).sz = 1 := rfl
@[go_sem] theorem U30b : (U 30).bytes = 8 := rfl
@[go_sem] theorem U30z : (U 30).zero = .v .nilFunc := rfl
@[go_sem] theorem U31k : (U 31).k = .other := rfl
@[go_sem] theorem U31s : (U 31).sz = 1 := rfl
@[go_sem] theorem U31b : (U 31).bytes = 8 := rfl
@[go_sem] theorem U31z : (U 31).zero = .v .nilFunc := rfl
@[go_sem] theorem U32k : (U 32).k = .other := rfl
@[go_sem] theorem U32s : (U 32).sz = 1 := rfl
@[go_sem] theorem U32b : (U 32).bytes = 8 := rfl
@[go_sem] theorem U32z : (U 32).zero = .v .nilFunc := rfl
@[go_sem] theorem U33k : (U 33).k = .other := rfl
@[go_sem] theorem U33s : (U 33).sz = 1 := rfl
@[go_sem] theorem U33b : (U 33).bytes = 8 := rfl
@[go_sem] theorem U33z : (U 33).zero = .v .nilFunc := rfl
@[go_sem] theorem U34k : (U 34).k = .other := rfl
@[go_sem] theorem U34s : (U 34).sz = 1 := rfl
@[go_sem] theorem U34b : (U 34).bytes = 8 := rfl
@[go_sem] theorem U34z : (U 34).zero = .v .nilFunc := rfl
@[go_sem] theorem U35k : (U 35).k = .other := rfl
@[go_sem] theorem U35s : (U 35).sz = 1 := rfl
@[go_sem] theorem U35b : (U 35).bytes = 8 := rfl
@[go_sem] theorem U35z : (U 35).zero = .v .nilFunc := rfl
@[go_sem] theorem U36k : (U 36).k = .other := rfl
@[go_sem] theorem U36s : (U 36).sz = 1 := rfl
@[go_sem] theorem U36b : (U 36).bytes = 8 := rfl
@[go_sem] theorem U36z : (U 36).zero = .v .nilFunc := rfl
@[go_sem] theorem U37k : (U 37).k = .other := rfl
@[go_sem] theorem U37s : (U 37).sz = 1 := rfl
@[go_sem] theorem U37b : (U 37).bytes = 8 := rfl
@[go_sem] theorem U37z : (U 37).zero = .v .nilFunc := rfl
@[go_sem] theorem U38k : (U 38).k = .slice 27 := rfl
@[go_sem] theorem U38s : (U 38).sz = 1 := rfl
@[go_sem] theorem U38b : (U 38).bytes = 24 := rfl
@[go_sem] theorem U38z : (U 38).zero = .sl [] .full := rfl
@[go_sem] theorem U40k : (U 40).k = .other := rfl
@[go_sem] theorem U40s : (U 40).sz = 1 := rfl
@[go_sem] theorem U40b : (U 40).bytes = 8 := rfl
@[go_sem] theorem U40z : (U 40).zero = .v .nilFunc := rfl
@[go_sem] theorem U41k : (U 41).k = .other := rfl
@[go_sem] theorem U41s : (U 41).sz = 1 := rfl
@[go_sem] theorem U41b : (U 41).bytes = 8 := rfl
@[go_sem] theorem U41z : (U 41).zero = .v .nilFunc := rfl
@[go_sem] theorem U42k : (U 42).k = .other := rfl
@[go_sem] theorem U42s : (U 42).sz = 1 := rfl
@[go_sem] theorem U42b : (U 42).bytes = 8 := rfl
@[go_sem] theorem U42z : (U 42).zero = .v .nilFunc := rfl
@[go_sem] theorem U43k : (U 43).k = .other := rfl
@[go_sem] theorem U43s : (U 43).sz = 1 := rfl
@[go_sem] theorem U43b : (U 43).bytes = 8 := rfl
@[go_sem] theorem U43z : (U 43).zero = .v .nilFunc := rfl
@[go_sem] theorem U44k : (U 44).k = .other := rfl
@[go_sem] theorem U44s : (U 44).sz = 1 := rfl
@[go_sem] theorem U44b : (U 44).bytes = 8 := rfl
@[go_sem] theorem U44z : (U 44).zero = .v .nilFunc := rfl
@[go_sem] theorem U45k : (U 45).k = .slice 47 := rfl
@[go_sem] theorem U45s : (U 45).sz = 1 := rfl
@[go_sem] theorem U45b : (U 45).bytes = 24 := rfl
@[go_sem] theorem U45z : (U 45).zero = .sl [] .full := rfl
@[go_sem] theorem U46k : (U 46).k = .strct [(0, 3), (1, 3), (2, 3), (3, 27)] := rfl
@[go_sem] theorem U46s : (U 46).sz = 4 := rfl
@[go_sem] theorem U46b : (U 46).bytes = 48 := rfl
@[go_sem] theorem U46z : (U 46).zero = .agg [.v (.int .i64 0), .v (.int .i64 0), .v (.int .i64 0), .sl [] .full] := rfl
@[go_sem] theorem U47k : (U 47).k = .strct [(0, 3), (1, 3), (2, 3), (3, 27)] := rfl
@[go_sem] theorem U47s : (U 47).sz = 4 := rfl
@[go_sem] theorem U47b : (U 47).bytes = 48 := rfl
@[go_sem] theorem U47z : (U 47).zero = .agg [.v (.int .i64 0), .v (.int .i64 0), .v (.int .i64 0), .sl [] .full] := rfl
@[go_sem] theorem U48k : (U 48).k = .other := rfl
@[go_sem] theorem U48s : (U 48).sz = 1 := rfl
@[go_sem] theorem U48b : (U 48).bytes = 8 := rfl
@[go_sem] theorem U48z : (U 48).zero = .v .nilFunc := rfl
@[go_sem] theorem U49k : (U 49).k = .other := rfl
@[go_sem] theorem U49s : (U 49).sz = 1 := rfl
@[go_sem] theorem U49b : (U 49).bytes = 8 := rfl
@[go_sem] theorem U49z : (U 49).zero = .v .nilFunc := rfl
@[go_sem] theorem U50k : (U 50).k = .ptr 56 := rfl
@[go_sem] theorem U50s : (U 50).sz = 1 := rfl
@[go_sem] theorem U50b : (U 50).bytes = 8 := rfl
@[go_sem] theorem U50z : (U 50).zero = .v (.pointer none) := rfl
@[go_sem] theorem U52k : (U 52).k = .other := rfl
@[go_sem] theorem U52s : (U 52).sz = 1 := rfl
@[go_sem] theorem U52b : (U 52).bytes = 8 := rfl
@[go_sem] theorem U52z : (U 52).zero = .v .nilFunc := rfl
@[go_sem] theorem U53k : (U 53).k = .other := rfl
@[go_sem] theorem U53s : (U 53).sz = 1 := rfl
@[go_sem] theorem U53b : (U 53).bytes = 8 := rfl
@[go_sem] theorem U53z : (U 53).zero = .v .nilFunc := rfl
@[go_sem] theorem U54k : (U 54).k = .other := rfl
@[go_sem] theorem U54s : (U 54).sz = 1 := rfl
@[go_sem] theorem U54b : (U 54).bytes = 8 := rfl
@[go_sem] theorem U54z : (U 54).zero = .v .nilFunc := rfl
@[go_sem] theorem U55k : (U 55).k = .strct [(0, 3), (1, 27), (2, 3), (3, 3), (4, 4)] := rfl
@[go_sem] theorem U55s : (U 55).sz = 5 := rfl
@[go_sem] theorem U55b : (U 55).bytes = 56 := rfl
@[go_sem] theorem U55z : (U 55).zero = .agg [.v (.int .i64 0), .sl [] .full, .v (.int .i64 0), .v (.int .i64 0), .v (.bool false)] := rfl
@[go_sem] theorem U56k : (U 56).k = .strct [(0, 3), (1, 27), (2, 3), (3, 3), (4, 4)] := rfl
@[go_sem] theorem U56s : (U 56).sz = 5 := rfl
@[go_sem] theorem U56b : (U 56).bytes = 56 := rfl
@[go_sem] theorem U56z : (U 56).zero = .agg [.v (.int .i64 0), .sl [] .full, .v (.int .i64 0), .v (.int .i64 0), .v (.bool false)] := rfl
@[go_sem] theorem U57k : (U 57).k = .slice 3 := rfl
@[go_sem] theorem U57s : (U 57).sz = 1 := rfl
@[go_sem] theorem U57b : (U 57).bytes = 24 := rfl
@[go_sem] theorem U57z : (U 57).zero = .sl [] .full := rfl
@[go_sem] theorem U58k : (U 58).k = .other := rfl
@[go_sem] theorem U58s : (U 58).sz = 1 := rfl
@[go_sem] theorem U58b : (U 58).bytes = 8 := rfl
@[go_sem] theorem U58z : (U 58).zero = .v .nilFunc := rfl
@[go_sem] theorem U59k : (U 59).k = .ptr 84 := rfl
@[go_sem] theorem U59s : (U 59).sz = 1 := rfl
@[go_sem] theorem U59b : (U 59).bytes = 8 := rfl
@[go_sem] theorem U59z : (U 59).zero = .v (.pointer none) := rfl
@[go_sem] theorem U61k : (U 61).k = .other := rfl
@[go_sem] theorem U61s : (U 61).sz = 1 := rfl
@[go_sem] theorem U61b : (U 61).bytes = 8 := rfl
@[go_sem] theorem U61z : (U 61).zero = .v .nilFunc := rfl
@[go_sem] theorem U62k : (U 62).k = .other := rfl
@[go_sem] theorem U62s : (U 62).sz = 1 := rfl
@[go_sem] theorem U62b : (U 62).bytes = 8 := rfl
@[go_sem] theorem U62z : (U 62).zero = .v .nilFunc := rfl
@[go_sem] theorem U63k : (U 63).k = .other := rfl
@[go_sem] theorem U63s : (U 63).sz = 1 := rfl
@[go_sem] theorem U63b : (U 63).bytes = 8 := rfl
@[go_sem] theorem U63z : (U 63).zero = .v .nilFunc := rfl
@[go_sem] theorem U64k : (U 64).k = .other := rfl
@[go_sem] theorem U64s : (U 64).sz = 1 := rfl
@[go_sem] theorem U64b : (U 64).bytes = 8 := rfl
@[go_sem] theorem U64z : (U 64).zero = .v .nilFunc := rfl
@[go_sem] theorem U65k : (U 65).k = .other := rfl
@[go_sem] theorem U65s : (U 65).sz = 1 := rfl
@[go_sem] theorem U65b : (U 65).bytes = 8 := rfl
@[go_sem] theorem U65z : (U 65).zero = .v .nilFunc := rfl
@[go_sem] theorem U66k : (U 66).k = .slice 70 := rfl
@[go_sem] theorem U66s : (U 66).sz = 1 := rfl
@[go_sem] theorem U66b : (U 66).bytes = 24 := rfl
@[go_sem] theorem U66z : (U 66).zero = .sl [] .full := rfl
@[go_sem] theorem U67k : (U 67).k = .ptr 72 := rfl
@[go_sem] theorem U67s : (U 67).sz = 1 := rfl
@[go_sem] theorem U67b : (U 67).bytes = 8 := rfl
@[go_sem] theorem U67z : (U 67).zero = .v (.pointer none) := rfl
@[go_sem] theorem U69k : (U 69).k = .other := rfl
@[go_sem] theorem U69s : (U 69).sz = 1 := rfl
@[go_sem] theorem U69b : (U 69).bytes = 8 := rfl
@[go_sem] theorem U69z : (U 69).zero = .v .nilFunc := rfl
@[go_sem] theorem U70k : (U 70).k = .strct [(0, 3), (1, 3), (2, 3), (3, 27)] := rfl
@[go_sem] theorem U70s : (U 70).sz = 4 := rfl
@[go_sem] theorem U70b : (U 70).bytes = 48 := rfl
@[go_sem] theorem U70z : (U 70).zero = .agg [.v (.int .i64 0), .v (.int .i64 0), .v (.int .i64 0), .sl [] .full] := rfl
@[go_sem] theorem U71k : (U 71).k = .strct [(0, 50), (1, 38), (2, 4)] := rfl
@[go_sem] theorem U71s : (U 71).sz = 3 := rfl
@[go_sem] theorem U71b : (U 71).bytes = 40 := rfl
@[go_sem] theorem U71z : (U 71).zero = .agg [.v (.pointer none), .sl [] .full, .v (.bool false)] := rfl
@[go_sem] theorem U72k : (U 72).k = .strct [(0, 50), (1, 38), (2, 4)] := rfl
@[go_sem] theorem U72s : (U 72).sz = 3 := rfl
@[go_sem] theorem U72b : (U 72).bytes = 40 := rfl
@[go_sem] theorem U72z : (U 72).zero = .agg [.v (.pointer none), .sl [] .full, .v (.bool false)] := rfl
@[go_sem] theorem U73k : (U 73).k = .other := rfl
@[go_sem] theorem U73s : (U 73).sz = 1 := rfl
@[go_sem] theorem U73b : (U 73).bytes = 8 := rfl
@[go_sem] theorem U73z : (U 73).zero = .v .nilFunc := rfl
@[go_sem] theorem U74k : (U 74).k = .strct [(0, 3), (1, 27), (2, 3), (3, 3), (4, 4)] := rfl
@[go_sem] theorem U74s : (U 74).sz = 5 := rfl
@[go_sem] theorem U74b : (U 74).bytes = 56 := rfl
@[go_sem] theorem U74z : (U 74).zero = .agg [.v (.int .i64 0), .sl [] .full, .v (.int .i64 0), .v (.int .i64 0), .v (.bool false)] := rfl
@[go_sem] theorem U75k : (U 75).k = .strct [(0, 3), (1, 27), (2, 3), (3, 3), (4, 4)] := rfl
@[go_sem] theorem U75s : (U 75).sz = 5 := rfl
@[go_sem] theorem U75b : (U 75).bytes = 56 := rfl
@[go_sem] theorem U75z : (U 75).zero = .agg [.v (.int .i64 0), .sl [] .full, .v (.int .i64 0), .v (.int .i64 0), .v (.bool false)] := rfl
@[go_sem] theorem U76k : (U 76).k = .other := rfl
@[go_sem] theorem U76s : (U 76).sz = 1 := rfl
@[go_sem] theorem U76b : (U 76).bytes = 8 := rfl
@[go_sem] theorem U76z : (U 76).zero = .v .nilFunc := rfl
@[go_sem] theorem U77k : (U 77).k = .other := rfl
@[go_sem] theorem U77s : (U 77).sz = 1 := rfl
@[go_sem] theorem U77b : (U 77).bytes = 8 := rfl
@[go_sem] theorem U77z : (U 77).zero = .v .nilFunc := rfl
@[go_sem] theorem U78k : (U 78).k = .int .u32 := rfl
@[go_sem] theorem U78s : (U 78).sz = 1 := rfl
@[go_sem] theorem U78b : (U 78).bytes = 4 := rfl
@[go_sem] theorem U78z : (U 78).zero = .v (.int .u32 0) := rfl
@[go_sem] theorem U79k : (U 79).k = .other := rfl
@[go_sem] theorem U79s : (U 79).sz = 1 := rfl
@[go_sem] theorem U79b : (U 79).bytes = 8 := rfl
@[go_sem] theorem U79z : (U 79).zero = .v .nilFunc := rfl
@[go_sem] theorem U81k : (U 81).k = .other := rfl
@[go_sem] theorem U81s : (U 81).sz = 1 := rfl
@[go_sem] theorem U81b : (U 81).bytes = 8 := rfl
@[go_sem] theorem U81z : (U 81).zero = .v .nilFunc := rfl
@[go_sem] theorem U82k : (U 82).k = .int .u64 := rfl
@[go_sem] theorem U82s : (U 82).sz = 1 := rfl
@[go_sem] theorem U82b : (U 82).bytes = 8 := rfl
@[go_sem] theorem U82z : (U 82).zero = .v (.int .u64 0) := rfl
@[go_sem] theorem U83k : (U 83).k = .strct [(0, 22), (1, 38), (2, 4)] := rfl
@[go_sem] theorem U83s : (U 83).sz = 3 := rfl
@[go_sem] theorem U83b : (U 83).bytes = 40 := rfl
@[go_sem] theorem U83z : (U 83).zero = .agg [.v (.pointer none), .sl [] .full, .v (.bool false)] := rfl
@[go_sem] theorem U84k : (U 84).k = .strct [(0, 22), (1, 38), (2, 4)] := rfl
@[go_sem] theorem U84s : (U 84).sz = 3 := rfl
@[go_sem] theorem U84b : (U 84).bytes = 40 := rfl
@[go_sem] theorem U84z : (U 84).zero = .agg [.v (.pointer none), .sl [] .full, .v (.bool false)] := rfl
@[go_sem] theorem U85k : (U 85).k = .other := rfl
@[go_sem] theorem U85s : (U 85).sz = 1 := rfl
@[go_sem] theorem U85b : (U 85).bytes = 8 := rfl
@[go_sem] theorem U85z : (U 85).zero = .v .nilFunc := rfl
@[go_sem] theorem U86k : (U 86).k = .other := rfl
@[go_sem] theorem U86s : (U 86).sz = 1 := rfl
@[go_sem] theorem U86b : (U 86).bytes = 8 := rfl
@[go_sem] theorem U86z : (U 86).zero = .v .nilFunc := rfl
@[go_sem] theorem U87k : (U 87).k = .strct [(0, 17), (1, 17), (2, 17), (3, 9)] := rfl
@[go_sem] theorem U87s : (U 87).sz = 4 := rfl
@[go_sem] theorem U87b : (U 87).bytes = 40 := rfl
@[go_sem] theorem U87z : (U 87).zero = .agg [.v (.pointer none), .v (.pointer none), .v (.pointer none), .s []] := rfl
@[go_sem] theorem U88k : (U 88).k = .strct [(0, 17), (1, 17), (2, 17), (3, 9)] := rfl
@[go_sem] theorem U88s : (U 88).sz = 4 := rfl
@[go_sem] theorem U88b : (U 88).bytes = 40 := rfl
@[go_sem] theorem U88z : (U 88).zero = .agg [.v (.pointer none), .v (.pointer none), .v (.pointer none), .s []] := rfl
@[go_sem] theorem U89k : (U 89).k = .arr 0 16 := rfl
@[go_sem] theorem U92k : (U 92).k = .int .u8 := rfl
@[go_sem] theorem U92s : (U 92).sz = 1 := rfl
@[go_sem] theorem U92b : (U 92).bytes = 1 := rfl
@[go_sem] theorem U92z : (U 92).zero = .v (.int .u8 0) := rfl
@[go_sem] theorem U93k : (U 93).k = .int .u8 := rfl
@[go_sem] theorem U93s : (U 93).sz = 1 := rfl
@[go_sem] theorem U93b : (U 93).bytes = 1 := rfl
@[go_sem] theorem U93z : (U 93).zero = .v (.int .u8 0) := rfl
@[go_sem] theorem U94k : (U 94).k = .other := rfl
@[go_sem] theorem U94s : (U 94).sz = 1 := rfl
@[go_sem] theorem U94b : (U 94).bytes = 8 := rfl
@[go_sem] theorem U94z : (U 94).zero = .v .nilFunc := rfl
@[go_sem] theorem U95k : (U 95).k = .ptr 5 := rfl
@[go_sem] theorem U95s : (U 95).sz = 1 := rfl
@[go_sem] theorem U95b : (U 95).bytes = 8 := rfl
@[go_sem] theorem U95z : (U 95).zero = .v (.pointer none) := rfl
@[go_sem] theorem U96k : (U 96).k = .int .i32 := rfl
@[go_sem] theorem U96s : (U 96).sz = 1 := rfl
@[go_sem] theorem U96b : (U 96).bytes = 4 := rfl
@[go_sem] theorem U96z : (U 96).zero = .v (.int .i32 0) := rfl
@[go_sem] theorem U97k : (U 97).k = .int .i32 := rfl
@[go_sem] theorem U97s : (U 97).sz = 1 := rfl
@[go_sem] theorem U97b : (U 97).bytes = 4 := rfl
@[go_sem] theorem U97z : (U 97).zero = .v (.int .i32 0) := rfl
@[go_sem] theorem U98k : (U 98).k = .strct [(0, 12), (1, 12), (2, 78), (3, 92), (4, 5), (5, 5), (6, 93), (7, 94), (8, 95), (9, 96), (10, 97)] := rfl
@[go_sem] theorem U98s : (U 98).sz = 11 := rfl
@[go_sem] theorem U98b : (U 98).bytes = 48 := rfl
@[go_sem] theorem U98z : (U 98).zero = .agg [.v (.int .u64 0), .v (.int .u64 0), .v (.int .u32 0), .v (.int .u8 0), .v (.int .u8 0), .v (.int .u8 0), .v (.int .u8 0), .v .nilFunc, .v (.pointer none), .v (.int .i32 0), .v (.int .i32 0)] := rfl
@[go_sem] theorem U99k : (U 99).k = .strct [(0, 12), (1, 12), (2, 78), (3, 92), (4, 5), (5, 5), (6, 93), (7, 94), (8, 95), (9, 96), (10, 97)] := rfl
@[go_sem] theorem U99s : (U 99).sz = 11 := rfl
@[go_sem] theorem U99b : (U 99).bytes = 48 := rfl
@[go_sem] theorem U99z : (U 99).zero = .agg [.v (.int .u64 0), .v (.int .u64 0), .v (.int .u32 0), .v (.int .u8 0), .v (.int .u8 0), .v (.int .u8 0), .v (.int .u8 0), .v .nilFunc, .v (.pointer none), .v (.int .i32 0), .v (.int .i32 0)] := rfl
@[go_sem] theorem U100k : (U 100).k = .other := rfl
@[go_sem] theorem U100s : (U 100).sz = 1 := rfl
@[go_sem] theorem U100b : (U 100).bytes = 8 := rfl
@[go_sem] theorem U100z : (U 100).zero = .v (.pointer none) := rfl

theorem hU : ∀ t, AgreeT Try.prog U t := agree_all 101 (by kernel_rfl) fun t ht => by
  unfold U
  rw [List.getD_eq_getElem?_getD, List.getElem?_eq_none (by simpa [tyRows] using ht)]
  rfl

theorem hm : Try.prog.follows .mixedOrders = true := by kernel_rfl

end Go.Proofs.Ytidpcjblciompaa
