/- The law ScriptRuns: pack 3 of its texts. -/
import Derived.Test.YtcochaoekecfdaaGreatDoorProg
import Derived.KernelRfl
import Derived.Shelf.Strings.OnBuilder
import Derived.Shelf.Small.Wraps
import Derived.Shelf.Strconv.Itoa3
import Derived.Below
import Derived.Lib.ItoaLen
import Derived.Lib.Join
import Derived.Lib.Small
import Derived.Shelf.Strings.BuilderK
import Derived.Test.YtcochaoekecfdaaGreatDoorChecked
import Derived.WalkKit
import Derived.BigCall
import Derived.StillTailTactics
import Derived.Laws.Externs
import Derived.Lib.Overlaps
import Derived.Test.YtcochaoekecfdaaGreatDoorPk1
import Derived.Test.YtcochaoekecfdaaGreatDoorPk2
set_option linter.unusedSimpArgs false
set_option linter.unusedVariables false
set_option maxRecDepth 100000
namespace Go.Proofs.YtcochaoekecfdaaGreatDoor
open Go Go.Ab
abbrev acr:TI:=⟨.other,1,8,.v .nilFunc,none⟩
def ML:List TI:=[
 ⟨.other,0,0,default,none⟩,
 acr,
 ⟨.int .i64,1,8,.i 0,some (0,[.int .i64])⟩,
 ⟨.int .i64,1,8,.i 0,some (0,[.int .i64])⟩,
 ⟨.bool,1,1,.b false,some (0,[.bool])⟩,
 ⟨.int .u8,1,1,.v (.int .u8 0),some (0,[.int .u8])⟩,
 ⟨.int .u8,1,1,.v (.int .u8 0),some (0,[.int .u8])⟩,
 ⟨.strct [(0,2),(1,3),(2,4),(3,6)],4,24,.agg [.i 0,.i 0,.b false,.v (.int .u8 0)],none⟩,
 ⟨.strct [(0,2),(1,3),(2,4),(3,6)],4,24,.agg [.i 0,.i 0,.b false,.v (.int .u8 0)],none⟩,
 ⟨.str,1,16,.s [],some (0,[.str])⟩,
 ⟨.str,1,16,.s [],some (0,[.str])⟩,
 ⟨.str,1,16,.s [],some (0,[.str])⟩,
 ⟨.int .u64,1,8,.v (.int .u64 0),some (0,[.int .u64])⟩,
 ⟨.strct [(0,9),(1,12)],2,24,.agg [.s [],.v (.int .u64 0)],none⟩,
 ⟨.strct [(0,9),(1,12)],2,24,.agg [.s [],.v (.int .u64 0)],none⟩,
 ⟨.ptr 417,1,8,.v (.pointer none),none⟩,
 ⟨.ptr 420,1,8,.v (.pointer none),none⟩,
 ⟨.ptr 427,1,8,.v (.pointer none),none⟩,
 ⟨.strct [(0,17)],1,8,.agg [.v (.pointer none)],none⟩,
 ⟨.strct [(0,17)],1,8,.agg [.v (.pointer none)],none⟩,
 ⟨.iface,1,16,.v .nilIface,none⟩,
 ⟨.int .i32,1,4,.v (.int .i32 0),some (0,[.int .i32])⟩,
 ⟨.ptr 96,1,8,.v (.pointer none),none⟩,
 ⟨.int .i64,1,8,.i 0,some (0,[.int .i64])⟩,
 ⟨.other,0,0,default,none⟩,
 acr,
 ⟨.ptr 101,1,8,.v (.pointer none),none⟩,
 ⟨.other,0,0,default,none⟩,
 acr,
 ⟨.strct [(0,3),(1,3),(2,9)],3,32,.agg [.i 0,.i 0,.s []],some (1,[.int .i64,.int .i64,.str])⟩,
 ⟨.strct [(0,3),(1,3),(2,9)],3,32,.agg [.i 0,.i 0,.s []],some (1,[.int .i64,.int .i64,.str])⟩,
 ⟨.strct [(0,3),(1,9),(2,9),(3,9),(4,9),(5,30),(8,3),(9,9),(10,9),(11,4)],12,152,.agg [.i 0,.s [],.s [],.s [],.s [],.i 0,.i 0,.s [],.i 0,.s [],.s [],.b false],some (2,[.int .i64,.str,.str,.str,.str,.int .i64,.int .i64,.str,.int .i64,.str,.str,.bool])⟩,
 ⟨.strct [(0,3),(1,9),(2,9),(3,9),(4,9),(5,30),(8,3),(9,9),(10,9),(11,4)],12,152,.agg [.i 0,.s [],.s [],.s [],.s [],.i 0,.i 0,.s [],.i 0,.s [],.s [],.b false],some (2,[.int .i64,.str,.str,.str,.str,.int .i64,.int .i64,.str,.int .i64,.str,.str,.bool])⟩,
 ⟨.cplx .f64,1,16,.v (.complex .f64 0 0),some (0,[.cplx .f64])⟩,
 ⟨.cplx .f64,1,16,.v (.complex .f64 0 0),some (0,[.cplx .f64])⟩,
 ⟨.strct [(0,23),(1,34),(2,4),(3,30),(6,4),(7,3)],8,80,.agg [.i 0,.v (.complex .f64 0 0),.b false,.i 0,.i 0,.s [],.b false,.i 0],some (2,[.int .i64,.cplx .f64,.bool,.int .i64,.int .i64,.str,.bool,.int .i64])⟩,
 ⟨.strct [(0,23),(1,34),(2,4),(3,30),(6,4),(7,3)],8,80,.agg [.i 0,.v (.complex .f64 0 0),.b false,.i 0,.i 0,.s [],.b false,.i 0],some (2,[.int .i64,.cplx .f64,.bool,.int .i64,.int .i64,.str,.bool,.int .i64])⟩,
 acr,
 ⟨.slice 41,1,24,.sl [] .full,none⟩,
 acr,
 acr,
 ⟨.slice 5,1,24,.sl [] .full,none⟩,
 acr,
 ⟨.int .u64,1,8,.v (.int .u64 0),some (0,[.int .u64])⟩,
 acr,
 acr,
 acr,
 acr,
 acr,
 acr,
 ⟨.other,0,0,default,none⟩,
 acr,
 acr,
 acr,
 ⟨.slice 32,1,24,.sl [] .full,none⟩,
 ⟨.slice 134,1,24,.sl [] .full,none⟩,
 ⟨.slice 143,1,24,.sl [] .full,none⟩,
 ⟨.slice 146,1,24,.sl [] .full,none⟩,
 ⟨.slice 149,1,24,.sl [] .full,none⟩,
 ⟨.slice 270,1,24,.sl [] .full,none⟩,
 ⟨.slice 270,1,24,.sl [] .full,none⟩,
 ⟨.slice 224,1,24,.sl [] .full,none⟩,
 ⟨.slice 65,1,24,.sl [] .full,none⟩,
 ⟨.slice 158,1,24,.sl [] .full,none⟩,
 ⟨.strct [(0,9),(1,4),(2,3),(3,60),(4,61),(5,62),(6,63)],7,128,.agg [.s [],.b false,.i 0,.sl [] .full,.sl [] .full,.sl [] .full,.sl [] .full],none⟩,
 ⟨.strct [(0,9),(1,4),(2,3),(3,60),(4,61),(5,62),(6,63)],7,128,.agg [.s [],.b false,.i 0,.sl [] .full,.sl [] .full,.sl [] .full,.sl [] .full],none⟩,
 ⟨.strct [(0,3),(1,55),(2,56),(3,57),(4,58),(5,65),(12,3)],13,240,.agg [.i 0,.sl [] .full,.sl [] .full,.sl [] .full,.sl [] .full,.s [],.b false,.i 0,.sl [] .full,.sl [] .full,.sl [] .full,.sl [] .full,.i 0],none⟩,
 ⟨.strct [(0,3),(1,55),(2,56),(3,57),(4,58),(5,65),(12,3)],13,240,.agg [.i 0,.sl [] .full,.sl [] .full,.sl [] .full,.sl [] .full,.s [],.b false,.i 0,.sl [] .full,.sl [] .full,.sl [] .full,.sl [] .full,.i 0],none⟩,
 acr,
 acr,
 ⟨.strct [(0,32),(12,3),(13,34),(14,4),(15,63)],16,208,.agg [.i 0,.s [],.s [],.s [],.s [],.i 0,.i 0,.s [],.i 0,.s [],.s [],.b false,.i 0,.v (.complex .f64 0 0),.b false,.sl [] .full],none⟩,
 ⟨.strct [(0,32),(12,3),(13,34),(14,4),(15,63)],16,208,.agg [.i 0,.s [],.s [],.s [],.s [],.i 0,.i 0,.s [],.i 0,.s [],.s [],.b false,.i 0,.v (.complex .f64 0 0),.b false,.sl [] .full],none⟩,
 ⟨.other,0,0,default,none⟩,
 acr,
 acr,
 acr,
 acr,
 ⟨.slice 9,1,24,.sl [] .full,none⟩,
 ⟨.slice 43,1,24,.sl [] .full,none⟩,
 acr,
 acr,
 acr,
 acr,
 acr,
 ⟨.slice 71,1,24,.sl [] .full,none⟩,
 acr,
 acr,
 acr,
 acr,
 acr,
 acr,
 acr,
 acr,
 acr,
 acr,
 ⟨.strct [(0,3),(1,41),(2,3),(3,3),(4,4)],5,56,.agg [.i 0,.sl [] .full,.i 0,.i 0,.b false],none⟩,
 ⟨.strct [(0,3),(1,41),(2,3),(3,3),(4,4)],5,56,.agg [.i 0,.sl [] .full,.i 0,.i 0,.b false],none⟩,
 ⟨.ptr 173,1,8,.v (.pointer none),none⟩,
 ⟨.other,0,0,default,none⟩,
 acr,
 ⟨.strct [(0,97),(1,67),(14,84),(15,43)],16,280,.agg [.v (.pointer none),.i 0,.sl [] .full,.sl [] .full,.sl [] .full,.sl [] .full,.s [],.b false,.i 0,.sl [] .full,.sl [] .full,.sl [] .full,.sl [] .full,.i 0,.sl [] .full,.v (.int .u64 0)],none⟩,
 ⟨.strct [(0,97),(1,67),(14,84),(15,43)],16,280,.agg [.v (.pointer none),.i 0,.sl [] .full,.sl [] .full,.sl [] .full,.sl [] .full,.s [],.b false,.i 0,.sl [] .full,.sl [] .full,.sl [] .full,.sl [] .full,.i 0,.sl [] .full,.v (.int .u64 0)],none⟩,
 acr,
 ⟨.int .u64,1,8,.v (.int .u64 0),some (0,[.int .u64])⟩,
 acr,
 acr,
 acr,
 acr,
 acr,
 acr,
 ⟨.ptr 176,1,8,.v (.pointer none),none⟩,
 acr,
 acr,
 acr,
 acr,
 acr,
 ⟨.other,0,0,default,none⟩,
 acr,
 ⟨.strct [(0,34),(1,63)],2,40,.agg [.v (.complex .f64 0 0),.sl [] .full],none⟩,
 ⟨.strct [(0,34),(1,63)],2,40,.agg [.v (.complex .f64 0 0),.sl [] .full],none⟩,
 acr,
 ⟨.other,0,0,default,none⟩,
 acr,
 ⟨.slice 196,1,24,.sl [] .full,none⟩,
 acr,
 acr,
 acr,
 acr,
 ⟨.ptr 67,1,8,.v (.pointer none),none⟩,
 acr,
 acr,
 ⟨.slice 215,1,24,.sl [] .full,none⟩,
 ⟨.slice 205,1,24,.sl [] .full,none⟩,
 ⟨.strct [(0,9),(1,9),(2,9),(3,131),(4,132)],5,96,.agg [.s [],.s [],.s [],.sl [] .full,.sl [] .full],none⟩,
 ⟨.strct [(0,9),(1,9),(2,9),(3,131),(4,132)],5,96,.agg [.s [],.s [],.s [],.sl [] .full,.sl [] .full],none⟩,
 ⟨.other,0,0,default,none⟩,
 acr,
 acr,
 acr,
 acr,
 acr,
 acr,
 ⟨.strct [(0,3),(1,3),(2,9),(3,9),(4,9),(5,9),(6,4)],7,88,.agg [.i 0,.i 0,.s [],.s [],.s [],.s [],.b false],some (1,[.int .i64,.int .i64,.str,.str,.str,.str,.bool])⟩,
 ⟨.strct [(0,3),(1,3),(2,9),(3,9),(4,9),(5,9),(6,4)],7,88,.agg [.i 0,.i 0,.s [],.s [],.s [],.s [],.b false],some (1,[.int .i64,.int .i64,.str,.str,.str,.str,.bool])⟩,
 acr,
 ⟨.strct [(0,3),(1,9),(2,9)],3,40,.agg [.i 0,.s [],.s []],some (1,[.int .i64,.str,.str])⟩,
 ⟨.strct [(0,3),(1,9),(2,9)],3,40,.agg [.i 0,.s [],.s []],some (1,[.int .i64,.str,.str])⟩,
 acr,
 ⟨.strct [(0,9),(1,9)],2,32,.agg [.s [],.s []],some (1,[.str,.str])⟩,
 ⟨.strct [(0,9),(1,9)],2,32,.agg [.s [],.s []],some (1,[.str,.str])⟩,
 acr,
 acr,
 acr,
 ⟨.int .u32,1,4,.v (.int .u32 0),some (0,[.int .u32])⟩,
 acr,
 acr,
 acr,
 ⟨.strct [(0,3),(1,3),(2,9)],3,32,.agg [.i 0,.i 0,.s []],some (1,[.int .i64,.int .i64,.str])⟩,
 ⟨.strct [(0,3),(1,3),(2,9)],3,32,.agg [.i 0,.i 0,.s []],some (1,[.int .i64,.int .i64,.str])⟩,
 acr,
 acr,
 ⟨.other,0,0,default,none⟩,
 acr,
 acr,
 acr,
 ⟨.other,0,0,default,none⟩,
 acr,
 acr,
 ⟨.other,0,0,default,none⟩,
 acr,
 acr,
 acr,
 ⟨.strct [(0,22),(1,38),(2,4)],3,40,.agg [.v (.pointer none),.sl [] .full,.b false],none⟩,
 ⟨.strct [(0,22),(1,38),(2,4)],3,40,.agg [.v (.pointer none),.sl [] .full,.b false],none⟩,
 acr,
 ⟨.strct [(0,41),(1,3),(2,4)],3,40,.agg [.sl [] .full,.i 0,.b false],none⟩,
 ⟨.strct [(0,41),(1,3),(2,4)],3,40,.agg [.sl [] .full,.i 0,.b false],none⟩,
 acr,
 ⟨.slice 186,1,24,.sl [] .full,none⟩,
 ⟨.other,0,0,default,none⟩,
 acr,
 ⟨.ptr 183,1,8,.v (.pointer none),none⟩,
 ⟨.strct [(0,178),(1,3),(2,3),(3,23),(4,3)],5,56,.agg [.sl [] .full,.i 0,.i 0,.i 0,.i 0],none⟩,
 ⟨.strct [(0,178),(1,3),(2,3),(3,23),(4,3)],5,56,.agg [.sl [] .full,.i 0,.i 0,.i 0,.i 0],none⟩,
 acr,
 ⟨.strct [(0,3),(1,3),(2,3),(3,9)],4,40,.agg [.i 0,.i 0,.i 0,.s []],some (1,[.int .i64,.int .i64,.int .i64,.str])⟩,
 ⟨.strct [(0,3),(1,3),(2,3),(3,9)],4,40,.agg [.i 0,.i 0,.i 0,.s []],some (1,[.int .i64,.int .i64,.int .i64,.str])⟩,
 acr,
 acr,
 acr,
 ⟨.other,0,0,default,none⟩,
 acr,
 acr,
 ⟨.slice 30,1,24,.sl [] .full,none⟩,
 acr,
 ⟨.strct [(0,3),(1,9),(2,193)],3,48,.agg [.i 0,.s [],.sl [] .full],none⟩,
 ⟨.strct [(0,3),(1,9),(2,193)],3,48,.agg [.i 0,.s [],.sl [] .full],none⟩,
 acr,
 acr,
 acr,
 acr,
 acr,
 acr,
 acr,
 ⟨.strct [(0,3),(1,9),(2,9)],3,40,.agg [.i 0,.s [],.s []],some (1,[.int .i64,.str,.str])⟩,
 ⟨.strct [(0,3),(1,9),(2,9)],3,40,.agg [.i 0,.s [],.s []],some (1,[.int .i64,.str,.str])⟩,
 acr,
 ⟨.ptr 134,1,8,.v (.pointer none),none⟩,
 acr,
 acr,
 acr,
 acr,
 acr,
 acr,
 ⟨.strct [(0,9),(1,30)],4,48,.agg [.s [],.i 0,.i 0,.s []],some (2,[.str,.int .i64,.int .i64,.str])⟩,
 ⟨.strct [(0,9),(1,30)],4,48,.agg [.s [],.i 0,.i 0,.s []],some (2,[.str,.int .i64,.int .i64,.str])⟩,
 acr,
 acr,
 acr,
 acr,
 acr,
 acr,
 ⟨.slice 229,1,24,.sl [] .full,none⟩,
 ⟨.strct [(0,9),(1,4),(2,60),(3,222),(4,63)],5,96,.agg [.s [],.b false,.sl [] .full,.sl [] .full,.sl [] .full],none⟩,
 ⟨.strct [(0,9),(1,4),(2,60),(3,222),(4,63)],5,96,.agg [.s [],.b false,.sl [] .full,.sl [] .full,.sl [] .full],none⟩,
 acr,
 ⟨.strct [(0,3),(1,9),(2,4)],3,32,.agg [.i 0,.s [],.b false],some (1,[.int .i64,.str,.bool])⟩,
 ⟨.strct [(0,3),(1,9),(2,4)],3,32,.agg [.i 0,.s [],.b false],some (1,[.int .i64,.str,.bool])⟩,
 ⟨.strct [(0,3),(1,30),(4,227)],7,72,.agg [.i 0,.i 0,.i 0,.s [],.i 0,.s [],.b false],some (2,[.int .i64,.int .i64,.int .i64,.str,.int .i64,.str,.bool])⟩,
 ⟨.strct [(0,3),(1,30),(4,227)],7,72,.agg [.i 0,.i 0,.i 0,.s [],.i 0,.s [],.b false],some (2,[.int .i64,.int .i64,.int .i64,.str,.int .i64,.str,.bool])⟩,
 acr,
 ⟨.other,0,0,default,none⟩,
 acr,
 ⟨.iface,1,16,.v .nilIface,none⟩,
 ⟨.iface,1,16,.v .nilIface,none⟩,
 ⟨.other,0,0,default,none⟩,
 acr,
 acr,
 acr,
 ⟨.other,0,0,default,none⟩,
 acr,
 ⟨.other,0,0,default,none⟩,
 acr,
 ⟨.other,0,0,default,none⟩,
 acr,
 acr,
 acr,
 acr,
 acr,
 acr,
 acr,
 acr,
 ⟨.ptr 255,1,8,.v (.pointer none),none⟩,
 ⟨.map 9 355,1,8,.v (.map none),none⟩,
 ⟨.strct [(0,253),(1,3)],2,16,.agg [.v (.map none),.i 0],none⟩,
 ⟨.strct [(0,253),(1,3)],2,16,.agg [.v (.map none),.i 0],none⟩,
 acr,
 acr,
 acr,
 acr,
 ⟨.slice 3,1,24,.sl [] .full,none⟩,
 acr,
 acr,
 acr,
 acr,
 acr,
 acr,
 acr,
 acr,
 acr,
 ⟨.slice 274,1,24,.sl [] .full,none⟩,
 acr,
 ⟨.strct [(0,227),(3,3),(4,30)],7,72,.agg [.i 0,.s [],.b false,.i 0,.i 0,.i 0,.s []],some (2,[.int .i64,.str,.bool,.int .i64,.int .i64,.int .i64,.str])⟩,
 ⟨.strct [(0,227),(3,3),(4,30)],7,72,.agg [.i 0,.s [],.b false,.i 0,.i 0,.i 0,.s []],some (2,[.int .i64,.str,.bool,.int .i64,.int .i64,.int .i64,.str])⟩,
 ⟨.slice 273,1,24,.sl [] .full,none⟩,
 acr,
 ⟨.ptr 278,1,8,.v (.pointer none),none⟩,
 ⟨.strct [(0,276),(1,41)],2,32,.agg [.v (.pointer none),.sl [] .full],none⟩,
 ⟨.strct [(0,276),(1,41)],2,32,.agg [.v (.pointer none),.sl [] .full],none⟩,
 acr,
 acr,
 acr,
 ⟨.other,0,0,default,none⟩,
 acr,
 acr,
 acr,
 acr,
 acr,
 acr,
 acr,
 acr,
 acr,
 ⟨.slice 119,1,24,.sl [] .full,none⟩,
 acr,
 acr,
 ⟨.other,0,0,default,none⟩,
 acr,
 acr,
 acr,
 acr,
 acr,
 acr,
 acr,
 acr,
 acr,
 acr,
 acr,
 acr,
 ⟨.int .i64,1,8,.i 0,some (0,[.int .i64])⟩,
 ⟨.other,0,0,default,none⟩,
 acr,
 ⟨.ptr 347,1,8,.v (.pointer none),none⟩,
 acr,
 acr,
 ⟨.ptr 5,1,8,.v (.pointer none),none⟩,
 acr,
 ⟨.other,0,0,default,none⟩,
 acr,
 acr,
 acr,
 acr,
 acr,
 acr,
 acr,
 acr,
 acr,
 ⟨.slice 34,1,24,.sl [] .full,none⟩,
 ⟨.other,0,0,default,none⟩,
 acr,
 acr,
 acr,
 ⟨.other,0,0,default,none⟩,
 acr,
 ⟨.other,0,0,default,none⟩,
 acr,
 acr,
 acr,
 acr,
 ⟨.arr 24 5,24,24,.agg [.v (.int .u8 0),.v (.int .u8 0),.v (.int .u8 0),.v (.int .u8 0),.v (.int .u8 0),.v (.int .u8 0),.v (.int .u8 0),.v (.int .u8 0),.v (.int .u8 0),.v (.int .u8 0),.v (.int .u8 0),.v (.int .u8 0),.v (.int .u8 0),.v (.int .u8 0),.v (.int .u8 0),.v (.int .u8 0),.v (.int .u8 0),.v (.int .u8 0),.v (.int .u8 0),.v (.int .u8 0),.v (.int .u8 0),.v (.int .u8 0),.v (.int .u8 0),.v (.int .u8 0)],some (1,[.int .u8,.int .u8,.int .u8,.int .u8,.int .u8,.int .u8,.int .u8,.int .u8,.int .u8,.int .u8,.int .u8,.int .u8,.int .u8,.int .u8,.int .u8,.int .u8,.int .u8,.int .u8,.int .u8,.int .u8,.int .u8,.int .u8,.int .u8,.int .u8])⟩,
 acr,
 acr,
 ⟨.other,0,0,default,none⟩,
 acr,
 acr,
 ⟨.other,0,0,default,none⟩,
 acr,
 ⟨.strct [(0,9),(1,9),(2,234)],3,48,.agg [.s [],.s [],.v .nilIface],none⟩,
 ⟨.strct [(0,9),(1,9),(2,234)],3,48,.agg [.s [],.s [],.v .nilIface],none⟩,
 acr,
 ⟨.other,1,8,.v (.pointer none),none⟩,
 acr,
 acr,
 acr,
 ⟨.other,0,0,default,none⟩,
 acr,
 ⟨.strct [],0,0,default,none⟩,
 ⟨.other,0,0,default,none⟩,
 acr,
 ⟨.slice 4,1,24,.sl [] .full,none⟩,
 ⟨.other,0,0,default,none⟩,
 acr,
 ⟨.other,0,0,default,none⟩,
 acr,
 ⟨.strct [(0,193),(1,30),(4,23)],5,64,.agg [.sl [] .full,.i 0,.i 0,.s [],.i 0],none⟩,
 ⟨.strct [(0,193),(1,30),(4,23)],5,64,.agg [.sl [] .full,.i 0,.i 0,.s [],.i 0],none⟩,
 acr,
 acr,
 acr,
 acr,
 acr,
 acr,
 acr,
 acr,
 acr,
 ⟨.arr 20 43,20,160,.agg [.v (.int .u64 0),.v (.int .u64 0),.v (.int .u64 0),.v (.int .u64 0),.v (.int .u64 0),.v (.int .u64 0),.v (.int .u64 0),.v (.int .u64 0),.v (.int .u64 0),.v (.int .u64 0),.v (.int .u64 0),.v (.int .u64 0),.v (.int .u64 0),.v (.int .u64 0),.v (.int .u64 0),.v (.int .u64 0),.v (.int .u64 0),.v (.int .u64 0),.v (.int .u64 0),.v (.int .u64 0)],some (1,[.int .u64,.int .u64,.int .u64,.int .u64,.int .u64,.int .u64,.int .u64,.int .u64,.int .u64,.int .u64,.int .u64,.int .u64,.int .u64,.int .u64,.int .u64,.int .u64,.int .u64,.int .u64,.int .u64,.int .u64])⟩,
 ⟨.arr 65 5,65,65,.agg [.v (.int .u8 0),.v (.int .u8 0),.v (.int .u8 0),.v (.int .u8 0),.v (.int .u8 0),.v (.int .u8 0),.v (.int .u8 0),.v (.int .u8 0),.v (.int .u8 0),.v (.int .u8 0),.v (.int .u8 0),.v (.int .u8 0),.v (.int .u8 0),.v (.int .u8 0),.v (.int .u8 0),.v (.int .u8 0),.v (.int .u8 0),.v (.int .u8 0),.v (.int .u8 0),.v (.int .u8 0),.v (.int .u8 0),.v (.int .u8 0),.v (.int .u8 0),.v (.int .u8 0),.v (.int .u8 0),.v (.int .u8 0),.v (.int .u8 0),.v (.int .u8 0),.v (.int .u8 0),.v (.int .u8 0),.v (.int .u8 0),.v (.int .u8 0),.v (.int .u8 0),.v (.int .u8 0),.v (.int .u8 0),.v (.int .u8 0),.v (.int .u8 0),.v (.int .u8 0),.v (.int .u8 0),.v (.int .u8 0),.v (.int .u8 0),.v (.int .u8 0),.v (.int .u8 0),.v (.int .u8 0),.v (.int .u8 0),.v (.int .u8 0),.v (.int .u8 0),.v (.int .u8 0),.v (.int .u8 0),.v (.int .u8 0),.v (.int .u8 0),.v (.int .u8 0),.v (.int .u8 0),.v (.int .u8 0),.v (.int .u8 0),.v (.int .u8 0),.v (.int .u8 0),.v (.int .u8 0),.v (.int .u8 0),.v (.int .u8 0),.v (.int .u8 0),.v (.int .u8 0),.v (.int .u8 0),.v (.int .u8 0),.v (.int .u8 0)],none⟩,
 acr,
 ⟨.other,0,0,default,none⟩,
 acr,
 acr,
 ⟨.ptr 382,1,8,.v (.pointer none),none⟩,
 ⟨.strct [(0,9)],1,16,.agg [.s []],some (1,[.str])⟩,
 ⟨.strct [(0,9)],1,16,.agg [.s []],some (1,[.str])⟩,
 acr,
 acr,
 ⟨.other,0,0,default,none⟩,
 acr,
 acr,
 acr,
 acr,
 ⟨.slice 364,1,24,.sl [] .full,none⟩,
 acr,
 ⟨.other,0,0,default,none⟩,
 ⟨.other,0,0,default,none⟩,
 acr,
 acr,
 acr,
 acr,
 acr,
 acr,
 acr,
 acr,
 acr,
 acr,
 acr,
 acr,
 acr,
 acr,
 acr,
 ⟨.arr 32 5,32,32,.agg [.v (.int .u8 0),.v (.int .u8 0),.v (.int .u8 0),.v (.int .u8 0),.v (.int .u8 0),.v (.int .u8 0),.v (.int .u8 0),.v (.int .u8 0),.v (.int .u8 0),.v (.int .u8 0),.v (.int .u8 0),.v (.int .u8 0),.v (.int .u8 0),.v (.int .u8 0),.v (.int .u8 0),.v (.int .u8 0),.v (.int .u8 0),.v (.int .u8 0),.v (.int .u8 0),.v (.int .u8 0),.v (.int .u8 0),.v (.int .u8 0),.v (.int .u8 0),.v (.int .u8 0),.v (.int .u8 0),.v (.int .u8 0),.v (.int .u8 0),.v (.int .u8 0),.v (.int .u8 0),.v (.int .u8 0),.v (.int .u8 0),.v (.int .u8 0)],some (1,[.int .u8,.int .u8,.int .u8,.int .u8,.int .u8,.int .u8,.int .u8,.int .u8,.int .u8,.int .u8,.int .u8,.int .u8,.int .u8,.int .u8,.int .u8,.int .u8,.int .u8,.int .u8,.int .u8,.int .u8,.int .u8,.int .u8,.int .u8,.int .u8,.int .u8,.int .u8,.int .u8,.int .u8,.int .u8,.int .u8,.int .u8,.int .u8])⟩,
 ⟨.arr 64 5,64,64,.agg [.v (.int .u8 0),.v (.int .u8 0),.v (.int .u8 0),.v (.int .u8 0),.v (.int .u8 0),.v (.int .u8 0),.v (.int .u8 0),.v (.int .u8 0),.v (.int .u8 0),.v (.int .u8 0),.v (.int .u8 0),.v (.int .u8 0),.v (.int .u8 0),.v (.int .u8 0),.v (.int .u8 0),.v (.int .u8 0),.v (.int .u8 0),.v (.int .u8 0),.v (.int .u8 0),.v (.int .u8 0),.v (.int .u8 0),.v (.int .u8 0),.v (.int .u8 0),.v (.int .u8 0),.v (.int .u8 0),.v (.int .u8 0),.v (.int .u8 0),.v (.int .u8 0),.v (.int .u8 0),.v (.int .u8 0),.v (.int .u8 0),.v (.int .u8 0),.v (.int .u8 0),.v (.int .u8 0),.v (.int .u8 0),.v (.int .u8 0),.v (.int .u8 0),.v (.int .u8 0),.v (.int .u8 0),.v (.int .u8 0),.v (.int .u8 0),.v (.int .u8 0),.v (.int .u8 0),.v (.int .u8 0),.v (.int .u8 0),.v (.int .u8 0),.v (.int .u8 0),.v (.int .u8 0),.v (.int .u8 0),.v (.int .u8 0),.v (.int .u8 0),.v (.int .u8 0),.v (.int .u8 0),.v (.int .u8 0),.v (.int .u8 0),.v (.int .u8 0),.v (.int .u8 0),.v (.int .u8 0),.v (.int .u8 0),.v (.int .u8 0),.v (.int .u8 0),.v (.int .u8 0),.v (.int .u8 0),.v (.int .u8 0)],none⟩,
 acr,
 acr,
 acr,
 acr,
 ⟨.other,0,0,default,none⟩,
 ⟨.strct [(0,17),(1,17),(2,17),(3,9)],4,40,.agg [.v (.pointer none),.v (.pointer none),.v (.pointer none),.s []],none⟩,
 ⟨.strct [(0,17),(1,17),(2,17),(3,9)],4,40,.agg [.v (.pointer none),.v (.pointer none),.v (.pointer none),.s []],none⟩,
 ⟨.arr 0 16,0,0,default,none⟩,
 ⟨.other,0,0,default,none⟩,
 ⟨.other,0,0,default,none⟩,
 ⟨.int .u8,1,1,.v (.int .u8 0),some (0,[.int .u8])⟩,
 ⟨.int .u8,1,1,.v (.int .u8 0),some (0,[.int .u8])⟩,
 acr,
 ⟨.int .i32,1,4,.v (.int .i32 0),some (0,[.int .i32])⟩,
 ⟨.int .i32,1,4,.v (.int .i32 0),some (0,[.int .i32])⟩,
 ⟨.strct [(0,12),(1,12),(2,153),(3,421),(4,5),(5,5),(6,422),(7,423),(8,314),(9,424),(10,425)],11,48,.agg [.v (.int .u64 0),.v (.int .u64 0),.v (.int .u32 0),.v (.int .u8 0),.v (.int .u8 0),.v (.int .u8 0),.v (.int .u8 0),.v .nilFunc,.v (.pointer none),.v (.int .i32 0),.v (.int .i32 0)],none⟩,
 ⟨.strct [(0,12),(1,12),(2,153),(3,421),(4,5),(5,5),(6,422),(7,423),(8,314),(9,424),(10,425)],11,48,.agg [.v (.int .u64 0),.v (.int .u64 0),.v (.int .u32 0),.v (.int .u8 0),.v (.int .u8 0),.v (.int .u8 0),.v (.int .u8 0),.v .nilFunc,.v (.pointer none),.v (.int .i32 0),.v (.int .i32 0)],none⟩]
def U(t:TypeId):TI:=ML.getD t ⟨.other,0,0,default,none⟩
@[go_sem] theorem U3k:(U 3).k= .int .i64∧(U 3).sz=1∧(U 3).bytes=8∧(U 3).zero= .i 0:=⟨rfl,rfl,rfl,rfl⟩
@[go_sem] theorem U4k:(U 4).k= .bool∧(U 4).sz=1∧(U 4).bytes=1∧(U 4).zero= .b false:=⟨rfl,rfl,rfl,rfl⟩
@[go_sem] theorem U5k:(U 5).k= .int .u8∧(U 5).sz=1∧(U 5).bytes=1∧(U 5).zero= .v (.int .u8 0):=⟨rfl,rfl,rfl,rfl⟩
@[go_sem] theorem U9k:(U 9).k= .str∧(U 9).sz=1∧(U 9).bytes=16∧(U 9).zero= .s []:=⟨rfl,rfl,rfl,rfl⟩
@[go_sem] theorem aax:(U 22).k= .ptr 96∧(U 22).sz=1∧(U 22).bytes=8∧(U 22).zero= .v (.pointer none):=⟨rfl,rfl,rfl,rfl⟩
@[go_sem] theorem aaB:(U 23).k= .int .i64∧(U 23).sz=1∧(U 23).bytes=8∧(U 23).zero= .i 0:=⟨rfl,rfl,rfl,rfl⟩
@[go_sem] theorem aaF:(U 26).k= .ptr 101∧(U 26).sz=1∧(U 26).bytes=8∧(U 26).zero= .v (.pointer none):=⟨rfl,rfl,rfl,rfl⟩
@[go_sem] theorem aaK:(U 30).k= .strct [(0,3),(1,3),(2,9)]∧(U 30).sz=3∧(U 30).bytes=32∧(U 30).zero= .agg [.i 0,.i 0,.s []]∧(U 30).eq=some (1,[.int .i64,.int .i64,.str]):=⟨rfl,rfl,rfl,rfl,rfl⟩
@[go_sem] theorem aaP:(U 32).k= .strct [(0,3),(1,9),(2,9),(3,9),(4,9),(5,30),(8,3),(9,9),(10,9),(11,4)]∧(U 32).sz=12∧(U 32).bytes=152∧(U 32).zero= .agg [.i 0,.s [],.s [],.s [],.s [],.i 0,.i 0,.s [],.i 0,.s [],.s [],.b false]∧(U 32).eq=some (2,[.int .i64,.str,.str,.str,.str,.int .i64,.int .i64,.str,.int .i64,.str,.str,.bool]):=⟨rfl,rfl,rfl,rfl,rfl⟩
@[go_sem] theorem aaT:(U 34).k= .cplx .f64∧(U 34).sz=1∧(U 34).bytes=16∧(U 34).zero= .v (.complex .f64 0 0):=⟨rfl,rfl,rfl,rfl⟩
@[go_sem] theorem aaX:(U 36).k= .strct [(0,23),(1,34),(2,4),(3,30),(6,4),(7,3)]∧(U 36).sz=8∧(U 36).bytes=80∧(U 36).zero= .agg [.i 0,.v (.complex .f64 0 0),.b false,.i 0,.i 0,.s [],.b false,.i 0]:=⟨rfl,rfl,rfl,rfl⟩
@[go_sem] theorem aa1:(U 38).k= .slice 41∧(U 38).sz=1∧(U 38).bytes=24∧(U 38).zero= .sl [] .full:=⟨rfl,rfl,rfl,rfl⟩
@[go_sem] theorem aa5:(U 41).k= .slice 5∧(U 41).sz=1∧(U 41).bytes=24∧(U 41).zero= .sl [] .full:=⟨rfl,rfl,rfl,rfl⟩
@[go_sem] theorem aa9:(U 43).k= .int .u64∧(U 43).sz=1∧(U 43).bytes=8∧(U 43).zero= .v (.int .u64 0):=⟨rfl,rfl,rfl,rfl⟩
@[go_sem] theorem abd:(U 55).k= .slice 134∧(U 55).sz=1∧(U 55).bytes=24∧(U 55).zero= .sl [] .full:=⟨rfl,rfl,rfl,rfl⟩
@[go_sem] theorem abh:(U 56).k= .slice 143∧(U 56).sz=1∧(U 56).bytes=24∧(U 56).zero= .sl [] .full:=⟨rfl,rfl,rfl,rfl⟩
@[go_sem] theorem abl:(U 57).k= .slice 146∧(U 57).sz=1∧(U 57).bytes=24∧(U 57).zero= .sl [] .full:=⟨rfl,rfl,rfl,rfl⟩
@[go_sem] theorem abp:(U 58).k= .slice 149∧(U 58).sz=1∧(U 58).bytes=24∧(U 58).zero= .sl [] .full:=⟨rfl,rfl,rfl,rfl⟩
@[go_sem] theorem abu:(U 60).k= .slice 270∧(U 60).sz=1∧(U 60).bytes=24∧(U 60).zero= .sl [] .full:=⟨rfl,rfl,rfl,rfl⟩
@[go_sem] theorem aby:(U 61).k= .slice 224∧(U 61).sz=1∧(U 61).bytes=24∧(U 61).zero= .sl [] .full:=⟨rfl,rfl,rfl,rfl⟩
@[go_sem] theorem abC:(U 62).k= .slice 65∧(U 62).sz=1∧(U 62).bytes=24∧(U 62).zero= .sl [] .full:=⟨rfl,rfl,rfl,rfl⟩
@[go_sem] theorem abG:(U 63).k= .slice 158∧(U 63).sz=1∧(U 63).bytes=24∧(U 63).zero= .sl [] .full:=⟨rfl,rfl,rfl,rfl⟩
@[go_sem] theorem abK:(U 65).k= .strct [(0,9),(1,4),(2,3),(3,60),(4,61),(5,62),(6,63)]∧(U 65).sz=7∧(U 65).bytes=128∧(U 65).zero= .agg [.s [],.b false,.i 0,.sl [] .full,.sl [] .full,.sl [] .full,.sl [] .full]:=⟨rfl,rfl,rfl,rfl⟩
@[go_sem] theorem abO:(U 67).k= .strct [(0,3),(1,55),(2,56),(3,57),(4,58),(5,65),(12,3)]∧(U 67).sz=13∧(U 67).bytes=240∧(U 67).zero= .agg [.i 0,.sl [] .full,.sl [] .full,.sl [] .full,.sl [] .full,.s [],.b false,.i 0,.sl [] .full,.sl [] .full,.sl [] .full,.sl [] .full,.i 0]:=⟨rfl,rfl,rfl,rfl⟩
@[go_sem] theorem abS:(U 71).k= .strct [(0,32),(12,3),(13,34),(14,4),(15,63)]∧(U 71).sz=16∧(U 71).bytes=208∧(U 71).zero= .agg [.i 0,.s [],.s [],.s [],.s [],.i 0,.i 0,.s [],.i 0,.s [],.s [],.b false,.i 0,.v (.complex .f64 0 0),.b false,.sl [] .full]:=⟨rfl,rfl,rfl,rfl⟩
@[go_sem] theorem abW:(U 77).k= .slice 9∧(U 77).sz=1∧(U 77).bytes=24∧(U 77).zero= .sl [] .full:=⟨rfl,rfl,rfl,rfl⟩
@[go_sem] theorem ab0:(U 84).k= .slice 71∧(U 84).sz=1∧(U 84).bytes=24∧(U 84).zero= .sl [] .full:=⟨rfl,rfl,rfl,rfl⟩
@[go_sem] theorem ab4:(U 96).k= .strct [(0,3),(1,41),(2,3),(3,3),(4,4)]∧(U 96).sz=5∧(U 96).bytes=56∧(U 96).zero= .agg [.i 0,.sl [] .full,.i 0,.i 0,.b false]:=⟨rfl,rfl,rfl,rfl⟩
@[go_sem] theorem ab8:(U 97).k= .ptr 173∧(U 97).sz=1∧(U 97).bytes=8∧(U 97).zero= .v (.pointer none):=⟨rfl,rfl,rfl,rfl⟩
@[go_sem] theorem Xx:(U 101).k= .strct [(0,97),(1,67),(14,84),(15,43)]∧(U 101).sz=16∧(U 101).bytes=280∧(U 101).zero= .agg [.v (.pointer none),.i 0,.sl [] .full,.sl [] .full,.sl [] .full,.sl [] .full,.s [],.b false,.i 0,.sl [] .full,.sl [] .full,.sl [] .full,.sl [] .full,.i 0,.sl [] .full,.v (.int .u64 0)]:=⟨rfl,rfl,rfl,rfl⟩
@[go_sem] theorem XB:(U 103).k= .int .u64∧(U 103).sz=1∧(U 103).bytes=8∧(U 103).zero= .v (.int .u64 0):=⟨rfl,rfl,rfl,rfl⟩
@[go_sem] theorem XG:(U 119).k= .strct [(0,34),(1,63)]∧(U 119).sz=2∧(U 119).bytes=40∧(U 119).zero= .agg [.v (.complex .f64 0 0),.sl [] .full]:=⟨rfl,rfl,rfl,rfl⟩
@[go_sem] theorem XK:(U 123).k= .slice 196∧(U 123).sz=1∧(U 123).bytes=24∧(U 123).zero= .sl [] .full:=⟨rfl,rfl,rfl,rfl⟩
@[go_sem] theorem XO:(U 131).k= .slice 215∧(U 131).sz=1∧(U 131).bytes=24∧(U 131).zero= .sl [] .full:=⟨rfl,rfl,rfl,rfl⟩
@[go_sem] theorem XS:(U 132).k= .slice 205∧(U 132).sz=1∧(U 132).bytes=24∧(U 132).zero= .sl [] .full:=⟨rfl,rfl,rfl,rfl⟩
@[go_sem] theorem XW:(U 134).k= .strct [(0,9),(1,9),(2,9),(3,131),(4,132)]∧(U 134).sz=5∧(U 134).bytes=96∧(U 134).zero= .agg [.s [],.s [],.s [],.sl [] .full,.sl [] .full]:=⟨rfl,rfl,rfl,rfl⟩
@[go_sem] theorem X0:(U 143).k= .strct [(0,3),(1,3),(2,9),(3,9),(4,9),(5,9),(6,4)]∧(U 143).sz=7∧(U 143).bytes=88∧(U 143).zero= .agg [.i 0,.i 0,.s [],.s [],.s [],.s [],.b false]:=⟨rfl,rfl,rfl,rfl⟩
@[go_sem] theorem X4:(U 146).k= .strct [(0,3),(1,9),(2,9)]∧(U 146).sz=3∧(U 146).bytes=40∧(U 146).zero= .agg [.i 0,.s [],.s []]:=⟨rfl,rfl,rfl,rfl⟩
@[go_sem] theorem X9:(U 149).k= .strct [(0,9),(1,9)]∧(U 149).sz=2∧(U 149).bytes=32∧(U 149).zero= .agg [.s [],.s []]∧(U 149).eq=some (1,[.str,.str]):=⟨rfl,rfl,rfl,rfl,rfl⟩
@[go_sem] theorem Yd:(U 153).k= .int .u32∧(U 153).sz=1∧(U 153).bytes=4∧(U 153).zero= .v (.int .u32 0):=⟨rfl,rfl,rfl,rfl⟩
@[go_sem] theorem Yh:(U 158).k= .strct [(0,3),(1,3),(2,9)]∧(U 158).sz=3∧(U 158).bytes=32∧(U 158).zero= .agg [.i 0,.i 0,.s []]:=⟨rfl,rfl,rfl,rfl⟩
@[go_sem] theorem Yl:(U 173).k= .strct [(0,22),(1,38),(2,4)]∧(U 173).sz=3∧(U 173).bytes=40∧(U 173).zero= .agg [.v (.pointer none),.sl [] .full,.b false]:=⟨rfl,rfl,rfl,rfl⟩
@[go_sem] theorem Yp:(U 176).k= .strct [(0,41),(1,3),(2,4)]∧(U 176).sz=3∧(U 176).bytes=40∧(U 176).zero= .agg [.sl [] .full,.i 0,.b false]:=⟨rfl,rfl,rfl,rfl⟩
@[go_sem] theorem Yt:(U 178).k= .slice 186∧(U 178).sz=1∧(U 178).bytes=24∧(U 178).zero= .sl [] .full:=⟨rfl,rfl,rfl,rfl⟩
@[go_sem] theorem Yx:(U 183).k= .strct [(0,178),(1,3),(2,3),(3,23),(4,3)]∧(U 183).sz=5∧(U 183).bytes=56∧(U 183).zero= .agg [.sl [] .full,.i 0,.i 0,.i 0,.i 0]:=⟨rfl,rfl,rfl,rfl⟩
@[go_sem] theorem YB:(U 186).k= .strct [(0,3),(1,3),(2,3),(3,9)]∧(U 186).sz=4∧(U 186).bytes=40∧(U 186).zero= .agg [.i 0,.i 0,.i 0,.s []]:=⟨rfl,rfl,rfl,rfl⟩
@[go_sem] theorem YG:(U 193).k= .slice 30∧(U 193).sz=1∧(U 193).bytes=24∧(U 193).zero= .sl [] .full:=⟨rfl,rfl,rfl,rfl⟩
@[go_sem] theorem YK:(U 196).k= .strct [(0,3),(1,9),(2,193)]∧(U 196).sz=3∧(U 196).bytes=48∧(U 196).zero= .agg [.i 0,.s [],.sl [] .full]:=⟨rfl,rfl,rfl,rfl⟩
@[go_sem] theorem YO:(U 205).k= .strct [(0,3),(1,9),(2,9)]∧(U 205).sz=3∧(U 205).bytes=40∧(U 205).zero= .agg [.i 0,.s [],.s []]:=⟨rfl,rfl,rfl,rfl⟩
@[go_sem] theorem YT:(U 215).k= .strct [(0,9),(1,30)]∧(U 215).sz=4∧(U 215).bytes=48∧(U 215).zero= .agg [.s [],.i 0,.i 0,.s []]:=⟨rfl,rfl,rfl,rfl⟩
@[go_sem] theorem YX:(U 222).k= .slice 229∧(U 222).sz=1∧(U 222).bytes=24∧(U 222).zero= .sl [] .full:=⟨rfl,rfl,rfl,rfl⟩
@[go_sem] theorem Y1:(U 224).k= .strct [(0,9),(1,4),(2,60),(3,222),(4,63)]∧(U 224).sz=5∧(U 224).bytes=96∧(U 224).zero= .agg [.s [],.b false,.sl [] .full,.sl [] .full,.sl [] .full]:=⟨rfl,rfl,rfl,rfl⟩
@[go_sem] theorem Y6:(U 227).k= .strct [(0,3),(1,9),(2,4)]∧(U 227).sz=3∧(U 227).bytes=32∧(U 227).zero= .agg [.i 0,.s [],.b false]∧(U 227).eq=some (1,[.int .i64,.str,.bool]):=⟨rfl,rfl,rfl,rfl,rfl⟩
@[go_sem] theorem Za:(U 229).k= .strct [(0,3),(1,30),(4,227)]∧(U 229).sz=7∧(U 229).bytes=72∧(U 229).zero= .agg [.i 0,.i 0,.i 0,.s [],.i 0,.s [],.b false]:=⟨rfl,rfl,rfl,rfl⟩
@[go_sem] theorem Ze:(U 253).k= .map 9 355∧(U 253).sz=1∧(U 253).bytes=8∧(U 253).zero= .v (.map none):=⟨rfl,rfl,rfl,rfl⟩
@[go_sem] theorem Zi:(U 255).k= .strct [(0,253),(1,3)]∧(U 255).sz=2∧(U 255).bytes=16∧(U 255).zero= .agg [.v (.map none),.i 0]:=⟨rfl,rfl,rfl,rfl⟩
@[go_sem] theorem Zm:(U 260).k= .slice 3∧(U 260).sz=1∧(U 260).bytes=24∧(U 260).zero= .sl [] .full:=⟨rfl,rfl,rfl,rfl⟩
@[go_sem] theorem Zq:(U 270).k= .slice 274∧(U 270).sz=1∧(U 270).bytes=24∧(U 270).zero= .sl [] .full:=⟨rfl,rfl,rfl,rfl⟩
@[go_sem] theorem Zu:(U 273).k= .strct [(0,227),(3,3),(4,30)]∧(U 273).sz=7∧(U 273).bytes=72∧(U 273).zero= .agg [.i 0,.s [],.b false,.i 0,.i 0,.i 0,.s []]:=⟨rfl,rfl,rfl,rfl⟩
@[go_sem] theorem Zy:(U 274).k= .slice 273∧(U 274).sz=1∧(U 274).bytes=24∧(U 274).zero= .sl [] .full:=⟨rfl,rfl,rfl,rfl⟩
@[go_sem] theorem ZC:(U 292).k= .slice 119∧(U 292).sz=1∧(U 292).bytes=24∧(U 292).zero= .sl [] .full:=⟨rfl,rfl,rfl,rfl⟩
@[go_sem] theorem ZG:(U 326).k= .slice 34∧(U 326).sz=1∧(U 326).bytes=24∧(U 326).zero= .sl [] .full:=⟨rfl,rfl,rfl,rfl⟩
@[go_sem] theorem ZJ:(U 355).k= .strct []∧(U 355).sz=0:=⟨rfl,rfl⟩
@[go_sem] theorem ZM:(U 358).k= .slice 4∧(U 358).sz=1∧(U 358).bytes=24∧(U 358).zero= .sl [] .full:=⟨rfl,rfl,rfl,rfl⟩
@[go_sem] theorem ZQ:(U 364).k= .strct [(0,193),(1,30),(4,23)]∧(U 364).sz=5∧(U 364).bytes=64∧(U 364).zero= .agg [.sl [] .full,.i 0,.i 0,.s [],.i 0]:=⟨rfl,rfl,rfl,rfl⟩
@[go_sem] theorem ZU:(U 390).k= .slice 364∧(U 390).sz=1∧(U 390).bytes=24∧(U 390).zero= .sl [] .full:=⟨rfl,rfl,rfl,rfl⟩
theorem hU:∀t,aP Tryz.prog U t:=Ih 428 acw fun t ht=>by
 unfold U;rw[List.getD_eq_getElem?_getD,List.getElem?_eq_none (show ML.length≤t from ht)]
 rfl
theorem hm:Tryz.prog.follows .mixedOrders=true:=acw
end Go.Proofs.YtcochaoekecfdaaGreatDoor
namespace Go.Proofs
open Go.Shelf
open Go.RowKit in
open Go.RowKit in
def Tryz.Dw:Go.Shelf.Ren:=⟨fun|121=>155|214=>191|n=>n,fun|4=>4|9=>9|n=>n,fun|n=>n⟩
theorem Tryz.N6:Go.Proofs.Lays.n121 Tryz.prog Tryz.Dw:={
 mixed:=acw
 f121:=Tryz.func155.trans (congrArg some acw)
 f214:=Tryz.func191.trans (congrArg some acw)
 t4:=Tryz.underlying4
 a4:=Tryz.isAgg4
 z4:=Tryz.sizeOf4
 v4:=Tryz.zeroValue4
 t9:=Tryz.underlying9
 a9:=Tryz.isAgg9
 z9:=Tryz.sizeOf9
 v9:=Tryz.zeroValue9}
open Go.RowKit in
theorem Tryz.strconv_FormatBool(b:Bool)(w:World):
  Calls Tryz.prog 155 #[.bool b] w fun e w' =>e= .returned (.string ⟨(Lib.formatBool b).toArray⟩)∧w' =w:=Any.strconv_FormatBool Tryz.N6 b w
def Tryz.B7:Go.Shelf.Ren:=⟨fun|171=>151|243=>187|246=>225|283=>256|284=>257|285=>258|286=>259|129=>287|317=>286|318=>288|319=>289|320=>290|337=>312|338=>313|n=>n,fun|3=>3|9=>9|2=>2|4=>4|171=>338|0=>0|53=>43|37=>41|5=>5|173=>341|212=>374|51=>153|20=>20|213=>375|46=>103|232=>409|233=>410|n=>n,fun|17=>3|18=>4|19=>5|n=>n⟩
theorem Tryz.LA:Go.Proofs.LaysM.n171 Tryz.prog Tryz.B7:={
 mixed:=acw
 f129:=Tryz.func287.trans (congrArg some acw)
 f171:=Tryz.func151.trans (congrArg some acw)
 f243:=Tryz.func187.trans (congrArg some acw)
 f246:=Tryz.func225.trans (congrArg some acw)
 f283:=Tryz.func256.trans (congrArg some acw)
 f284:=Tryz.func257.trans (congrArg some acw)
 f285:=Tryz.func258.trans (congrArg some acw)
 f286:=Tryz.func259.trans (congrArg some acw)
 f317:=Tryz.func286.trans (congrArg some acw)
 f318:=Tryz.func288.trans (congrArg some acw)
 f319:=Tryz.func289.trans (congrArg some acw)
 f320:=Tryz.func290.trans (congrArg some acw)
 f337:=Tryz.func312.trans (congrArg some acw)
 f338:=Tryz.func313.trans (congrArg some acw)
 t0:=Tryz.underlying0
 a0:=Tryz.isAgg0
 z0:=Tryz.sizeOf0
 v0:=Tryz.zeroValue0
 t2:=Tryz.underlying2
 a2:=Tryz.isAgg2
 z2:=Tryz.sizeOf2
 v2:=Tryz.zeroValue2
 t3:=Tryz.underlying3
 a3:=Tryz.isAgg3
 z3:=Tryz.sizeOf3
 v3:=Tryz.zeroValue3
 t4:=Tryz.underlying4
 a4:=Tryz.isAgg4
 z4:=Tryz.sizeOf4
 v4:=Tryz.zeroValue4
 t5:=Tryz.underlying5
 a5:=Tryz.isAgg5
 z5:=Tryz.sizeOf5
 v5:=Tryz.zeroValue5
 t9:=Tryz.underlying9
 a9:=Tryz.isAgg9
 z9:=Tryz.sizeOf9
 v9:=Tryz.zeroValue9
 t20:=Tryz.underlying20
 a20:=Tryz.isAgg20
 z20:=Tryz.sizeOf20
 v20:=Tryz.zeroValue20
 t37:=Tryz.underlying41
 a37:=Tryz.isAgg41
 z37:=Tryz.sizeOf41
 v37:=Tryz.zeroValue41
 t46:=Tryz.underlying103
 a46:=Tryz.isAgg103
 z46:=Tryz.sizeOf103
 v46:=Tryz.zeroValue103
 t51:=Tryz.underlying153
 a51:=Tryz.isAgg153
 z51:=Tryz.sizeOf153
 v51:=Tryz.zeroValue153
 t53:=Tryz.underlying43
 a53:=Tryz.isAgg43
 z53:=Tryz.sizeOf43
 v53:=Tryz.zeroValue43
 t171:=Tryz.underlying338
 a171:=Tryz.isAgg338
 z171:=Tryz.sizeOf338
 v171:=Tryz.zeroValue338
 t173:=Tryz.underlying341
 a173:=Tryz.isAgg341
 z173:=Tryz.sizeOf341
 v173:=Tryz.zeroValue341
 t212:=Tryz.underlying374
 a212:=Tryz.isAgg374
 z212:=Tryz.sizeOf374
 v212:=Tryz.zeroValue374
 t213:=Tryz.underlying375
 a213:=Tryz.isAgg375
 z213:=Tryz.sizeOf375
 t232:=Tryz.underlying409
 a232:=Tryz.isAgg409
 z232:=Tryz.sizeOf409
 v232:=Tryz.zeroValue409
 t233:=Tryz.underlying410
 a233:=Tryz.isAgg410
 z233:=Tryz.sizeOf410
 v233:=Tryz.zeroValue410
 g17:=acw
 g18:=acw
 g19:=acw
 i0:=acw
 i2:=acw
 i3:=acw
 i4:=acw
 i5:=acw
 i9:=acw
 i20:=acw
 i37:=acw
 i46:=acw
 i51:=acw
 i53:=acw
 i171:=acw
 i173:=acw
 i212:=acw
 i232:=acw
 i233:=acw
 m17:=acw
 m18:=acw
 m19:=acw}
open Go.RowKit Go.Sort Go.Lib in
theorem Tryz.strconv_Itoa (n : Int) (h0 : -9223372036854775808 ≤ n) (h1 : n ≤ 9223372036854775807) (w : World) (htab : Lib.TabIs Tryz.prog w "internal/strconv.uint64pow10" .u64 Lib.pow10Tab) :
  Calls Tryz.prog 151 #[.int .i64 n] w fun e w' =>e= .returned (.string ⟨(Lib.itoa n).toArray⟩)∧∃k os,w' =grow (w.drewN k) os:=Any.strconv_Itoa Tryz.LA n h0 h1 w htab
end Go.Proofs
namespace Go.Ab
open Go
section
variable {P : Program} {U : TypeId → TI} {n : Nat} {ρ : Env} {h h' h2 : Heap} {e tb : TypeId} {y v : AV} {xs zs : List AV} {l : List UInt8} {Q : AV → Heap → Prop}
def hm1(id:Nat)(k:Blk):Heap:=upd (fun _=>none) id (some k)
@[go_sem] theorem fY(id:Nat)(k:Blk):hm1 id k id=some k:=ah ..
theorem Sub.hm1{id:Nat}{k:Blk}(h1:h id=some k):Sub (hm1 id k) h:=fun j b hj=>by
 unfold Ab.hm1 at hj
 grind [ah,ag]
theorem fJ.new{id:Nat}{k:Option Blk}(hid:h id=none):fJ h (upd h id k):=((Sub.refl h).new hid k).fV
theorem nT.accs{h0:Heap}(hs:Sub h0 h)(hk:∀y' h'',Acc U e h0 h'' y' (xs++zs)→fJ h h''→Q y' h''):nT U h xs zs e Q:=
 .own fun id hid=>hk _ _ ⟨hs.new hid _,.inr ⟨id,hs.none hid,rfl,by rw[ah,acn]⟩⟩ (.new hid)
end
section
variable {P : Program} {U : TypeId → TI} {n : Nat} {ρ : Env} {h h' : Heap} {tb : TypeId} {y : AV} {l : List UInt8}
theorem Bytes.from(hb:Bytes tb h y l){lo:Operand}{m:Int}{x:IntKind}{K:AV→Prop}(j:Nat)(hm:ev ρ lo=some (.v (.int x m)))(hj:m=j)(hl:j≤l.length)(hz:(U tb).sz=1)(hk:∀z,Bytes tb h z (l.drop j)→K z):
  gI U ρ y (some lo) none none K (.slice tb):=by
 subst hj;rcases hb with⟨q,rfl⟩|⟨id,off,cs,rfl,h1,h2,h3⟩
 ·rw[En,hm]
  refine⟨acu,by grind [ju],?_⟩
  refine⟨acu,acv,?_⟩;rw[←List.map_drop];exact hk _ (.sl _ _)
 ·rw[rG]
  refine⟨acu,fun _=>hz,?_⟩
  simp only[mh,fH,hm,cZ,nj];refine⟨acu,acu,acu,?_⟩;simp only[Int.toNat_natCast,hz,Nat.mul_one];have e:(l.drop j).length=l.length - j:=acD;have:=hk (.oa id (off+j) (l.drop j).length) (by grind [oa,List.map_drop,List.drop_drop,List.drop_take])
  rwa [e]at this
theorem Bytes.cut(hb:Bytes tb h y l){lo hi:Operand}{m m2:Int}{x x2:IntKind}{K:AV→Prop}(j k:Nat)(hm:ev ρ lo=some (.v (.int x m)))(hj:m=j)(hm2:ev ρ hi=some (.v (.int x2 m2)))(hk2:m2=k)(hjk:j≤k)(hl:k≤l.length)(hz:(U tb).sz=1)
  (hk:∀z,Bytes tb h z ((l.drop j).take (k - j))→K z):gI U ρ y (some lo) (some hi) none K (.slice tb):=by
 subst hj;subst hk2
 rcases hb with⟨q,rfl⟩|⟨id,off,cs,rfl,h1,h2,h3⟩
 ·rw[JM,hm]
  refine⟨acu,by grind [ju],?_⟩
  simp only[cZ,nj,hm2,Int.toNat_natCast,Ts];refine⟨acu,acu,acv,?_⟩;rw[←List.map_drop,←List.map_take];exact hk _ (.sl _ _)
 ·rw[rG]
  refine⟨acu,fun _=>hz,?_⟩
  simp only[fH,hm,cZ,nj,hm2];refine⟨acu,acu,acu,?_⟩;simp only[Int.toNat_natCast,hz,Nat.mul_one];have e:((l.drop j).take (k - j)).length=k - j:=acv;have:=hk (.oa id (off+j) ((l.drop j).take (k - j)).length) (.oa h1 acu (by
   grind [List.map_take,List.map_drop,List.drop_drop,List.drop_take]))
  rwa [e]at this
end
theorem P9(k:IntKind)(n:Nat)(hk:k.signed=false)(hn:n<2 ^ k.bits):k.wrap (n:Int)=n:=by
 cases k<;>simp[IntKind.signed]at hk<;>simp[IntKind.wrap,IntKind.signed,IntKind.bits]at hn⊢<;>omega
theorem w32(n:Nat)(hn:n<4294967296):IntKind.u32.wrap (n:Int)=n:=P9 .u32 n rfl agh
theorem w8(n:Nat):IntKind.u8.wrap (n:Int)=(UInt8.ofNat n).toNat:=by
 rfl
theorem AS(w n:Nat):BitVec.ofInt w (n:Int)=BitVec.ofNat w n:=BitVec.ofInt_natCast ..
theorem MZ(x y:BitVec 32):IntKind.u32.wrap (((BitVec.ofInt IntKind.u32.bits (x.toNat:Int) ^^^ BitVec.ofInt IntKind.u32.bits (y.toNat:Int)).toNat:Nat):Int)=((x ^^^ y).toNat:Int):=by
 have e:∀z:BitVec 32,BitVec.ofInt IntKind.u32.bits (z.toNat:Int)=z:=fun z=>by
  show BitVec.ofInt 32 (z.toNat:Int)=z
  simp
 rw[e,e];exact w32 _ (x ^^^ y).isLt
theorem Sc(x:BitVec 32):IntKind.u32.wrap (((BitVec.ofInt IntKind.u32.bits (x.toNat:Int) ^^^ BitVec.ofInt IntKind.u32.bits (3988292384:Int)).toNat:Nat):Int)=((x ^^^ 0xedb88320#32).toNat:Int):=MZ x 0xedb88320#32
theorem UA(x:BitVec 32):IntKind.u32.wrap (((BitVec.ofInt IntKind.u32.bits (if IntKind.u32.signed=true then -1 else IntKind.u32.max) ^^^ BitVec.ofInt IntKind.u32.bits (x.toNat:Int)).toNat:Nat):Int)=((~~~ x).toNat:Int):=by
 have:=MZ (BitVec.allOnes 32) x;exact adi
theorem TB(x:BitVec 32):IntKind.u32.wrap (((BitVec.ofInt IntKind.u32.bits (x.toNat:Int) &&& BitVec.ofInt IntKind.u32.bits (1:Int)).toNat:Nat):Int)=((x &&& 1#32).toNat:Int):=by
 have e:BitVec.ofInt IntKind.u32.bits (x.toNat:Int)=x:=by
  show BitVec.ofInt 32 (x.toNat:Int)=x
  simp
 rw[e];exact w32 _ (x &&& 1#32).isLt
theorem UN(x:BitVec 32):(x.toNat:Int).fdiv (2 ^ (min (1:Int).toNat IntKind.u32.bits))=((x>>>1).toNat:Int):=by
 show(x.toNat:Int).fdiv (2 ^ 1)=_
 grind [Int.fdiv_eq_ediv_of_nonneg,Nat.shiftRight_eq_div_pow]
theorem Xp(n:Nat)(k:Nat)(hk:k≤24):(n:Int).fdiv (2 ^ (min (k:Int).toNat IntKind.u32.bits))=((n / 2 ^ k:Nat):Int):=by
 grind [min,Int,IntKind.bits,Int.fdiv_eq_ediv_of_nonneg,Int.le_of_lt,Int.pow_pos]
theorem Xf(a b k:Nat)(ha:a<2 ^ k)(hk:k≤24)(hb:b<256):IntKind.u32.wrap (((BitVec.ofInt IntKind.u32.bits (a:Int)|||BitVec.ofInt IntKind.u32.bits ((b*2 ^ k:Nat):Int)).toNat:Nat):Int)=((a+b*2 ^ k:Nat):Int):=by
 have h24:2 ^ k≤2 ^ 24:=Nat.pow_le_pow_right acz hk;have hbk:b*2 ^ k≤255*2 ^ 24:=Nat.mul_le_mul acu h24;have e1:(BitVec.ofNat 32 a|||BitVec.ofNat 32 (b*2 ^ k)).toNat=a+b*2 ^ k:=by
  exact ahs
 show IntKind.u32.wrap (((BitVec.ofInt 32 (a:Int)|||BitVec.ofInt 32 ((b*2 ^ k:Nat):Int)).toNat:Nat):Int)=_
 rw[AS,AS,e1]
 grind [w32]
theorem UM(b k:Nat)(hk:k≤24)(hb:b<256):IntKind.u32.wrap ((b:Int)*2 ^ (min (k:Int).toNat IntKind.u32.bits))=((b*2 ^ k:Nat):Int):=by
 have h24:2 ^ k≤2 ^ 24:=Nat.pow_le_pow_right acz hk;have hbk:b*2 ^ k≤255*2 ^ 24:=Nat.mul_le_mul acu h24;have:min (k:Int).toNat IntKind.u32.bits=k:=agh;rw[this,show((b:Int)*2 ^ k)=((b*2 ^ k:Nat):Int) by simp]
 exact w32 _ acu
section
variable {U : TypeId → TI} {ty : TypeId} {K : AV → Prop}
@[go_sem high] theorem acg(x y:BitVec 32):cu U .xor ty (.v (.int .u32 (x.toNat:Int))) (.v (.int .u32 (y.toNat:Int))) K=K (.v (.int .u32 ((x ^^^ y).toNat:Int))):=by rw[Po,MZ]
@[go_sem high] theorem aac(x:BitVec 32):cu U .xor ty (.v (.int .u32 (x.toNat:Int))) (.v (.int .u32 3988292384)) K=K (.v (.int .u32 ((x ^^^ 0xedb88320#32).toNat:Int))):=by rw[Po,Sc]
@[go_sem high] theorem WI(x:BitVec 32):cu U .and ty (.v (.int .u32 (x.toNat:Int))) (.v (.int .u32 1)) K=K (.v (.int .u32 ((x &&& 1#32).toNat:Int))):=by rw[Ky,TB]
@[go_sem high] theorem WK(x:BitVec 32)(kk:IntKind):cu U .shr ty (.v (.int .u32 (x.toNat:Int))) (.v (.int kk 1)) K=K (.v (.int .u32 ((x>>>1).toNat:Int))):=by grind [Kz,UN]
@[go_sem high] theorem Xu(x:BitVec 32):unA .xor (.v (.int .u32 (x.toNat:Int))) K=K (.v (.int .u32 ((~~~ x).toNat:Int))):=by rw[Cq,UA]
theorem KE(n k:Nat)(kk:IntKind)(hk:k≤24):cu U .shr ty (.v (.int .u32 (n:Int))) (.v (.int kk (k:Int))) K=K (.v (.int .u32 ((n / 2 ^ k:Nat):Int))):=by grind [Kz,Xp]
theorem KD(a b k:Nat)(ha:a<2 ^ k)(hk:k≤24)(hb:b<256):cu U .or ty (.v (.int .u32 (a:Int))) (.v (.int .u32 ((b*2 ^ k:Nat):Int))) K=K (.v (.int .u32 ((a+b*2 ^ k:Nat):Int))):=by grind [TD,Xf]
theorem EZ(b k:Nat)(kk:IntKind)(hk:k≤24)(hb:b<256):cu U .shl ty (.v (.int .u32 (b:Int))) (.v (.int kk (k:Int))) K=K (.v (.int .u32 ((b*2 ^ k:Nat):Int))):=by grind [Pn,UM]
end
section
variable {P : Program} {U : TypeId → TI} {n : Nat} {ρ : Env} {h0 h h' : Heap} {tb : TypeId} {y v : AV} {l m : List UInt8} {Q : AV → Heap → Prop}
end
section
variable {U : TypeId → TI} {ty : TypeId} {K : AV → Prop}
end
section
variable {P : Program} {U : TypeId → TI} {n : Nat} {ρ : Env} {h : Heap}
section
variable (all : List Oper) (bs : List Bool) (r : List Oper) (K : Env → Heap → Prop)
end
theorem ai.of_wp{f:FuncId}{fn:Func}{c:Code}{args:List AV}{Q:AV→Heap→Prop}(hU:∀t,aP P U t)(hf:P.funcs[f]? =some fn)(hb:fn.body=some c)
  (hn : (fn.name == "runtime.NumGoroutine") = false) (m : Nat) (hm' : fn.ntmps = m) (rs : List ResultVar) (hr : fn.results.toList = rs) (hl : args.length ≤ m)
  (hk:WP P m c (xV args) h (vE U rs Q)):ai P f args h Q:=by
 subst hm';subst hr
 exact ai.LV hU hf hb hn hl fun _=>hk
end
section
variable {P : Program} {U : TypeId → TI} {n : Nat} {ρ : Env} {h : Heap}
def KCut(I:Env→Heap→Prop)(K:Exit→Env→Heap→Prop):Exit→Env→Heap→Prop:=KSeq I K
@[go_sem↓] theorem Tq(I:Env→Heap→Prop)(K:Exit→Env→Heap→Prop):KCut I K .ret ρ h=K .ret ρ h:=rfl
theorem WP.cut{c d:Code}{K:Exit→Env→Heap→Prop}(I:Env→Heap→Prop)(hc:WP P n c ρ h (KCut I K))(hd:∀ρ h,I ρ h→WP P n d ρ h K):WP P n (.seq c d) ρ h K:=
 WP.seq (hc.weaken fun e ρ h hk=>by
  cases e with
  |normal=>exact hd ρ h hk
  |_=>exact hk)
theorem WP.vc(hU:∀t,aP P U t)(hm:P.follows .mixedOrders=true){c:Code}{K:Exit→Env→Heap→Prop}(hk:bE P U n c ρ h K):WP P n c ρ h K:=dF hU hm c ρ h K hk
def KNext(P:Program)(n:Nat)(d:Code)(K:Exit→Env→Heap→Prop):Exit→Env→Heap→Prop:=KSeq (WP P n d · · K) K
@[go_sem↓] theorem Nh(d:Code)(K:Exit→Env→Heap→Prop):KNext P n d K .normal ρ h=WP P n d ρ h K:=rfl
@[go_sem↓] theorem Sq(d:Code)(K:Exit→Env→Heap→Prop):KNext P n d K .ret ρ h=K .ret ρ h:=rfl
@[go_sem↓] theorem Qk(d:Code)(K:Exit→Env→Heap→Prop)(i:Nat):KNext P n d K (.goto i) ρ h=K (.goto i) ρ h:=rfl
theorem WP.one(hU:∀t,aP P U t)(hm:P.follows .mixedOrders=true){c d:Code}{K:Exit→Env→Heap→Prop}(hk:bE P U n c ρ h (KNext P n d K)):WP P n (.seq c d) ρ h K:=WP.seq (dF hU hm c ρ h _ hk)
end
section
variable {P : Program} {U : TypeId → TI} {n : Nat} {ρ : Env} {h : Heap}
variable {d : Option Tmp} {t : TypeId} {p : String} {a : Array Edge} {g : Option (Nat × Bool)} {Q : AV → Heap → Prop} {k : AV → Prop}
@[go_sem] theorem Vr(x y:TypeId)(k:TK→Prop):atK (.map x y) k=k (.map x y):=rfl
@[go_sem] theorem TL(i:Nat):AV.cells (.mp i)= [.mp i]:=rfl
@[go_sem] theorem WT(i m:Nat):fit (.mp i) m=(m=1):=rfl
@[go_sem] theorem V1(l:List UInt8):gx .str (.s l)=(l.length≤maxLen):=rfl
def mpL(b:Blk)(f:List (AV×AV)→Prop):Prop:=match b with
 |.mp m=>f m
 |_=>False
@[congr] theorem S3{b b' :Blk}{f:List (AV×AV)→Prop}(e:b=b'):mpL b f=mpL b' f:=by rw[e]
@[go_sem↓] theorem W5(m:List (AV×AV))(f:List (AV×AV)→Prop):mpL (.mp m) f=f m:=rfl
def Al(tk:TK)(m:List (AV×AV)):Prop:=∀p∈m,gx tk p.1
def Km(ti:TI):Prop:=ti.sz≠0∨ti.k= .strct []
def DD(U:TypeId→TI)(h:Heap)(u v:AV)(ok:Bool)(k:AV→Prop)(tk:TK):Prop:=match tk,u with
 |.map kt e,.mp id=>gx (U kt).k v∧Km (U e)∧aD (h id) fun b=>mpL b fun m=>Al (U kt).k m∧k (yG U e m v ok)
 |_,_=>False
@[congr] theorem PI{u u' v v' :AV}{ok:Bool}{k:AV→Prop}{tk:TK}(h1:u=u')(h2:v=v'):DD U h u v ok k tk=DD U h u' v' ok k tk:=by grind
@[go_sem↓] theorem Ut(kt e:TypeId)(id:Nat)(v:AV)(ok:Bool):DD U h (.mp id) v ok k (.map kt e)=(gx (U kt).k v∧Km (U e)∧aD (h id) fun b=>mpL b fun m=>Al (U kt).k m∧k (yG U e m v ok)):=rfl
@[go_sem↓] theorem UE(mt:TypeId)(x y:Operand)(ok:Bool):aZ P U ρ h ⟨d,.lookup mt x y ok,t,p,a,g⟩ Q=aD (ev ρ x) fun u=>aD (ev ρ y) fun v=>atK (U mt).k (DD U h u v ok (atH Q h)):=by
 simp only[aZ,pv,bT,atK]
 congr 1
 funext u
 congr 1
 funext v
 cases (U mt).k with
 |map kt e=>
  cases u with
  |mp id=>
   simp only[DD]
   congr 2
   exact agT
  |_=>rfl
 |_=>rfl
def Mb(U:TypeId→TI)(h:Heap)(u v w:AV)(Q:AV→Heap→Prop)(tk:TK):Prop:=match tk,u with
 |.map kt e,.mp id=>gx (U kt).k v∧aD (h id) fun b=>mpL b fun m=>Al (U kt).k m∧Q (.v undef) (upd h id (some (.mp (z6 m v w))))
 |_,_=>False
@[congr] theorem RI{u u' v v' w w' :AV}{tk:TK}(h1:u=u')(h2:v=v')(h3:w=w'):Mb U h u v w Q tk=Mb U h u' v' w' Q tk:=by grind
@[go_sem↓] theorem Wg(kt e:TypeId)(id:Nat)(v w:AV):Mb U h (.mp id) v w Q (.map kt e)=(gx (U kt).k v∧aD (h id) fun b=>mpL b fun m=>Al (U kt).k m∧Q (.v undef) (upd h id (some (.mp (z6 m v w))))):=rfl
@[go_sem↓] theorem PR(mt:TypeId)(x y z:Operand):aZ P U ρ h ⟨d,.mapUpdate mt x y z,t,p,a,g⟩ Q=aD (ev ρ x) fun u=>aD (ev ρ y) fun v=>aD (ev ρ z) fun w=>atK (U mt).k (Mb U h u v w Q):=by
 simp only[aZ,bT,atK]
 congr 1
 funext u
 congr 1
 funext v
 congr 1
 funext w
 cases (U mt).k with
 |map kt e=>
  cases u with
  |mp id=>
   simp only[Mb]
   congr 1
   exact agT
  |_=>rfl
 |_=>rfl
def Tu(h:Heap)(Q:AV→Heap→Prop):Prop:=∀id,h id=none→Q (.mp id) (upd h id (some (.mp [])))
@[go_sem↓] theorem Te(mt:TypeId):aZ P U ρ h ⟨d,.makeMap mt none,t,p,a,g⟩ Q=Tu h Q:=by
 simp only[aZ,HO,true_and];rfl
end
def zZ(ls:List (List UInt8)):List (AV×AV):=ls.map fun l=>(.s l,.agg [])
theorem Db(ls:List (List UInt8))(l:List UInt8):getM (zZ ls) (.s l)=if l∈ls then some (.agg [])else none:=by
 induction ls with
 |nil=>rfl
 |cons x ls ih=>
  simp only[getM,zZ,List.map_cons,List.find?_cons,so]at ih⊢
  grind
theorem Mw{ls:List (List UInt8)}{l:List UInt8}(hn:l∉ls):z6 (zZ ls) (.s l) (.agg [])=zZ (ls++ [l]):=by
 unfold z6;rw[Db,if_neg hn];simp[zZ]
theorem Jm(U:TypeId→TI)(e:TypeId)(he:(U e).sz=0)(ls:List (List UInt8))(l:List UInt8):yG U e (zZ ls) (.s l) true= .tup [.agg [],.b (decide (l∈ls))]:=by
 simp only[yG,Db,lE,he,if_true]
 grind
theorem Jj{ls:List (List UInt8)}(h:∀l∈ls,l.length≤maxLen):Al .str (zZ ls):=fun p hp=>by
 obtain⟨l,hl,rfl⟩:=List.mem_map.1 hp;exact h l hl
section
variable {P : Program} {f : FuncId} {args : List AV} {h h' : Heap} {Q : AV → Heap → Prop}
theorem Ext.below{c:Cx}{w' :World}(hb:Go.RowKit.Below c.w.heap.size c.w w'):Ext c {c with w:=w'} where
 os:=hb.os
 tape:=hb.tape
 output:=hb.output
 size:=hb.size
 block:=fun b h _=>hb.block b h
 cell:=fun b o h _=>by
  simp only[World.cell?,hb.block b h]
 shape:=fun b cs t fr h=>⟨cs,fr,(hb.block b (cP h)).trans h,rfl⟩
 steal:=fun _ _ _ h=>h
 obj:=fun _ cs _ h=>⟨rfl,cs,h,rfl⟩
 spare:=fun _ n _ h=>⟨n,h,.inl ⟨rfl,rfl⟩⟩
 mp:=fun _ m h=>⟨rfl,m,h⟩
 ro:=fun _ _ _ h=>⟨rfl,h⟩
theorem Good.below{c:Cx}(g:Good c){w' :World}(hb:Go.RowKit.Below c.w.heap.size c.w w'):Good {c with w:=w'} where
 fin:=g.fin
 inj:=g.inj
 obj:=fun id cs t h=>by
  obtain⟨vs,a1,a2,a3⟩:=g.obj id cs t h;exact⟨vs,(hb.block _ (cP a1)).trans a1,a2,fun j hj=>⟨(a3 j hj).1.mono (.below hb),(a3 j hj).2⟩⟩
 spare:=fun id n sz h=>by
  obtain⟨a0,vs,t,fr,a1,a2⟩:=g.spare id n sz h;exact⟨a0,vs,t,fr,(hb.block _ (cP a1)).trans a1,a2⟩
 mp:=fun id m h=>by
  obtain⟨es,cl,a1,a2,a3⟩:=g.mp id m h;exact⟨es,cl,(hb.block _ (cP a1)).trans a1,a2,fun i hi hi' =>⟨(a3 i hi hi').1,(a3 i hi hi').2.mono (.below hb)⟩⟩
 keys:=g.keys
 ro:=fun id b vs h=>g.nD (.below hb) h
theorem ai.lib{X:AV}(hc:callable P f)(hf:∀c (vs:Array Value),Sub h c.h→Good c→vs.size=args.length→(∀i (hi:i<args.length),Rep c args[i] (vs.getD i undef))→
  Calls P f vs c.w fun e w' =>(∃u,e= .returned u∧∀c',Ext c c'→Rep c' X u)∧Go.RowKit.Below c.w.heap.size c.w w'):ai P f args h fun r h' =>r=X∧h' =h:=by
 refine fun c vs hs g h1 h2=> .inl ⟨hc,(hf c vs hs g h1 h2).mono ?_⟩
 rintro e w' ⟨⟨u,rfl,hu⟩,hb⟩
 exact⟨u,rfl,{c with w:=w'},X,h,rfl,g.below hb,.below hb,hu _ (.below hb),hs,rfl,rfl⟩
def Tab(h:Heap)(b:Nat)(vs:List Value):Prop:=∃id,h id=some (.ro b vs)
theorem Tab.sub{b:Nat}{vs:List Value}(ht:Tab h b vs)(hs:Sub h h'):Tab h' b vs:=let ⟨id,hi⟩:=ht;⟨id,hs _ _ hi⟩
theorem Tab.var{b:Nat}{vs:List Value}{name:String}(ht:Tab h b vs)(hn:P.globalNamed name=some b){c:Cx}(hs:Sub h c.h)(g:Good c):c.w.var? P name=some vs.toArray:=by
 obtain⟨id,hi⟩:=ht;obtain⟨_,t,fr,h2⟩:=g.ro id b vs (hs _ _ hi)
 grind [World.var?]
end
def xb(ts:List (Nat×List Value)):Heap:=fun i=>(ts[i]?).map fun p=> .ro p.1 p.2
def cxT(w:World)(ts:List (Nat×List Value)):Cx:=⟨w,fun i=>⟨((ts[i]?).map (·.1)).getD 0,0,none⟩,xb ts⟩
theorem L3(w:World)(ts:List (Nat×List Value))(b o:Nat):¬owned (cxT w ts) b o:=by
 rintro⟨id,k,h,_,h3⟩
 simp only[cxT,xb,Option.map_eq_some_iff]at h;obtain⟨p,_,rfl⟩:=h;exact h3
theorem Ui(w:World)(ts:List (Nat×List Value))(hd:ts.Pairwise fun p q=>p.1≠q.1)(ht:∀p∈ts,∃(t:TypeId) (fr:Nat×Nat),w.heap[p.1]? =some (.cells p.2.toArray t fr)):Good (cxT w ts) where
 fin:=⟨ts.length,fun id h=>by simp[cxT,xb,List.getElem?_eq_none h]⟩
 inj:=fun i j k l h1 h2 hne=>by
  simp only[cxT,xb,Option.map_eq_some_iff]at h1 h2;obtain⟨p,hp,rfl⟩:=h1;obtain⟨q,hq,rfl⟩:=h2;simp only[cxT,hp,hq,Option.map_some,Option.getD_some];obtain⟨hi,rfl⟩:=List.getElem?_eq_some_iff.1 hp
  grind [List.pairwise_iff_getElem,Nat.lt_or_gt_of_ne]
 obj:=fun id cs t h=>by
  simp_all [cxT,xb,Option.map_eq_some_iff]
 spare:=fun id n sz h=>by
  simp_all [cxT,xb,Option.map_eq_some_iff]
 mp:=fun id m h=>by
  simp_all [cxT,xb,Option.map_eq_some_iff]
 keys:=fun id m h=>by
  simp_all [cxT,xb,Option.map_eq_some_iff]
 ro:=fun id b vs h=>by
  simp only[cxT,xb,Option.map_eq_some_iff]at h;obtain⟨p,hp,h⟩:=h;cases h;refine⟨by grind [cxT],ht p acv⟩
theorem ai.QF{P:Program}{f:FuncId}{args:List AV}{b:Value}{vs:Array Value}{w:World}{ts:List (Nat×List Value)}(hc:callable P f)(hf:ai P f args (xb ts) fun r _=>r= .v b)(hd:ts.Pairwise fun p q=>p.1≠q.1)
  (ht:∀p∈ts,∃(t:TypeId) (fr:Nat×Nat),w.heap[p.1]? =some (.cells p.2.toArray t fr)) (hv:vs.size=args.length) (hr:∀i (hi:i<args.length),Rep (cx0 w) args[i] (vs.getD i undef)):
  Calls P f vs w fun e w' =>e= .returned b∧Go.RowKit.Below w.heap.size w w' :=by
 have hE:Ext (cx0 w) (cxT w ts):=⟨rfl,rfl,rfl,Nat.le_refl _,fun _ _ _=>rfl,fun _ _ _ _=>rfl,fun _ cs _ fr h=>⟨cs,fr,h,rfl⟩,fun b o _ h=>(L3 w ts b o h).elim,
  fun _ _ _ h=>adD,fun _ _ _ h=>adD,fun _ _ h=>adD,fun _ _ _ h=>adD⟩
 refine((hf (cxT w ts) vs (fun _ _ h=>h) (Ui w ts hd ht) hv fun i hi=>(hr i hi).mono hE).calls hc).mono ?_
 rintro e w' ⟨u,rfl,c',x,h',rfl,g',hE,hx,hs,rfl⟩
 rw[hx.bO];exact⟨rfl,hE.os,hE.tape,hE.output,hE.size,fun k hk=>hE.block k hk fun o=>L3 w ts k o⟩
mutual
def strip:AV→AV
 |.sl xs _=> .sl (fQ xs) .no
 |.agg xs=> .agg (fQ xs)
 |.tup xs=> .tup (fQ xs)
 |.v x=> .v x
 |.s l=> .s l
 |.pe x o=> .pe x o
 |.ptr i o=> .ptr i o
 |.oa i o l=> .oa i o l
 |.ifc t x=> .ifc t x
 |.fn f c=> .fn f c
 |.mp i=> .mp i
 |.ob i o l c s=> .ob i o l c s
def fQ:List AV→List AV
 | []=>[]
 |x::r=>strip x::fQ r
end
theorem fh:∀xs:List AV,(fQ xs).length=xs.length
 | []=>rfl
 |x::r=>by simp[fQ,fh r]
theorem gv:∀(xs:List AV) (i:Nat) (h1:i<xs.length) (h2:i<(fQ xs).length),(fQ xs)[i]=strip xs[i]
 |x::r,0,h1,h2=>acK
 |x::r,i+1,h1,h2=>by simpa[fQ]using gv r i acv (by grind [fQ])
theorem wI(x:AV):(strip x).cells=match x with|.agg xs=>fQ xs|_=>[strip x]:=by
 cases x<;>simp[strip,AV.cells]
mutual
theorem fy:∀x:AV,Weak x (strip x)
 |.sl xs p=> .deep _ _ p (fh xs).symm (fun i h1 h2=>by
    rw[gv xs i h1 h2,wI];have:=nF xs i h1;cases hx:xs[i]<;>simp[AV.cells,fh])
   (fun i h1 h2 j h3 h4=>by
    have hw:=nF xs i h1;have e:=gv xs i h1 h2;exact hw (fQ xs)[i] e j h3 h4)
 |.agg xs=> .agg _ _ (fh xs).symm fun i h1 h2=>ae3
 |.tup xs=> .tup _ _ (fh xs).symm fun i h1 h2=>ae3
 |.v x=> .refl _
 |.s l=> .refl _
 |.pe x o=> .refl _
 |.ptr i o=> .refl _
 |.oa i o l=> .refl _
 |.ifc t x=> .refl _
 |.fn f c=> .refl _
 |.mp i=> .refl _
 |.ob i o l c s=> .refl _
theorem lD:∀(xs:List AV) (i:Nat) (h:i<xs.length),Weak xs[i] (strip xs[i])
 |x::r,0,h=>fy x
 |x::r,i+1,h=>lD r i (by simpa using h)
theorem nF:∀(xs:List AV) (i:Nat) (h:i<xs.length) (y:AV),y=strip xs[i]→∀(j:Nat) (h3:j<xs[i].cells.length) (h4:j<y.cells.length),Weak xs[i].cells[j] y.cells[j]
 |x::r,0,h,y,e,j,h3,h4=>Gw x y e j h3 h4
 |x::r,i+1,h,y,e,j,h3,h4=>nF r i (by simpa using h) y e j h3 h4
theorem Gw:∀(x y:AV),y=strip x→∀(j:Nat) (h3:j<x.cells.length) (h4:j<y.cells.length),Weak x.cells[j] y.cells[j]
 |.agg xs,y,e,j,h3,h4=>by
  subst e;simp only[strip,AV.cells]at h4⊢;rw[gv xs j h3 h4];exact lD xs j h3
 |.sl xs p,y,e,j,h3,h4=>by
  subst e;simp only[strip,AV.cells,List.length_singleton]at h3 h4⊢;obtain rfl:j=0:=acu;exact .deep _ _ p (fh xs).symm (fun i h1 h2=>by
    rw[gv xs i h1 h2,wI];cases hx:xs[i]<;>simp[AV.cells,fh])
   (fun i h1 h2 j h3 h4=>nF xs i h1 _ (gv xs i h1 h2) j h3 h4)
 |.tup xs,y,e,j,h3,h4=>by
  subst e;simp only[strip,AV.cells,List.length_singleton]at h3 h4⊢;obtain rfl:j=0:=acu;exact .tup _ _ (fh xs).symm fun i h1 h2=>ae3
 |.v x,y,e,j,h3,h4=>adH
 |.s l,y,e,j,h3,h4=>adH
 |.pe x o,y,e,j,h3,h4=>adH
 |.ptr i o,y,e,j,h3,h4=>adH
 |.oa i o l,y,e,j,h3,h4=>adH
 |.ifc t x,y,e,j,h3,h4=>adH
 |.fn f c,y,e,j,h3,h4=>adH
 |.mp i,y,e,j,h3,h4=>adH
 |.ob i o l c s,y,e,j,h3,h4=>adH
end
section
variable {P : Program} {U : TypeId → TI} {n : Nat} {ρ : Env} {h0 h h' : Heap} {tb : TypeId} {y v : AV} {xs zs : List AV} {Q : AV → Heap → Prop} {f : FuncId} {args : List AV}
def One(xs:List AV):Prop:=∀x∈xs,bz x=false
theorem nY{x:AV}(h:bz x=false):x.cells= [x]:=by cases x<;>first|rfl|(cases h)
theorem One.sized(h:One xs):Sized 1 xs:=fun z hz=>by rw[nY (h z hz)];rfl
theorem One.map{α:Type}{g:α→AV}(hg:∀a,bz (g a)=false)(l:List α):One (l.map g):=fun x hx=>by
 grind
def ES(tb:TypeId)(h:Heap)(y:AV)(xs:List AV):Prop:=
 (∃q,y= .sl xs q)∨∃id off cs,y= .oa id off xs.length∧h id=some (.obj cs tb)∧off+xs.length≤cs.length∧(cs.drop off).take xs.length=xs
theorem ES.sl(xs:List AV)(q:Perm):ES tb h (.sl xs q) xs:=.inl ⟨q,rfl⟩
theorem ES.len(hb:ES tb h y xs)(e:TypeId)(k:AV→Prop):wV y k (.slice e)=k (.i xs.length):=by
 exact ahC
def AtP(U:TypeId→TI)(tb:TypeId)(h:Heap)(p x:AV):Prop:=∀k:AV→Prop,nv U h tb p k=k x
theorem ES.idx(hb:ES tb h y xs)(ho:One xs){m:Int}{x:IntKind}{K:AV→Prop}(j:Nat)(hm:m=j)(hj:j<xs.length)(hz:(U tb).sz=1)(ha:(U tb).k.agg=false)
  (hk:∀p,AtP U tb h p xs[j]→K p):oR U y (.v (.int x m)) K (.slice tb):=by
 subst hm;have h1:=ho xs[j] acD;rcases hb with⟨q,rfl⟩|⟨id,off,cs,rfl,g1,g2,g3⟩
 ·refine(uL ..).mpr ⟨acu,?_⟩
  refine fA.at j hj (by grind [nY]) ?_
  refine hk _ fun k=>?_
  simp_all [nv,Ku,nY,List.length_cons,List.length_nil,Nat.zero_add,and_self,if_true]
 ·refine(AH ..).mpr ⟨acu,acu,acu,?_⟩
  refine hk _ fun k=>?_
  have e1:cs[off+j]? =some xs[j]:=by
   grind
  simp only[nv,g1,cZ,Cb,hz,Nat.mul_one,Int.toNat_natCast,DW,ha,Br,e1];simp
def WrA(tb:TypeId)(h0 h:Heap)(y:AV)(xs:List AV):Prop:=
 Sub h0 h∧((xs= []∧y= .sl [] .full)∨∃id cs,h0 id=none∧y= .oa id 0 xs.length∧h id=some (.obj cs tb)∧xs.length≤cs.length∧cs.take xs.length=xs)
theorem WrA.nil(hs:Sub h0 h):WrA tb h0 h (.sl [] .full) []:=⟨hs,.inl ⟨rfl,rfl⟩⟩
theorem WrA.seq(hw:WrA tb h0 h y xs):ES tb h y xs:=by
 obtain⟨_,⟨rfl,rfl⟩|⟨id,cs,_,rfl,h1,h2,h3⟩⟩:=hw
 ·exact afc
 ·exact .inr ⟨id,0,cs,rfl,h1,acu,acv⟩
theorem WrA.sub(hw:WrA tb h0 h y xs)(hs:Sub h h'):WrA tb h0 h' y xs:=by
 obtain⟨h1,hw|⟨id,cs,a,e,b,c,d⟩⟩:=hw
 ·exact⟨h1.trans hs,.inl hw⟩
 ·exact⟨h1.trans hs,.inr ⟨id,cs,a,e,hs _ _ b,c,d⟩⟩
theorem WrA.base(hw:WrA tb h0 h y xs){id:Nat}(hid:h id=none)(b:Option Blk):WrA tb (upd h0 id b) (upd h id b) y xs:=by
 obtain⟨h1,hw⟩:=hw;have h2:Sub (upd h0 id b) (upd h id b):=fun j k hj=>by
  by_cases e:j=id
  ·grind [ah]
  ·rw[ag _ _ e]at hj⊢;exact h1 _ _ hj
 rcases hw with hw|⟨i,cs,a,e,c,d⟩
 ·exact⟨h2,.inl hw⟩
 ·have hne:i≠id:=fun hh=>by subst hh;rw[hid]at c;cases c
  exact⟨h2,.inr ⟨i,cs,ac7,e,ac7,d⟩⟩
theorem WrA.less(hw:WrA tb h' h y xs)(hs:Sub h0 h'):WrA tb h0 h y xs:=by
 obtain⟨h1,hw|⟨i,cs,a,e,c,d⟩⟩:=hw
 ·exact⟨hs.trans h1,.inl hw⟩
 ·exact⟨hs.trans h1,.inr ⟨i,cs,hs.none a,e,c,d⟩⟩
theorem WrA.len(hw:WrA tb h0 h y xs)(e:TypeId)(k:AV→Prop):wV y k (.slice e)=k (.i xs.length):=hw.seq.len e k
theorem WrA.idx(hb:WrA tb h0 h y xs)(ho:One xs){m:Int}{x:IntKind}{K:AV→Prop}(j:Nat)(hm:m=j)(hj:j<xs.length)(hz:(U tb).sz=1)(ha:(U tb).k.agg=false)
  (hk:∀p,AtP U tb h p xs[j]→K p):oR U y (.v (.int x m)) K (.slice tb):=hb.seq.idx ho j hm hj hz ha hk
theorem WrA.cut(hw:WrA tb h0 h y xs){hi:Operand}{m:Int}{x:IntKind}{K:AV→Prop}(j:Nat)(hm:ev ρ hi=some (.v (.int x m)))(hj:m=j)(hl:j≤xs.length)(hz:(U tb).sz=1)
  (hk:∀z,WrA tb h0 h z (xs.take j)→K z):gI U ρ y none (some hi) none K (.slice tb):=by
 subst hj;have hs:=hw.1;obtain⟨_,⟨rfl,rfl⟩|⟨id,cs,h1,rfl,h2,h3,h4⟩⟩:=hw
 ·rw[qV,fH,hm]
  refine⟨acu,?_⟩;have:j=0:=acv;subst this;refine⟨acu,acD,?_⟩;exact hk _ (.nil hs)
 ·rw[rG]
  refine⟨acu,fun _=>hz,?_⟩
  simp only[mh,fH,hm,cZ,nj];refine⟨acu,acu,acu,?_⟩;have e:(xs.take j).length=j:=acv;have:=hk (.oa id 0 (xs.take j).length) ⟨hs,.inr ⟨id,cs,h1,rfl,h2,acu,acv⟩⟩;rw[e]at this;simpa using this
theorem WrA.app(hw:WrA tb h0 h y xs)(ho:One xs)(hoz:One zs)(hz:(U tb).sz=1)(hb:(U tb).bytes≠0)(hf:fit (U tb).zero 1)(hn:bz (U tb).zero=false)(hsrc:∀k:List AV→Prop,k zs→iA U tb h v k)
  (hlen:(xs.length+zs.length)*(U tb).bytes≤140737488355328) (hk:∀y' h',WrA tb h0 h' y' (xs++zs)→Q y' h'):apK U h y v Q (.slice tb):=by
 have hs:=hw.1;have one:Sized (U tb).sz zs:=by rw[hz];exact hoz.sized
 obtain⟨_,⟨rfl,rfl⟩|⟨id,cs,h1,rfl,h2,h3,h4⟩⟩:=hw
 ·refine(qb ..).mpr ⟨acu,hb,hsrc _ ⟨by simp[Sized],one,acu,fun hn' =>?_,fun hn' =>?_⟩⟩
  ·subst hn'
   exact hk _ _ (.nil hs)
  ·refine .oa hz hf hn hoz fun id k hid=>?_
   refine hk _ _ ⟨hs.new hid _,.inr ⟨id,_,hs.none hid,?_,ah ..,?_,?_⟩⟩
   ·simp
   ·simp
   ·simp
 ·refine⟨acu,hb,hz,hsrc _ ⟨acv,hoz,acu,?_⟩⟩
  rw[h2];refine⟨acu,?_,hf,hn,fun hle=>?_,fun id' k hid=>?_⟩
  ·rw[List.drop_zero,h4];exact ho
  ·have hsub:Sub h0 (upd h id (some (.obj (over cs (0+xs.length) zs) tb))):=fun j b hj=>by
    by_cases e:j=id
    ·grind
    ·rw[ag _ _ e];exact hs _ _ hj
   have ho' :(over cs (0+xs.length) zs).length=cs.length:=ij acu;refine hk _ _ ⟨hsub,.inr ⟨id,_,h1,acD,ah ..,acv,?_⟩⟩;rw[over,Nat.zero_add,h4,acn,List.take_append_of_le_length acD]
   grind
  ·refine hk _ _ ⟨hs.new hid _,.inr ⟨id',_,hs.none hid,acD,ah ..,?_,?_⟩⟩
   ·grind
   grind
end
end Go.Ab
namespace Go.Bf
open Go Go.Ab
abbrev Txt:=List UInt8
structure pV where
 cat:Int
 name:Txt
 must:Bool
structure bp where
 kind:Int
 n:Int
 s:Txt
structure bN where
 attr:pV
 op:Int
 val:bp
structure aN where
 op:Int
 val:bp
 attr:pV
structure cA where
 on:Int
 kind:Int
 arg:Txt
abbrev fW:=List (List (List bN))
structure cK where
 id:Txt
 deny:Bool
 tgt:fW
 cond:List aN
 obls:List cA
inductive bG where
 |mk (id:Txt) (set:Bool) (alg:Int) (tgt:fW) (rules:List cK) (kids:List bG) (obls:List cA)
def CH(a:pV):AV:=.agg [.i a.cat,.s a.name,.b a.must]
def aO(v:bp):AV:=.agg [.i v.kind,.i v.n,.s v.s]
def dI(m:bN):AV:=.agg [.i m.attr.cat,.s m.attr.name,.b m.attr.must,.i m.op,.i m.val.kind,.i m.val.n,.s m.val.s]
def dz(m:aN):AV:=.agg [.i m.op,.i m.val.kind,.i m.val.n,.s m.val.s,.i m.attr.cat,.s m.attr.name,.b m.attr.must]
def jG(b:Bool):AV:=.b b
def br(o:cA):AV:=.agg [.i o.on,.i o.kind,.s o.arg]
def iQ(l:List bN):AV:=.sl (l.map dI) .no
def cN(l:List (List bN)):AV:=.sl (l.map iQ) .no
def aU(t:fW):AV:=.sl (t.map cN) .no
def fm(l:List aN):AV:=.sl (l.map dz) .no
def az(l:List cA):AV:=.sl (l.map br) .no
def aB(r:cK):AV:=.agg [.s r.id,.b r.deny,aU r.tgt,fm r.cond,az r.obls]
mutual
def aL:bG→AV
 |.mk id set alg tgt rules kids obls=> .agg [.s id,.b set,.i alg,aU tgt,.sl (rules.map aB) .no,.sl (fD kids) .no,az obls]
def fD:List bG→List AV
 | []=>[]
 |k::r=>aL k::fD r
end
theorem aW:∀l:List bG,fD l=l.map aL
 | []=>rfl
 |k::r=>by simp[fD,aW r]
def ltr(c:UInt8):Bool:=decide (97≤(c.toNat:Int)) && decide ((c.toNat:Int)≤122)
def dgt(c:UInt8):Bool:=decide (48≤(c.toNat:Int)) && decide ((c.toNat:Int)≤57)
def sU(c:UInt8)(i:Nat):Bool:=ltr c||(decide (i≠0) && (dgt c||(c.toNat:Int)==95))
def vG(l:Txt):Bool:=l.zipIdx.all fun p=>sU p.1 p.2
def bh(l:Txt):Bool:=vG l && decide (1≤l.length) && decide (l.length≤16)
def qd(a:pV):Bool:=decide (1≤a.cat) && decide (a.cat≤4) && bh a.name
def bx(v:bp):Bool:=
 if v.kind=1 then(v.n==0||v.n==1) && v.s== []
 else if v.kind=2 then v.s== []
 else if v.kind=3 then v.n==0 && decide (v.s.length≤64)
 else if v.kind=4 then decide (0≤v.n) && decide (v.n≤1099511627776) && v.s== []
 else if v.kind=5 then v.n==0 && bh v.s
 else false
def kG(m:bN):Bool:=qd m.attr && decide (1≤m.op) && decide (m.op≤3) && bx m.val
def jZ(n:Nat):Int:=if n=0 then 1 else if n>8 then 6 else 0
def hY{α:Type}(f:α→Int):List α→Int
 | []=>0
 |x::r=>if f x=0 then hY f r else f x
def wP(l:List bN):Int:=if jZ l.length=0 then(if l.all kG then 0 else 1)else jZ l.length
def wQ(l:List (List bN)):Int:=if jZ l.length=0 then hY wP l else jZ l.length
def lu(t:fW):Int:=if t.length>8 then 6 else hY wQ t
def iC(op:Int):Option (List Bool):=
 if op=1∨op=2 then some []
 else if op=3∨op=4 then some [true]
 else if op=5 then some [true,false]
 else if op=11 then some [false]
 else if 6≤op∧op≤13 then some [false,false]
 else none
def zeroV(v:bp):Bool:=v.kind==0 && (v.n==0 && v.s== [])
def zeroAt(a:pV):Bool:=a.cat==0 && (a.name== [] && a.must==false)
def jH(n:aN):Bool:=
 if n.op=1 then bx n.val && zeroAt n.attr
 else if n.op=2 then qd n.attr && zeroV n.val
 else zeroV n.val && zeroAt n.attr
def iB(st:List Bool)(n:aN):Option (List Bool):=match iC n.op with
 |none=>none
 |some w=>if jH n=true∧w.length≤st.length∧st.drop (st.length - w.length)=w then some (st.take (st.length - w.length)++ [n.op==2])else none
def fP(st:List Bool):List aN→Option (List Bool)
 | []=>some st
 |n::r=>match iB st n with
  |none=>none
  |some st' =>fP st' r
def jY(l:List aN):Int:=if l.length>32 then 6 else match fP [] l with
 |none=>1
 |some st=>if l= []∨st= [false]then 0 else 1
def qK(o:cA):Bool:=decide (1≤o.on) && decide (o.on≤2) && decide (1≤o.kind) && decide (o.kind≤4) && bh o.arg
def ie(l:List cA):Int:=if l.length>8 then 6 else if l.all qK then 0 else 1
structure dX where
 met:List Txt
 rules:Nat
inductive Went where
 |bad (e:Int)
 |ok (m:dX)
def ja(m:dX)(s:Txt):Option dX:=if s∉m.met∧bh s=true then some ⟨m.met++ [s],m.rules⟩else none
def Went.err:Went→Int
 |.bad e=>e
 |.ok _=>0
def need(e:Int)(w:Went):Went:=if e=0 then w else .bad e
def gm(m:dX)(r:cK):Went:=match ja m r.id with
 |none=> .bad 1
 |some m=>if m.rules+1>64 then .bad 6 else need (lu r.tgt) (need (jY r.cond) (need (ie r.obls) (.ok ⟨m.met,m.rules+1⟩)))
def fq(m:dX):List cK→Went
 | []=> .ok m
 |r::l=>match gm m r with
  |.bad e=> .bad e
  |.ok m=>fq m l
def fc(m:dX)(id:Txt)(set:Bool)(alg:Int)(tgt:fW)(nr nk:Nat)(obls:List cA):Went:=match ja m id with
 |none=> .bad 1
 |some m=>if alg<1∨alg>6 then .bad 1
  else if set=true∧nr>0∨set=false∧(nk>0∨alg=4)then .bad 1
  else need (lu tgt) (need (ie obls) (if nr>16∨nk>16 then .bad 6 else .ok m))
mutual
def kj(m:dX)(d:Nat):bG→Went
 |.mk id set alg tgt rules kids obls=>
  if d>4 then .bad 6 else match fc m id set alg tgt rules.length kids.length obls with
  |.bad e=> .bad e
  |.ok m=>match fq m rules with
   |.bad e=> .bad e
   |.ok m=>iN m (d+1) kids
def iN(m:dX)(d:Nat):List bG→Went
 | []=> .ok m
 |k::r=>match kj m d k with
  |.bad e=> .bad e
  |.ok m=>iN m d r
end
def gu(p:bG):Int:=(kj ⟨[],0⟩ 1 p).err
def FE(n:Nat):UInt8:=if n<10 then UInt8.ofNat (48+n)else UInt8.ofNat (87+n)
def tG(c:UInt8):Bool:=decide ((c.toNat:Int)<32)||decide (126<(c.toNat:Int))||(c.toNat:Int)==34||(c.toNat:Int)==92
def nO(c:UInt8):Txt:=if tG c then [92,FE (c.toNat / 16),FE (c.toNat % 16)]else [c]
def nP(l:Txt):Txt:=[34]++(l.map nO).flatten++ [34]
def jW(v:bp):Txt:=
 if v.kind=1 then Lib.formatBool (v.n==1)else if v.kind=4 then [64]++Lib.itoa v.n else if v.kind=5 then [35]++v.s else if v.kind=3 then nP v.s else Lib.itoa v.n
end Go.Bf
namespace Go.Ab
open Go
def hm2(i:Nat)(a:Blk)(j:Nat)(b:Blk):Heap:=upd (hm1 i a) j (some b)
theorem Sub.hm2{h:Heap}{i j:Nat}{a b:Blk}(h1:h i=some a)(h2:h j=some b):Sub (hm2 i a j b) h:=fun k c hk=>by
 unfold Ab.hm2 at hk
 by_cases e:k=j
 ·grind [ah]
 ·rw[ag _ _ e]at hk;exact Sub.hm1 h1 k c hk
theorem rz(i:Nat)(a:Blk)(j:Nat)(b:Blk):hm2 i a j b j=some b:=ah ..
theorem ry{i:Nat}(a:Blk){j:Nat}(b:Blk)(h:i≠j):hm2 i a j b i=some a:=by
 simp_all [hm2,ag,fY]
theorem aF{h:Heap}{i j:Nat}{b:Blk}(e:upd h i (some b) j=none):j≠i:=fun hh=>by
 subst hh;rw[ah]at e;cases e
theorem Sub.put{h g:Heap}(hs:Sub h g){i:Nat}(hi:h i=Option.none)(x:Option Blk):Sub h (Ab.upd g i x):=fun k c hk=>by
 by_cases e:k=i
 ·grind
 ·rw[ag _ _ e];exact hs k c hk
theorem Sub.both{h g:Heap}(hs:Sub h g)(i:Nat)(x:Option Blk):Sub (Ab.upd h i x) (Ab.upd g i x):=fun k c hk=>by
 by_cases e:k=i
 ·grind [ah]
 ·rw[ag _ _ e]at hk⊢;exact hs k c hk
theorem Acc.put{U:TypeId→TI}{e:TypeId}{h h' :Heap}{y:AV}{xs:List AV}(ha:Acc U e h h' y xs){id:Nat}(hid:h id=Option.none){cs:List AV}{t:TypeId}(hob:h' id=some (.obj cs t))(x:Option Blk):Acc U e h (Ab.upd h' id x) y xs:=by
 obtain⟨h1,rfl|⟨k,i1,rfl,i2⟩⟩:=ha
 ·exact⟨h1.put hid x,.inl rfl⟩
 ·refine⟨h1.put hid x,.inr ⟨k,i1,rfl,?_⟩⟩
  grind [ag]
theorem base_start(G:Heap)(id:Nat)(x:Option Blk):Sub (upd G id Option.none) (upd G id x):=fun k c hk=>by
 grind [ah,ag]
theorem fl{G H:Heap}{id:Nat}{b:Blk}(hs:Sub (upd G id Option.none) H)(hb:H id=some b):Sub (upd G id (some b)) H:=fun k c hk=>by
 by_cases e:k=id
 ·grind [ah]
 ·rw[ag _ _ e]at hk;exact hs k c ac7
theorem Bp(xs:List AV)(q:Perm)(a b:AV):Weak (.tup [.sl xs q,a,b]) (.tup [.sl xs .no,a,b]):=.tup _ _ rfl fun i h1 h2=>by
 rcases i with _|_|_|i
 ·exact afc
 ·exact adQ
 ·exact adQ
 grind
theorem WP.Mu{P:Program}{U:TypeId→TI}{n:Nat}(hU:∀t,aP P U t)(hm:P.follows .mixedOrders=true){c rest:Code}{ρ:Env}{h:Heap}{K:Exit→Env→Heap→Prop}(l:Nat)(J:Nat→Env→Heap→Prop)(hf:findLabel c l=some (.seq .skip rest))
  (pass:∀m ρ h,J m ρ h→WP P n rest ρ h (KJump l (fun ρ' h' =>∃m',m' <m∧J m' ρ' h') K))
  (first:(∀m ρ h,J m ρ h→WP P n rest ρ h (KJump l (fun ρ h=>∃m,J m ρ h) K))→WP P n c ρ h (KJump l (fun ρ h=>∃m,J m ρ h) K)):WP P n (.scope c) ρ h K:=
 WP.scope l J hf (first fun m ρ h hJ=>(pass m ρ h hJ).weaken fun e ρ h hk=>by
  cases e with
  |goto l' =>obtain⟨h1,m',_,h2⟩:=hk;exact⟨h1,m',h2⟩
  |_=>exact hk) fun m ρ h hJ=>WP.seq (dF hU hm .skip ρ h _ (pass m ρ h hJ))
end Go.Ab
namespace Go.Ab
attribute [go_sem] Int.natCast_zero Int.ofNat_zero Int.natCast_one Int.cast_ofNat_Int bne_self_eq_false beq_self_eq_true Bool.not_true Bool.not_false
attribute [go_sem] Nat.reduceLT Nat.reduceEqDiff Nat.reduceAdd Nat.reduceLeDiff Nat.reduceMul Nat.reduceSub Int.reduceBEq Int.reduceBNe
attribute [go_sem ↓] reduceIte
end Go.Ab
namespace Go.Proofs.YtcochaoekecfdaaGreatDoor
open Go
def yX:List Value:=Lib.pow10Tab.map fun z=>Value.int .u64 z
end Go.Proofs.YtcochaoekecfdaaGreatDoor
namespace Go.Proofs.YtcochaoekecfdaaGreatDoor
open Go Go.Ab Go.Bf
abbrev Cw(h:Heap):Prop:=Tab h 3 yX
theorem nq(n:Int)(h:Heap)(hn: -9223372036854775808≤n∧n≤9223372036854775807)(ht:Cw h):ai Tryz.prog 151 [.i n] h fun r h' =>r= .s (Lib.itoa n)∧h' =h:=by
 refine .lib ⟨_,Tryz.func151,acw,rfl⟩ fun c vs hs g h1 h2=>?_
 obtain ⟨v,rfl⟩:∃v,vs= #[v]:=Array.size_eq_one_iff.1 h1;have e:v= .int .i64 n:=(h2 0 acD).bO;subst e;have hv := ht.var (P := Tryz.prog) (name := "internal/strconv.uint64pow10") acw hs g;refine (Tryz.strconv_Itoa n hn.1 hn.2 c.w (by unfold Lib.TabIs; rw [hv]; rfl)).mono ?_
 rintro e w' ⟨rfl,k,os,rfl⟩
 refine⟨⟨_,rfl,fun c' _=> .s _ ?_⟩,rfl,rfl,rfl,?_,fun k hk=>?_⟩
 ·have:=Lib.itoa_length_le n hn.1 hn.2
  have:(21:Nat)<lim:=acz;omega
 ·show _≤(_++os).size
  rw[Array.size_append];exact Nat.le_add_right _ _
 ·show(_++os)[k]? =_
  rw[Array.getElem?_append,if_pos (show k<(c.w.drewN _).heap.size from hk)]
  rfl
theorem K6(b:Bool)(h:Heap):ai Tryz.prog 155 [.b b] h fun r h' =>r= .s (Lib.formatBool b)∧h' =h:=by
 refine .lib ⟨_,Tryz.func155,acw,rfl⟩ fun c vs hs g h1 h2=>?_
 obtain⟨v,rfl⟩:∃v,vs= #[v]:=Array.size_eq_one_iff.1 h1;have e:v= .bool b:=(h2 0 acD).bO;subst e;refine(Tryz.strconv_FormatBool b c.w).mono ?_
 rintro e w' ⟨rfl,rfl⟩
 exact⟨⟨_,rfl,fun c' _=> .s _ (by cases b<;>decide)⟩,.refl _ _⟩
end Go.Proofs.YtcochaoekecfdaaGreatDoor
namespace Go.Bf
open Go Go.Ab
theorem vw{α:Type}(l:List α)(i:Nat)(h:i<l.length):(l.take (i+1)).zipIdx=(l.take i).zipIdx++ [(l[i],i)]:=by
 grind [List.take_succ_eq_append_getElem,Nat.min_eq_left,Nat.le_of_lt]
theorem E0(l:Txt)(i:Nat)(h:i<l.length):vG (l.take (i+1))=(vG (l.take i) && sU l[i] i):=by
 grind [vG,vw]
theorem It(l:Txt)(i:Nat)(h:i<l.length)(hb:sU l[i] i=false):vG l=false:=by
 rw[vG,List.all_eq_false];exact⟨(l[i],i),acv,acv⟩
theorem Nz(c:UInt8):
  (decide (97≤(c.toNat:Int))=true∧decide ((c.toNat:Int)≤122)=true∧decide (48≤(c.toNat:Int))=true∧decide ((c.toNat:Int)≤57)=false∧((c.toNat:Int)==95)=false)∨
  (decide (97≤(c.toNat:Int))=false∧decide ((c.toNat:Int)≤122)=true∧decide (48≤(c.toNat:Int))=true∧decide ((c.toNat:Int)≤57)=true∧((c.toNat:Int)==95)=false)∨
  (decide (97≤(c.toNat:Int))=false∧decide ((c.toNat:Int)≤122)=true∧decide (48≤(c.toNat:Int))=true∧decide ((c.toNat:Int)≤57)=false∧((c.toNat:Int)==95)=true)∨
  (decide (97≤(c.toNat:Int))=false∧decide ((c.toNat:Int)≤122)=true∧decide (48≤(c.toNat:Int))=false∧decide ((c.toNat:Int)≤57)=true∧((c.toNat:Int)==95)=false)∨
  (decide (97≤(c.toNat:Int))=false∧decide ((c.toNat:Int)≤122)=true∧decide (48≤(c.toNat:Int))=true∧decide ((c.toNat:Int)≤57)=false∧((c.toNat:Int)==95)=false)∨
  (decide (97≤(c.toNat:Int))=true∧decide ((c.toNat:Int)≤122)=false∧decide (48≤(c.toNat:Int))=true∧decide ((c.toNat:Int)≤57)=false∧((c.toNat:Int)==95)=false):=by
 simp only[decide_eq_true_eq,decide_eq_false_iff_not,beq_iff_eq,beq_eq_false_iff_ne,ne_eq];omega
theorem vO{α:Type}{f:α→Int}{l:List α}{i:Nat}(h:i<l.length)(h0:hY f (l.take i)=0)(h1:f l[i]=0):hY f (l.take (i+1))=0:=by
 rw[List.take_succ_eq_append_getElem h];generalize l.take i=a at h0
 induction a with
 |nil=>grind [hY]
 |cons x r ih=>
  simp only[hY]at h0;split at h0
  ·simp_all [List.cons_append,hY,if_true]
  omega
theorem AE{α:Type}{f:α→Int}{l:List α}{i:Nat}(h:i<l.length)(h0:hY f (l.take i)=0)(h1:f l[i]≠0):hY f l=f l[i]:=by
 induction l generalizing i with
 |nil=>cases h
 |cons x r ih=>
  cases i with
  |zero=>grind [hY]
  |succ i=>
   simp only[List.take_succ_cons,hY]at h0;split at h0
   ·rename_i hx
    simp only[hY,hx,if_true,List.getElem_cons_succ]
    grind
   omega
theorem DI{e x:Int}{w:Went}(h:need e w= .bad x)(hw:w= .bad x→x≠0):x≠0:=by
 grind [need]
theorem Bb{m:dX}{r:cK}{e:Int}(h:gm m r= .bad e):e≠0:=by
 grind [gm,DI]
theorem AG{m:dX}{id:Txt}{set:Bool}{alg:Int}{tgt:fW}{nr nk:Nat}{obls:List cA}{e:Int}(h:fc m id set alg tgt nr nk obls= .bad e):e≠0:=by
 grind [fc,DI]
theorem pq(m:dX):∀(l:List cK) (i:Nat),fq m l=(match fq m (l.take i)with
  |.bad e=> .bad e
  |.ok m1=>fq m1 (l.drop i))
 | [],i=>by simp[fq]
 |r::l,0=>acK
 |r::l,i+1=>by
  simp only[List.take_succ_cons,List.drop_succ_cons,fq];cases gm m r with
  |bad e=>rfl
  |ok m1=>simp only;exact pq m1 l i
theorem wF{m m1:dX}{l:List cK}{i:Nat}(hi:i<l.length)(h:fq m (l.take i)= .ok m1):fq m (l.take (i+1))=gm m1 l[i]:=by
 rw[pq m _ i,List.take_take,Nat.min_eq_left acu,h,List.take_succ_eq_append_getElem hi,List.drop_append_of_le_length acv,List.drop_of_length_le acv]
 grind [fq,gm]
theorem Ej{m m1:dX}{l:List cK}{i:Nat}{e:Int}(hi:i<l.length)(h:fq m (l.take i)= .ok m1)(hr:gm m1 l[i]= .bad e):fq m l= .bad e:=by
 rw[pq m l (i+1),wF hi h,hr]
theorem qE(m:dX)(d:Nat):∀(l:List bG) (i:Nat),iN m d l=(match iN m d (l.take i)with
  |.bad e=> .bad e
  |.ok m1=>iN m1 d (l.drop i))
 | [],i=>by simp[iN]
 |r::l,0=>acK
 |r::l,i+1=>by
  simp only[List.take_succ_cons,List.drop_succ_cons,iN];cases kj m d r with
  |bad e=>rfl
  |ok m1=>simp only;exact qE m1 d l i
theorem yw{m m1:dX}{d:Nat}{l:List bG}{i:Nat}(hi:i<l.length)(h:iN m d (l.take i)= .ok m1):iN m d (l.take (i+1))=kj m1 d l[i]:=by
 rw[qE m d _ i,List.take_take,Nat.min_eq_left acu,h,List.take_succ_eq_append_getElem hi,List.drop_append_of_le_length acv,List.drop_of_length_le acv]
 grind [iN,kj]
theorem FM{m m1:dX}{d:Nat}{l:List bG}{i:Nat}{e:Int}(hi:i<l.length)(h:iN m d (l.take i)= .ok m1)(hr:kj m1 d l[i]= .bad e):iN m d l= .bad e:=by
 rw[qE m d l (i+1),yw hi h,hr]
end Go.Bf
namespace Go.Proofs.YtcochaoekecfdaaGreatDoor
open Go Go.Ab Go.Bf
theorem acs {f:FuncId} {fn:Func} {c:Code} {args:List AV} {h:Heap} {Q:AV→Heap→Prop} (hf:Tryz.prog.funcs[f]? =some fn) (m:Nat) (rs:List ResultVar) (hk:(∀x∈args,wfA x)→bE Tryz.prog U m c (xV args) h (vE U rs Q)) (hb:fn.body=some c:=by exact rfl) (hn:(fn.name=="runtime.NumGoroutine")=false:=by kernel_rfl) (h1:fn.ntmps=m:=by exact rfl) (h2:fn.results.toList=rs:=by exact rfl) (hl:args.length≤m:=by exact Nat.le_of_ble_eq_true rfl):ai Tryz.prog f args h Q:=ai.body hU hm hf hb hn m h1 rs h2 hl hk
theorem oU(l:Txt)(h:Heap):ai Tryz.prog 51 [.s l] h fun r h' =>r= .b (bh l)∧h' =h:=by
 refine acs Tryz.func51 49 [.tmp 2] fun hwf=>?_
 simp only[go_sem];refine .intro (fun m ρ h' =>h' =h∧∃i:Nat,i≤l.length∧m=l.length - i∧vG (l.take i)=true∧lk ρ 0=some (.s l)∧lk ρ 8=some (.i l.length)∧lk ρ 9=some (.i i)) l.length ?_ ?_
 ·refine⟨rfl,0,acu,rfl,rfl,?_,?_,?_⟩<;>simp only[go_sem]
 ·rintro m ρ h' ⟨rfl,i,hi,rfl,hc,r0,r8,r9⟩
  simp only[go_sem,r8,r9];refine .intro (fun e=>?_) (fun e=>?_)
  ·have hlt:i<l.length:=acq e
   have w1:IntKind.i64.wrap ((i:Int)+1)=((i+1:Nat):Int):=by rw[bg _ (by have:=hwf (.s l) acD;simp only[wfA,wf1,lim]at this;omega)];omega
   have w0:IntKind.i64.wrap (0+1)=1:=rfl;have hb:=It l i hlt;have hg:=E0 l i hlt;rw[hc]at hg;have hcl:=Nz l[i];have h255:=l[i].toNat_lt;simp only[go_sem,r0,r9];refine .at i hlt ?_;generalize hcc:l[i]=c at hb hg hcl h255⊢
   by_cases hi0:i=0
   ·subst hi0
    rcases hcl with⟨a1,a2,a3,a4,a5⟩|⟨a1,a2,a3,a4,a5⟩|⟨a1,a2,a3,a4,a5⟩|⟨a1,a2,a3,a4,a5⟩|⟨a1,a2,a3,a4,a5⟩|⟨a1,a2,a3,a4,a5⟩
    ·simp only[go_sem,r9,a1,a2,a3,a4,a5,w0]
     refine⟨_,?_,rfl,0+1,acu,rfl,by simp[hg,sU,ltr,a1,a2],?_,?_,?_⟩
     ·omega
     all_goals simp only[go_sem,r0,r8]
    all_goals
     simp only[go_sem,a1,a2,a3,a4,a5];exact .same (.refl _) ⟨by simp[bh,hb (by simp[sU,ltr,a1,a2]),ax],rfl⟩
   ·have hin:((i:Int)==0)=false:=by simp;omega
    rcases hcl with⟨a1,a2,a3,a4,a5⟩|⟨a1,a2,a3,a4,a5⟩|⟨a1,a2,a3,a4,a5⟩|⟨a1,a2,a3,a4,a5⟩|⟨a1,a2,a3,a4,a5⟩|⟨a1,a2,a3,a4,a5⟩
    ·simp only[go_sem,r9,a1,a2,a3,a4,a5,w1]
     exact ahk
    ·simp only[go_sem,r9,a1,a3,a4,w1,hin]
     exact ahk
    ·simp only[go_sem,r9,a1,a3,a4,a5,w1,hin]
     exact ahk
    ·simp only[go_sem,a1,a3,a5,hin]
     exact .same (.refl _) ⟨aeb,rfl⟩
    ·simp only[go_sem,a1,a3,a4,a5,hin]
     exact .same (.refl _) ⟨aeb,rfl⟩
    ·simp only[go_sem,a1,a2,a3,a4,a5,hin]
     exact .same (.refl _) ⟨aeb,rfl⟩
  ·have hge:i=l.length:=by have:=acm e;omega
   subst hge;rw[List.take_length]at hc
   by_cases h0:l= []
   ·subst h0
    have b0:((([]:Txt)== [])=true):=rfl;simp only[go_sem,r0,b0];exact acE
   ·have b0:(l== [])=false:=by simpa using h0
    have hp:1≤l.length:=List.length_pos_iff.2 h0;simp only[go_sem,r0,b0];exact .same (.refl _) ⟨by simp[bh,hc,ax,hp];omega,rfl⟩
theorem GK(a:pV)(h:Heap):ai Tryz.prog 316 [CH a] h fun r h' =>r= .b (qd a)∧h' =h:=by
 refine acs Tryz.func316 16 [.tmp 2] fun hwf=>?_
 simp only[go_sem,CH];intro id hid;cases d1:decide (1≤a.cat)
 ·simp only[go_sem,d1]
  exact ahU
 cases d2:decide (a.cat≤4)
 ·simp only[go_sem,d1,d2]
  exact ahU
 simp only[go_sem,d1,d2];refine(oU _ _).pthen ?_;simp only[go_sem];exact ahU
theorem fO(v:bp)(h:Heap):ai Tryz.prog 54 [aO v] h fun r h' =>r= .b (bx v)∧h' =h:=by
 refine acs Tryz.func54 61 [.tmp 2] fun hwf=>?_
 simp only[go_sem,aO];intro id hid;cases k1:(v.kind==1)
 case true=>
  have e1:v.kind=1:=acv;cases d1:(v.n==0)<;>cases d2:(v.n==1)
  ·simp only[go_sem,k1,d1,d2]
   exact .mk _ (.refl _) (.aj hid) ⟨afS,rfl⟩
  all_goals
   simp only[go_sem,k1,d1,d2];exact .mk _ (.refl _) (.aj hid) ⟨afS,rfl⟩
 have n1:v.kind≠1:=acv;cases k2:(v.kind==2)
 case true=>
  have e1:v.kind=2:=acv;simp only[go_sem,k1,k2];exact .mk _ (.refl _) (.aj hid) ⟨afS,rfl⟩
 have n2:v.kind≠2:=acv;cases k3:(v.kind==3)
 case true=>
  have e1:v.kind=3:=acv;cases d1:(v.n==0)
  all_goals
   simp only[go_sem,k1,k2,k3,d1];exact .mk _ (.refl _) (.aj hid) ⟨by simp[bx,e1,d1,ax]<;>omega,rfl⟩
 have n3:v.kind≠3:=acv;cases k4:(v.kind==4)
 case true=>
  have e1:v.kind=4:=acv;cases d1:decide (0≤v.n)<;>cases d2:decide (v.n≤1099511627776)
  all_goals
   simp only[go_sem,k1,k2,k3,k4,d1,d2];exact .mk _ (.refl _) (.aj hid) ⟨afS,rfl⟩
 have n4:v.kind≠4:=acv;cases k5:(v.kind==5)
 case true=>
  have e1:v.kind=5:=acv;cases d1:(v.n==0)
  ·simp only[go_sem,k1,k2,k3,k4,k5,d1]
   exact .mk _ (.refl _) (.aj hid) ⟨afS,rfl⟩
  ·simp only[go_sem,k1,k2,k3,k4,k5,d1]
   refine(oU _ _).pthen ?_;simp only[go_sem];exact .mk _ (.refl _) (.aj hid) ⟨afS,rfl⟩
 have n5:v.kind≠5:=acv;simp only[go_sem,k1,k2,k3,k4,k5];exact .mk _ (.refl _) (.aj hid) ⟨afS,rfl⟩
theorem LK(m:bN)(h:Heap):ai Tryz.prog 315 [dI m] h fun r h' =>r= .b (kG m)∧h' =h:=by
 refine acs Tryz.func315 21 [.tmp 2] fun hwf=>?_
 simp only[go_sem,dI];intro id hid;simp only[go_sem];refine(GK m.attr _).pthen ?_;cases d0:qd m.attr
 ·simp only[go_sem]
  exact ahv
 cases d1:decide (1≤m.op)
 ·simp only[go_sem,d1]
  exact ahv
 cases d2:decide (m.op≤3)
 ·simp only[go_sem,d1,d2]
  exact ahv
 simp only[go_sem,d1,d2];refine(fO m.val _).pthen ?_;simp only[go_sem];exact ahv
theorem Hr(n:Nat)(h:Heap):ai Tryz.prog 297 [.i n] h fun r h' =>r= .i (jZ n)∧h' =h:=by
 refine acs Tryz.func297 9 [.tmp 2] fun hwf=>?_
 cases d1:((n:Int)==0)
 case true=>
  simp only[go_sem,d1];exact .same (.refl _) ⟨by grind [jZ,ax],rfl⟩
 cases d2:decide (8<(n:Int))
 ·have e2:¬n>8:=by grind
  exact aid
 ·have e2:n>8:=by grind
  exact aid
theorem DE{n:Nat}(h:jZ n=0):1≤n∧n≤8:=by
 grind [jZ]
theorem Kr(l:List bN)(h:Heap):ai Tryz.prog 298 [iQ l] h fun r h' =>r= .i (wP l)∧h' =h:=by
 refine acs Tryz.func298 22 [.tmp 2] fun hwf=>?_
 simp only[go_sem,iQ,aci];refine(Hr _ _).pthen ?_;cases d1:(jZ l.length !=0)
 case true=>
  have e1:jZ l.length≠0:=acv;simp only[go_sem,d1];exact .same (.refl _) ⟨by grind [wP,ax],rfl⟩
 have e1:jZ l.length=0:=acv;have hlen:=DE e1;simp only[go_sem,d1,aci];refine .intro (fun m ρ h' =>Ab.Sub h h'∧∃i:Nat,i≤l.length∧m=l.length - i∧(l.take i).all kG=true∧lk ρ 12=some (iQ l)∧lk ρ 13=some (.i l.length)∧lk ρ 14=some (.i i)) l.length ?_ ?_
 ·refine⟨.refl _,0,acu,rfl,rfl,?_,?_,?_⟩<;>simp only[go_sem,iQ]
 ·rintro m ρ h' ⟨hs,i,hi,rfl,hc,r12,r13,r14⟩
  simp only[go_sem,r13,r14];refine .intro (fun e=>?_) (fun e=>?_)
  ·have hlt:i<l.length:=acq e
   have w1:IntKind.i64.wrap ((i:Int)+1)=((i+1:Nat):Int):=acI;simp only[go_sem,r12,r14,iQ];refine .at i acv acL ?_;simp only[go_sem,acj,dI];intro id hid;simp only[go_sem];refine(LK l[i] _).pthen ?_;cases d2:kG l[i]
   ·simp only[go_sem]
    refine .mk _ (.refl _) (hs.new hid _) ⟨?_,rfl⟩;have:l.all kG=false:=List.all_eq_false.2 ⟨_,aco hlt,acv⟩;simp[wP,e1,this,ax]
   ·simp only[go_sem,r14,w1]
    refine⟨_,?_,hs.new hid _,i+1,acu,rfl,?_,?_,?_,?_⟩
    ·omega
    ·grind [List.take_succ_eq_append_getElem]
    all_goals simp only[go_sem,r12,r13,iQ]
  ·have hge:i=l.length:=by grind
   subst hge;rw[List.take_length]at hc;simp only[go_sem];exact .mk _ (.refl _) hs ⟨by grind [wP,ax],rfl⟩
theorem Ks(l:List (List bN))(h:Heap):ai Tryz.prog 271 [cN l] h fun r h' =>r= .i (wQ l)∧h' =h:=by
 refine acs Tryz.func271 25 [.tmp 2] fun hwf=>?_
 simp only[go_sem,cN,aci];refine(Hr _ _).pthen ?_;cases d1:(jZ l.length !=0)
 case true=>
  have e1:jZ l.length≠0:=acv;simp only[go_sem,d1];exact .same (.refl _) ⟨by grind [wQ,ax],rfl⟩
 have e1:jZ l.length=0:=acv;have hlen:=DE e1;simp only[go_sem,d1,aci];refine .intro (fun m ρ h' =>Ab.Sub h h'∧∃i:Nat,i≤l.length∧m=l.length - i∧hY wP (l.take i)=0∧lk ρ 13=some (cN l)∧lk ρ 14=some (.i l.length)∧lk ρ 15=some (.i i)) l.length ?_ ?_
 ·refine⟨.refl _,0,acu,rfl,rfl,?_,?_,?_⟩<;>simp only[go_sem,cN]
 ·rintro m ρ h' ⟨hs,i,hi,rfl,hc,r12,r13,r14⟩
  simp only[go_sem,r13,r14];refine .intro (fun e=>?_) (fun e=>?_)
  ·have hlt:i<l.length:=acq e
   have w1:IntKind.i64.wrap ((i:Int)+1)=((i+1:Nat):Int):=acI;simp only[go_sem,r12,r14,cN];refine .at i acv acL ?_;simp only[go_sem,acj,iQ];refine(Kr l[i] _).pthen ?_;cases d2:(wP l[i] !=0)
   ·have e2:wP l[i]=0:=by grind
    simp only[go_sem,r14,d2,w1];refine⟨_,?_,hs,i+1,acu,rfl,vO hlt hc e2,?_,?_,?_⟩
    ·omega
    all_goals simp only[go_sem,r12,r13,cN]
   ·have e2:wP l[i]≠0:=by grind
    simp only[go_sem,d2];refine .mk _ (.refl _) hs ⟨?_,rfl⟩
    grind [wQ,AE,ax]
  ·have hge:i=l.length:=by grind
   subst hge;rw[List.take_length]at hc;simp only[go_sem];exact .mk _ (.refl _) hs ⟨by grind [wQ,ax],rfl⟩
theorem vn(l:fW)(h:Heap):ai Tryz.prog 241 [aU l] h fun r h' =>r= .i (lu l)∧h' =h:=by
 refine acs Tryz.func241 21 [.tmp 2] fun hwf=>?_
 cases d1:decide (8<(l.length:Int))
 case true=>
  have e1:8<l.length:=acv;simp only[go_sem,aU,aci,d1];exact .same (.refl _) ⟨by grind [lu,ax],rfl⟩
 have e1:¬8<l.length:=acv;simp only[go_sem,d1,aU,aci];refine .intro (fun m ρ h' =>Ab.Sub h h'∧∃i:Nat,i≤l.length∧m=l.length - i∧hY wQ (l.take i)=0∧lk ρ 9=some (aU l)∧lk ρ 10=some (.i l.length)∧lk ρ 11=some (.i i)) l.length ?_ ?_
 ·refine⟨.refl _,0,acu,rfl,rfl,?_,?_,?_⟩<;>simp only[go_sem,aU]
 ·rintro m ρ h' ⟨hs,i,hi,rfl,hc,r12,r13,r14⟩
  simp only[go_sem,r13,r14];refine .intro (fun e=>?_) (fun e=>?_)
  ·have hlt:i<l.length:=acq e
   have w1:IntKind.i64.wrap ((i:Int)+1)=((i+1:Nat):Int):=acI;simp only[go_sem,r12,r14,aU];refine .at i acv acL ?_;simp only[go_sem,acj,cN];refine(Ks l[i] _).pthen ?_;cases d2:(wQ l[i] !=0)
   ·have e2:wQ l[i]=0:=by grind
    simp only[go_sem,r14,d2,w1];refine⟨_,?_,hs,i+1,acu,rfl,vO hlt hc e2,?_,?_,?_⟩
    ·omega
    all_goals simp only[go_sem,r12,r13,aU]
   ·have e2:wQ l[i]≠0:=by grind
    simp only[go_sem,d2];refine .mk _ (.refl _) hs ⟨?_,rfl⟩
    grind [lu,AE,ax]
  ·have hge:i=l.length:=by grind
   subst hge;rw[List.take_length]at hc;simp only[go_sem];exact .mk _ (.refl _) hs ⟨by grind [lu,ax],rfl⟩
theorem Cc(l:List cA)(h:Heap):ai Tryz.prog 242 [az l] h fun r h' =>r= .i (ie l)∧h' =h:=by
 refine acs Tryz.func242 39 [.tmp 2] fun hwf=>?_
 cases d1:decide (8<(l.length:Int))
 case true=>
  have e1:8<l.length:=acv;simp only[go_sem,az,aci,d1];exact .same (.refl _) ⟨by grind [ie,ax],rfl⟩
 have e1:¬8<l.length:=acv;simp only[go_sem,d1,az,aci];refine .intro (fun m ρ h' =>Ab.Sub h h'∧∃i:Nat,i≤l.length∧m=l.length - i∧(l.take i).all qK=true∧lk ρ 8=some (az l)∧lk ρ 9=some (.i l.length)∧lk ρ 10=some (.i i)) l.length ?_ ?_
 ·refine⟨.refl _,0,acu,rfl,rfl,?_,?_,?_⟩<;>simp only[go_sem,az]
 ·rintro m ρ h' ⟨hs,i,hi,rfl,hc,r12,r13,r14⟩
  simp only[go_sem,r13,r14];refine .intro (fun e=>?_) (fun e=>?_)
  ·have hlt:i<l.length:=acq e
   have w1:IntKind.i64.wrap ((i:Int)+1)=((i+1:Nat):Int):=acI;simp only[go_sem,r12,r14,az];refine .at i acv acL ?_;simp only[go_sem,acj,br];intro id hid;have bad:qK l[i]=false→ie l=1:=fun hb=>by
    have:l.all qK=false:=List.all_eq_false.2 ⟨_,aco hlt,acv⟩;simp[ie,e1,this]
   cases c1:decide (l[i].on<1)
   case true=>
    simp only[go_sem,c1];exact .mk _ (.refl _) (hs.new hid _) ⟨by rw[bad (by have:=ack c1;simp[qK];omega)];rfl,rfl⟩
   cases c2:decide (2<l[i].on)
   case true=>
    simp only[go_sem,c1,c2];exact .mk _ (.refl _) (hs.new hid _) ⟨by rw[bad (by have:=ack c2;simp[qK];omega)];rfl,rfl⟩
   cases c3:decide (l[i].kind<1)
   case true=>
    simp only[go_sem,c1,c2,c3];exact .mk _ (.refl _) (hs.new hid _) ⟨by rw[bad (by have:=ack c3;simp[qK];omega)];rfl,rfl⟩
   cases c4:decide (4<l[i].kind)
   case true=>
    simp only[go_sem,c1,c2,c3,c4];exact .mk _ (.refl _) (hs.new hid _) ⟨by rw[bad (by have:=ack c4;simp[qK];omega)];rfl,rfl⟩
   simp only[go_sem,c1,c2,c3,c4];refine(oU _ _).pthen ?_;cases d2:bh l[i].arg
   ·simp only[go_sem]
    exact .mk _ (.refl _) (hs.new hid _) ⟨by rw[bad (by grind [qK])];rfl,rfl⟩
   ·simp only[go_sem,r14,w1]
    refine⟨_,?_,hs.new hid _,i+1,acu,rfl,?_,?_,?_,?_⟩
    ·omega
    ·grind [acm,List.take_succ_eq_append_getElem,qK]
    all_goals simp only[go_sem,r12,r13,az]
  ·have hge:i=l.length:=by grind
   subst hge;rw[List.take_length]at hc;simp only[go_sem];exact .mk _ (.refl _) hs ⟨by grind [ie,ax],rfl⟩
theorem MU(op:Int)(h:Heap):ai Tryz.prog 299 [.i op] h fun r h' =>r=(match iC op with
  |none=> .tup [.sl [] .no,.b false]
  |some w=> .tup [.sl (w.map jG) .no,.b true])∧h' =h:=by
 refine acs Tryz.func299 35 [.tmp 2,.tmp 3] fun hwf=>?_
 cases k1:(op==1)
 case true=>
  have e1:op=1:=acv;simp only[go_sem,k1];exact .mk _ (fy _) (.refl _) ⟨afX,rfl⟩
 have n1:op≠1:=acv;cases k2:(op==2)
 case true=>
  have e1:op=2:=acv;simp only[go_sem,k1,k2];exact .mk _ (fy _) (.refl _) ⟨afX,rfl⟩
 have n2:op≠2:=acv;cases k3:(op==3)
 case true=>
  have e1:op=3:=acv;simp only[go_sem,k1,k2,k3];exact .mk _ (fy _) (.refl _) ⟨aeK,rfl⟩
 have n3:op≠3:=acv;cases k4:(op==4)
 case true=>
  have e1:op=4:=acv;simp only[go_sem,k1,k2,k3,k4];exact .mk _ (fy _) (.refl _) ⟨aeK,rfl⟩
 have n4:op≠4:=acv;cases k5:(op==5)
 case true=>
  have e1:op=5:=acv;simp only[go_sem,k1,k2,k3,k4,k5];exact .mk _ (fy _) (.refl _) ⟨aeK,rfl⟩
 have n5:op≠5:=acv;cases k11:(op==11)
 case true=>
  have e1:op=11:=acv;simp only[go_sem,k1,k2,k3,k4,k5,k11];exact .mk _ (fy _) (.refl _) ⟨aeK,rfl⟩
 have n11:op≠11:=acv;cases k6:decide (6≤op)
 ·have n6:=acm k6
  simp only[go_sem,k1,k2,k3,k4,k5,k11,k6];exact .mk _ (fy _) (.refl _) ⟨afX,rfl⟩
 cases k13:decide (op≤13)
 ·have n13:=acm k13
  simp only[go_sem,k1,k2,k3,k4,k5,k11,k6,k13];exact .mk _ (fy _) (.refl _) ⟨afX,rfl⟩
 have n6:=ack k6;have n13:=ack k13;simp only[go_sem,k1,k2,k3,k4,k5,k11,k6,k13];exact .mk _ (fy _) (.refl _) ⟨aeK,rfl⟩
theorem IK(n:aN)(h:Heap):ai Tryz.prog 300 [dz n] h fun r h' =>r= .b (jH n)∧h' =h:=by
 refine acs Tryz.func300 37 [.tmp 2] fun hwf=>?_
 simp only[go_sem,dz];intro id hid;have fa:∀x y z:Bool,(x && (y && (z && true)))=(x && (y && (z && true))):=fun _ _ _=>rfl
 cases k1:(n.op==1)
 case true=>
  have e1:n.op=1:=acv;simp only[go_sem,k1];refine(fO n.val _).pthen ?_;cases d0:bx n.val
  ·simp only[go_sem]
   exact ahV
  ·simp only[go_sem]
   exact .mk _ (.refl _) (.aj hid) ⟨by grind [jH,ax,zeroAt],rfl⟩
 have n1:n.op≠1:=acv;cases k2:(n.op==2)
 case true=>
  have e1:n.op=2:=acv;simp only[go_sem,k1,k2];refine(GK n.attr _).pthen ?_;cases d0:qd n.attr
  ·simp only[go_sem]
   exact ahV
  ·simp only[go_sem]
   exact .mk _ (.refl _) (.aj hid) ⟨by grind [jH,ax,zeroV],rfl⟩
 have n2:n.op≠2:=acv;cases d0:zeroV n.val
 ·have d1:=d0
  unfold zeroV at d1;simp only[go_sem,k1,k2,d1];exact ahV
 ·have d1:=d0
  unfold zeroV at d1;simp only[go_sem,k1,k2,d1];exact .mk _ (.refl _) (.aj hid) ⟨by grind [jH,ax,zeroAt],rfl⟩
theorem u4:(U 4).sz=1:=acK
theorem u4a:(U 4).k.agg=false:=acK
theorem u4b:(U 4).bytes=1:=acK
theorem u4f:fit (U 4).zero 1:=acF
theorem u4n:bz (U 4).zero=false:=acK
theorem GL(l:List Bool):One (l.map jG):=One.map (fun _=>rfl) l
theorem OR(y:AV)(st:List Bool)(n:aN)(h0 h:Heap)(hy:WrA 4 h0 h y (st.map jG))(hl:st.length≤1000000):
  ai Tryz.prog 272 [y,dz n] h fun r h' =>∃z,r= .tup [z,.v (.bool (iB st n).isSome)]∧match iB st n with
   |none=>Ab.Sub h0 h'
   |some st' =>WrA 4 h0 h' z (st'.map jG):=by
 refine acs Tryz.func272 60 [.tmp 4,.tmp 5] fun hwf=>?_
 simp only[go_sem,dz];intro id hid;simp only[go_sem];have hyb:=hy.base hid (some (.obj [.i n.op,.i n.val.kind,.i n.val.n,.s n.val.s,.i n.attr.cat,.s n.attr.name,.b n.attr.must] 229));have hw:=MU n.op (upd h id (some (.obj [.i n.op,.i n.val.kind,.i n.val.n,.s n.val.s,.i n.attr.cat,.s n.attr.name,.b n.attr.must] 229)));cases hwd:iC n.op with
 |none=>
  rw[hwd]at hw;have hst:iB st n=none:=by grind [iB]
  refine hw.pthen ?_;exact aio
 |some w=>
  rw[hwd]at hw;have hwl:w.length≤2:=by
   grind [iC]
  refine hw.pthen ?_;simp only[go_sem];refine(IK n _).pthen ?_;cases d1:jH n
  ·have hst:iB st n=none:=by grind [iB]
   exact aio
  cases d2:decide ((st.length:Int)<(w.length:Int))
  case true=>
   have e2:¬w.length≤st.length:=acv;have hst:iB st n=none:=by grind [iB]
   simp only[go_sem,hyb.len,aci,d2];exact .mk _ (.refl _) (.aj hid) ⟨_,agz,agj⟩
  have e2:w.length≤st.length:=acv;have w1:IntKind.i64.wrap ((st.length:Int) - (w.length:Int))=((st.length - w.length:Nat):Int):=acI;obtain⟨hb,ehb⟩:∃hb,upd h id (some (.obj [.i n.op,.i n.val.kind,.i n.val.n,.s n.val.s,.i n.attr.cat,.s n.attr.name,.b n.attr.must] 229))=hb:=⟨_,rfl⟩;have hbid:hb id=some (.obj [.i n.op,.i n.val.kind,.i n.val.n,.s n.val.s,.i n.attr.cat,.s n.attr.name,.b n.attr.must] 229):=afY;have hsub:Ab.Sub h hb:=by rw[←ehb];exact .aj hid
  rw[ehb]at hyb⊢;simp only[go_sem,hyb.len,aci,d2,w1];refine .intro (fun m ρ h' =>h' =hb∧∃i:Nat,i≤w.length∧m=w.length - i∧(∀j,j<i→st[st.length - w.length+j]? =w[j]?)∧lk ρ 0=some y∧lk ρ 3=some (.ptr id 0)∧lk ρ 8=some (.i ((st.length - w.length:Nat):Int))∧lk ρ 36=some (.sl (w.map jG) .no)∧lk ρ 37=some (.i w.length)∧lk ρ 38=some (.i i)) w.length ?_ ?_
  ·refine⟨rfl,0,acu,rfl,fun j hj=>acu,?_,?_,?_,?_,?_,?_⟩<;>simp only[go_sem]
  ·rintro m ρ h' ⟨rfl,i,hi,rfl,hc,r0,r3,r8,r36,r37,r38⟩
   simp only[go_sem,r37,r38];refine .intro (fun e=>?_) (fun e=>?_)
   ·have hlt:i<w.length:=acq e
    have w2:IntKind.i64.wrap ((i:Int)+1)=((i+1:Nat):Int):=acI;have w3:IntKind.i64.wrap (((st.length - w.length:Nat):Int)+(i:Int))=((st.length - w.length+i:Nat):Int):=acI;have hlt2:st.length - w.length+i<st.length:=acu;simp only[go_sem,r36,r38];refine .at i acv acL ?_;simp only[go_sem,r0,r8,acj,jG,w3];refine hyb.idx (GL st) (st.length - w.length+i) rfl acv u4 u4a fun p hp=>?_
    simp only[go_sem,hp _,acj,jG];cases d3:(st[st.length - w.length+i]==w[i])
    ·have hst:iB st n=none:=by
      have:st.drop (st.length - w.length)≠w:=fun hh=>by
       grind
      simp[iB,hwd,this]
     simp only[go_sem];exact .mk _ (.refl _) hsub ⟨_,agz,agj⟩
    ·simp only[go_sem,r38,w2]
     refine⟨_,?_,rfl,i+1,acu,rfl,fun j hj=>?_,?_,?_,?_,?_,?_,?_⟩
     ·omega
     ·grind
     all_goals simp only[go_sem,r0,r3,r8,r36,r37]
   ·have hge:i=w.length:=by grind
    subst hge;have hdrop:st.drop (st.length - w.length)=w:=by
     apply List.ext_getElem?
     grind
    have hst:iB st n=some (st.take (st.length - w.length)++ [n.op==2]):=by
     grind [iB]
    simp only[go_sem];refine .calls (hm1 id _) [0,1,2,3,4,5,6,7,8,9] (.hm1 hbid) acw rfl ?_;simp only[go_sem,r0,r8];refine hyb.cut (x:=.i64) (st.length - w.length) acK rfl acD u4 fun z hz=>?_
    rw[←List.map_take]at hz;simp only[go_sem,r3,fY];refine hz.app (zs:=[.b (n.op==2)]) (GL _) (GL [n.op==2]) u4 acz u4f u4n (fun k hk=>hk) (by grind [u4b]) fun z' h2 hz' =>?_
    refine⟨fun j b hj=>((Sub.hm1 (ah ..)).trans hz'.1) j b hj,?_⟩
    simp only[go_sem];have hz2:=hz'.less (Sub.aj (hy.1.none hid));refine .same (.refl _) ⟨z',agz,?_⟩;rw[hst];simp only[List.map_append];exact hz2
theorem E5{l:List aN}(h:l.length≤32)(hs:fP [] l=none):jY l=1:=by
 grind [jY,Nat.not_lt]
theorem jR(st:List Bool):∀(l:List aN) (i:Nat),fP st l=(match fP st (l.take i)with
  |none=>none
  |some st' =>fP st' (l.drop i))
 | [],i=>by simp[fP]
 |n::r,0=>acK
 |n::r,i+1=>by
  simp only[List.take_succ_cons,List.drop_succ_cons,fP];cases iB st n with
  |none=>rfl
  |some st' =>simp only;exact jR st' r i
theorem rT(st st' :List Bool)(l:List aN)(h:fP st l=some st'):st'.length≤st.length+l.length:=by
 induction l generalizing st with
 |nil=>grind [fP,Option.some.injEq]
 |cons n r ih=>
  simp only[fP]at h;cases hs:iB st n with
  |none=>grind
  |some s2=>
   grind [iB]
theorem GS(l:List aN)(h:Heap):ai Tryz.prog 243 [fm l] h fun r h' =>r= .i (jY l)∧h' =h:=by
 refine acs Tryz.func243 38 [.tmp 2] fun hwf=>?_
 cases d1:decide (32<(l.length:Int))
 case true=>
  have e1:32<l.length:=acv;simp only[go_sem,fm,aci,d1];exact .same (.refl _) ⟨by grind [jY,ax],rfl⟩
 have e1:l.length≤32:=acv;simp only[go_sem,fm,aci,d1];refine .intro (fun m ρ h' =>∃(i:Nat) (y:AV) (st:List Bool),WrA 4 h h' y (st.map jG)∧fP [] (l.take i)=some st∧i≤l.length∧m=l.length - i∧
  lk ρ 0=some (fm l)∧lk ρ 3=some y∧lk ρ 10=some (fm l)∧lk ρ 11=some (.i l.length)∧lk ρ 12=some (.i i)) l.length ?_ ?_
 ·refine⟨0,_,[],.nil (.refl _),rfl,acu,rfl,?_,?_,?_,?_,?_⟩<;>simp only[go_sem,fm]
 ·rintro m ρ h' ⟨i,y,st,hy,hst,hi,rfl,r0,r3,r10,r11,r12⟩
  have hsl:=rT _ _ _ hst;have hsl:st.length≤i:=acv;simp only[go_sem,r11,r12];refine .intro (fun e=>?_) (fun e=>?_)
  ·have hlt:i<l.length:=acq e
   have w1:IntKind.i64.wrap ((i:Int)+1)=((i+1:Nat):Int):=acI;have hnx:fP [] (l.take (i+1))=iB st l[i]:=by
    rw[jR [] _ i,List.take_take,Nat.min_eq_left acu,hst,List.take_succ_eq_append_getElem hlt,List.drop_append_of_le_length acv,List.drop_of_length_le acv]
    grind [fP,iB]
   simp only[go_sem,r10,r12,fm];refine .at i acv acL ?_;simp only[go_sem,acj,dz];intro id hid;simp only[go_sem,r3];have hyb:=hy.sub (Sub.aj (k:=some (.obj [.i l[i].op,.i l[i].val.kind,.i l[i].val.n,.s l[i].val.s,.i l[i].attr.cat,.s l[i].attr.name,.b l[i].attr.must] 229)) hid);refine(OR y st l[i] h _ hyb acu).mono fun r h2 ⟨z,e2,hz⟩=>?_
   subst e2;cases hsd:iB st l[i]with
   |none=>
    rw[hsd]at hz;simp only[go_sem,Option.isSome_none];refine .mk _ (.refl _) hz ⟨?_,rfl⟩;rw[E5 e1 (by rw[jR [] l (i+1),hnx,hsd])];rfl
   |some st' =>
    rw[hsd]at hz hnx;simp only[go_sem,r12,Option.isSome_some,w1];refine⟨_,?_,i+1,z,st',hz,hnx,acu,rfl,?_,?_,?_,?_,?_⟩
    ·omega
    all_goals simp only[go_sem,r0,r10,r11,fm]
  ·have hge:i=l.length:=by grind
   subst hge;rw[List.take_length]at hst;have he:jY l=if l= []∨st= [false]then 0 else 1:=by
    simp_all [jY,if_neg]
   cases d2:decide (0<(l.length:Int))
   ·have e2:l= []:=by simp_all
    simp only[go_sem,r0,fm,aci,d2];exact .mk _ (.refl _) hy.1 ⟨by rw[he,if_pos (.inl e2)];rfl,rfl⟩
   have e2:l≠ []:=acv;cases d3:((st.length:Int) !=1)
   case true=>
    have e3:st≠ [false]:=acv;simp only[go_sem,r0,r3,fm,aci,d2,hy.len,d3];exact .mk _ (.refl _) hy.1 ⟨by rw[he,if_neg acv];rfl,rfl⟩
   have e3:st.length=1:=by
    grind
   obtain⟨b,rfl⟩:=List.length_eq_one_iff.1 e3;simp only[go_sem,r0,r3,fm,aci,d2,hy.len];refine hy.idx (GL [b]) 0 rfl acD u4 u4a fun p hp=>?_
   simp only[go_sem,hp _,jG,List.getElem_cons_zero];cases b
   ·simp only[go_sem]
    exact .mk _ (.refl _) hy.1 ⟨by rw[he,if_pos (.inr rfl)];rfl,rfl⟩
   ·simp only[go_sem]
    exact .mk _ (.refl _) hy.1 ⟨by rw[he,if_neg acv];rfl,rfl⟩
end Go.Proofs.YtcochaoekecfdaaGreatDoor
namespace Go.Bf
open Go Go.Ab
theorem Od(xs:List Txt)(B:Nat)(h:∀x∈xs,x.length≤B):Lib.lens xs≤xs.length*B:=by
 induction xs with
 |nil=>simp[Lib.lens]
 |cons x r ih=>
  have h1:=h x acD;have h2:=ih fun y hy=>h y acv
  simp only[Lib.lens,List.map_cons,List.sum_cons,List.length_cons,Nat.add_mul,Nat.one_mul]at h2⊢;omega
theorem Fq(xs:List Txt)(n B:Nat)(hn:xs.length≤n)(h:∀x∈xs,x.length≤B):xs.flatten.length≤n*B:=by
 have h2:=Od xs B h;have h3:xs.length*B≤n*B:=Nat.mul_le_mul_right _ hn;have h4:xs.flatten.length=Lib.lens xs:=by rw[List.length_flatten];rfl
 omega
theorem AR{s:Txt}(h:bh s=true):s.length≤16:=by
 grind [bh]
theorem A4(l:Txt)(h:l.length≤64):(nP l).length≤194:=by
 have:=Fq (l.map nO) 64 3 acv fun x hx=>by
  grind [nO]
 unfold nP;simp only[acn,List.length_cons,List.length_nil];omega
theorem O4{v:bp}(h:bx v=true)(h1: -9223372036854775808≤v.n)(h2:v.n≤9223372036854775807):(jW v).length≤194:=by
 have hi:=Lib.itoa_length_le v.n h1 h2;unfold jW;unfold bx at h;split
 ·cases (v.n==1)<;>decide
 split
 ·simp only[acn,List.length_cons,List.length_nil];omega
 split
 ·rename_i k5
  simp only[k5]at h;simp at h;have:=AR h.2;simp only[acn,List.length_cons,List.length_nil];omega
 split
 ·rename_i k3
  simp only[k3]at h;simp at h;exact A4 _ h.2
 ·omega
theorem kg{l:List cA}(h:ie l=0):l.length≤8∧∀o∈l,qK o=true:=by
 grind [ie,List.all_eq_true]
theorem yH{n:Nat}(h:jZ n=0):0<n∧n≤8:=by
 grind [jZ]
theorem vP{α:Type}{f:α→Int}{l:List α}(h:hY f l=0):∀x∈l,f x=0:=by
 induction l with
 |nil=>simp
 |cons y r ih=>
  simp only[hY]at h
  grind
theorem Am{l:List bN}(h:wP l=0):0<l.length∧l.length≤8∧∀m∈l,kG m=true:=by
 unfold wP at h;split at h
 ·simp_all [yH,List.all_eq_true]
 omega
theorem An{l:List (List bN)}(h:wQ l=0):0<l.length∧l.length≤8∧∀m∈l,wP m=0:=by
 unfold wQ at h;split at h
 ·rename_i hm
  have:=yH hm;exact⟨this.1,this.2,vP h⟩
 omega
theorem Bh{l:fW}(h:lu l=0):l.length≤8∧∀m∈l,wQ m=0:=by
 grind [lu,vP]
def inV(v:bp):Prop:= -9223372036854775808≤v.n∧v.n≤9223372036854775807
def inA(l:List bN):Prop:=∀m∈l,inV m.val
def inY(l:List (List bN)):Prop:=∀a∈l,inA a
def inT(t:fW):Prop:=∀a∈t,inY a
def inL(l:List aN):Prop:=∀n∈l,inV n.val
def inR(r:cK):Prop:=inT r.tgt∧inL r.cond
mutual
def inP:bG→Prop
 |.mk id set alg tgt rules kids obls=>inT tgt∧(∀r∈rules,inR r)∧inK kids
def inK:List bG→Prop
 | []=>True
 |k::r=>inP k∧inK r
end
theorem Re:∀l:List bG,inK l↔∀k∈l,inP k
 | []=>by simp[inK]
 |k::r=>by simp[inK,Re r]
theorem xX{l:List aN}(h:jY l=0)(hn:l≠ []):l.length≤32∧fP [] l=some [false]:=by
 grind [jY]
def Ei(r:cK):Prop:=bh r.id=true∧lu r.tgt=0∧jY r.cond=0∧ie r.obls=0
mutual
def mI(d:Nat):bG→Prop
 |.mk id set alg tgt rules kids obls=>d≤4∧bh id=true∧1≤alg∧alg≤6∧(set=true→rules= [])∧(set=false→kids= []∧alg≠4)∧lu tgt=0∧ie obls=0∧rules.length≤16∧kids.length≤16∧(∀r∈rules,Ei r)∧wg (d+1) kids
def wg(d:Nat):List bG→Prop
 | []=>True
 |k::r=>mI d k∧wg d r
end
theorem qD(d:Nat):∀l:List bG,wg d l↔∀k∈l,mI d k
 | []=>by simp[wg]
 |k::r=>by simp[wg,qD d r]
theorem yI{m m' :dX}{s:Txt}(h:ja m s=some m'):bh s=true:=by
 grind [ja]
theorem qJ{e:Int}{w:Went}{m:dX}(h:need e w= .ok m):e=0∧w= .ok m:=by
 grind [need]
theorem Mk{m m' :dX}{r:cK}(h:gm m r= .ok m'):Ei r:=by
 unfold gm at h;split at h
 ·cases h
 ·rename_i m1 hm
  split at h
  ·cases h
  ·obtain⟨h1,h⟩:=qJ h
   obtain⟨h2,h⟩:=qJ h;obtain⟨h3,h⟩:=qJ h;exact⟨yI hm,h1,h2,h3⟩
theorem Bc:∀(l:List cK) (m m' :dX),fq m l= .ok m'→∀r∈l,Ei r
 | [],_,_,_,r,hr=>acv
 |x::l,m,m',h,r,hr=>by
  simp only[fq]at h;cases hx:gm m x with
  |bad e=>grind
  |ok m1=>
   rw[hx]at h;rcases List.mem_cons.1 hr with rfl|hr
   ·exact Mk hx
   ·exact Bc l m1 m' h r hr
theorem Ja{m m1:dX}{id:Txt}{set:Bool}{alg:Int}{tgt:fW}{nr nk:Nat}{obls:List cA}(h:fc m id set alg tgt nr nk obls= .ok m1):
  ja m id=some m1∧1≤alg∧alg≤6∧(set=true→nr=0)∧(set=false→nk=0∧alg≠4)∧lu tgt=0∧ie obls=0∧nr≤16∧nk≤16:=by
 unfold fc at h;split at h
 ·cases h
 split at h
 ·cases h
 split at h
 ·cases h
 obtain⟨h3,h⟩:=qJ h;obtain⟨h4,h⟩:=qJ h
 grind
mutual
theorem HE:∀(p:bG) (d:Nat) (m m' :dX),kj m d p= .ok m'→mI d p
 |.mk id set alg tgt rules kids obls,d,m,m',h=>by
  simp only[kj]at h;split at h
  ·cases h
  rename_i hd
  split at h
  ·cases h
  rename_i m1 h1
  split at h
  ·cases h
  rename_i m2 h2
  obtain⟨g1,g2,g3,g4,g5,g6,g7,g8,g9⟩:=Ja h1;simp only[mI];exact⟨acu,yI g1,g2,g3,fun e=>List.length_eq_zero_iff.1 (g4 e),fun e=>⟨List.length_eq_zero_iff.1 (g5 e).1,(g5 e).2⟩,g6,g7,g8,g9,Bc _ _ _ h2,Du kids (d+1) m2 m' h⟩
theorem Du:∀(l:List bG) (d:Nat) (m m' :dX),iN m d l= .ok m'→wg d l
 | [],_,_,_,_=>by simp[wg]
 |k::r,d,m,m',h=>by
  simp only[iN]at h;split at h
  ·cases h
  rename_i m1 h1
  simp only[wg];exact⟨HE k d m m1 h1,Du r d m1 m' h⟩
end
end Go.Bf
namespace Go.Proofs.YtcochaoekecfdaaGreatDoor
open Go Go.Ab Go.Bf
def Quoted:Prop:=∀(s:Txt) (h:Heap),s.length≤64→ai Tryz.prog 156 [.s s] h fun r h' =>r= .s (nP s)∧h' =h
def zA(v:bp):Txt:=if bx v then Bf.jW v else []
theorem MT(Q:Quoted)(v:bp)(hi:inV v)(h:Heap)(ht:Cw h):ai Tryz.prog 101 [aO v] h fun r h' =>r= .s (zA v)∧h' =h:=by
 refine acs Tryz.func101 33 [.tmp 2] fun hwf=>?_
 simp -implicitDefEqProofs only[go_sem,aO];intro id hid;have ht2:Cw (upd h id (some (.obj [.i v.kind,.i v.n,.s v.s] 30))):=ht.sub (.aj hid);simp -implicitDefEqProofs only[go_sem];refine(fO v _).pthen ?_;cases d1:bx v
 ·simp -implicitDefEqProofs only[go_sem,d1]
  exact .mk _ (.refl _) (.aj hid) ⟨by simp[zA,d1,ax],rfl⟩
 have hl:lim=9223372036854775808:=rfl;have hil:=Lib.itoa_length_le v.n hi.1 hi.2;cases k1:(v.kind==1)
 case true=>
  have e1:v.kind=1:=by simpa using k1
  simp -implicitDefEqProofs only[go_sem,d1,k1];refine(K6 _ _).pthen ?_;simp -implicitDefEqProofs only[go_sem];exact .mk _ (.refl _) (.aj hid) ⟨by simp[zA,d1,Bf.jW,e1,ax],rfl⟩
 have e1:v.kind≠1:=by simpa using k1
 cases k4:(v.kind==4)
 case true=>
  have e4:v.kind=4:=by simpa using k4
  simp -implicitDefEqProofs only[go_sem,d1,k1,k4];refine(nq _ _ hi ht2).pthen ?_;have c1:0+1+(Lib.itoa v.n).length<lim:=acu;simp -implicitDefEqProofs only[go_sem,c1];exact .mk _ (.refl _) (.aj hid) ⟨by simp[zA,d1,Bf.jW,e4,ax],rfl⟩
 have e4:v.kind≠4:=by simpa using k4
 cases k5:(v.kind==5)
 case true=>
  have e5:v.kind=5:=by simpa using k5
  have hn:v.s.length≤16:=by
   have:=d1;unfold bx at this;simp[e5]at this;exact AR this.2
  have c1:0+1+v.s.length<lim:=acu;simp -implicitDefEqProofs only[go_sem,d1,k1,k4,k5,c1];exact .mk _ (.refl _) (.aj hid) ⟨by simp[zA,d1,Bf.jW,e5,ax],rfl⟩
 have e5:v.kind≠5:=by simpa using k5
 cases k3:(v.kind==3)
 case true=>
  have e3:v.kind=3:=by simpa using k3
  have hn:v.s.length≤64:=by
   have:=d1;unfold bx at this;simp[e3]at this;exact this.2
  simp -implicitDefEqProofs only[go_sem,d1,k1,k4,k5,k3];refine(Q _ _ hn).pthen ?_;simp -implicitDefEqProofs only[go_sem];exact .mk _ (.refl _) (.aj hid) ⟨by simp[zA,d1,Bf.jW,e3,ax],rfl⟩
 have e3:v.kind≠3:=by simpa using k3
 simp -implicitDefEqProofs only[go_sem,d1,k1,k4,k5,k3];refine(nq _ _ hi ht2).pthen ?_;simp -implicitDefEqProofs only[go_sem];exact .mk _ (.refl _) (.aj hid) ⟨by simp[zA,d1,Bf.jW,e1,e4,e5,e3,ax],rfl⟩
end Go.Proofs.YtcochaoekecfdaaGreatDoor
namespace Go.Proofs
open Go.Shelf
def Tryz.wu:Go.Shelf.Ren:=⟨fun|166=>193|167=>192|169=>194|240=>232|276=>266|n=>n,fun|31=>77|72=>278|76=>235|70=>276|37=>41|75=>234|127=>314|164=>349|80=>246|n=>n,fun|n=>n⟩
theorem Tryz.N8:Go.Proofs.Lays.n167 Tryz.prog Tryz.wu:={
 mixed:=acw
 f167:=Tryz.func192.trans (congrArg some acw)
 f240:=Tryz.func232.trans (congrArg some acw)
 f276:=Tryz.func266.trans (congrArg some acw)
 t0:=Tryz.underlying0
 a0:=Tryz.isAgg0
 z0:=Tryz.sizeOf0
 v0:=Tryz.zeroValue0
 t4:=Tryz.underlying4
 a4:=Tryz.isAgg4
 z4:=Tryz.sizeOf4
 v4:=Tryz.zeroValue4
 t5:=Tryz.underlying5
 a5:=Tryz.isAgg5
 z5:=Tryz.sizeOf5
 v5:=Tryz.zeroValue5
 t9:=Tryz.underlying9
 a9:=Tryz.isAgg9
 z9:=Tryz.sizeOf9
 v9:=Tryz.zeroValue9
 t20:=Tryz.underlying20
 a20:=Tryz.isAgg20
 z20:=Tryz.sizeOf20
 v20:=Tryz.zeroValue20
 t37:=Tryz.underlying41
 a37:=Tryz.isAgg41
 z37:=Tryz.sizeOf41
 v37:=Tryz.zeroValue41
 t70:=Tryz.underlying276
 a70:=Tryz.isAgg276
 z70:=Tryz.sizeOf276
 v70:=Tryz.zeroValue276
 t72:=Tryz.underlying278
 a72:=Tryz.isAgg278
 z72:=Tryz.sizeOf278
 v72:=Tryz.zeroValue278
 t75:=Tryz.underlying234
 a75:=Tryz.isAgg234
 z75:=Tryz.sizeOf234
 v75:=Tryz.zeroValue234
 t164:=Tryz.underlying349
 a164:=Tryz.isAgg349
 z164:=Tryz.sizeOf349
 v164:=Tryz.zeroValue349
}
def Tryz.wq:Go.Shelf.Ren:=⟨fun|166=>193|167=>192|169=>194|240=>232|276=>266|n=>n,fun|31=>77|72=>278|76=>235|70=>276|37=>41|75=>234|127=>314|164=>349|80=>246|n=>n,fun|n=>n⟩
theorem Tryz.N7:Go.Proofs.Lays.n166 Tryz.prog Tryz.wq:={
 mixed:=acw
 f166:=Tryz.func193.trans (congrArg some acw)
 f240:=Tryz.func232.trans (congrArg some acw)
 f276:=Tryz.func266.trans (congrArg some acw)
 t0:=Tryz.underlying0
 a0:=Tryz.isAgg0
 z0:=Tryz.sizeOf0
 v0:=Tryz.zeroValue0
 t3:=Tryz.underlying3
 a3:=Tryz.isAgg3
 z3:=Tryz.sizeOf3
 v3:=Tryz.zeroValue3
 t4:=Tryz.underlying4
 a4:=Tryz.isAgg4
 z4:=Tryz.sizeOf4
 v4:=Tryz.zeroValue4
 t9:=Tryz.underlying9
 a9:=Tryz.isAgg9
 z9:=Tryz.sizeOf9
 v9:=Tryz.zeroValue9
 t20:=Tryz.underlying20
 a20:=Tryz.isAgg20
 z20:=Tryz.sizeOf20
 v20:=Tryz.zeroValue20
 t37:=Tryz.underlying41
 a37:=Tryz.isAgg41
 z37:=Tryz.sizeOf41
 v37:=Tryz.zeroValue41
 t70:=Tryz.underlying276
 a70:=Tryz.isAgg276
 z70:=Tryz.sizeOf276
 v70:=Tryz.zeroValue276
 t72:=Tryz.underlying278
 a72:=Tryz.isAgg278
 z72:=Tryz.sizeOf278
 v72:=Tryz.zeroValue278
 t75:=Tryz.underlying234
 a75:=Tryz.isAgg234
 z75:=Tryz.sizeOf234
 v75:=Tryz.zeroValue234
 t164:=Tryz.underlying349
 a164:=Tryz.isAgg349
 z164:=Tryz.sizeOf349
 v164:=Tryz.zeroValue349
}
def Tryz.wz:Go.Shelf.Ren:=⟨fun|166=>193|167=>192|169=>194|240=>232|276=>266|n=>n,fun|31=>77|72=>278|76=>235|70=>276|37=>41|75=>234|127=>314|164=>349|80=>246|n=>n,fun|n=>n⟩
theorem Tryz.N9:Go.Proofs.Lays.n169 Tryz.prog Tryz.wz:={
 mixed:=acw
 f169:=Tryz.func194.trans (congrArg some acw)
 t0:=Tryz.underlying0
 a0:=Tryz.isAgg0
 z0:=Tryz.sizeOf0
 v0:=Tryz.zeroValue0
 t3:=Tryz.underlying3
 a3:=Tryz.isAgg3
 z3:=Tryz.sizeOf3
 v3:=Tryz.zeroValue3
 t9:=Tryz.underlying9
 a9:=Tryz.isAgg9
 z9:=Tryz.sizeOf9
 v9:=Tryz.zeroValue9
 t37:=Tryz.underlying41
 a37:=Tryz.isAgg41
 z37:=Tryz.sizeOf41
 v37:=Tryz.zeroValue41
 t70:=Tryz.underlying276
 a70:=Tryz.isAgg276
 z70:=Tryz.sizeOf276
 v70:=Tryz.zeroValue276
 t72:=Tryz.underlying278
 a72:=Tryz.isAgg278
 z72:=Tryz.sizeOf278
 v72:=Tryz.zeroValue278
 t127:=Tryz.underlying314
 a127:=Tryz.isAgg314
 z127:=Tryz.sizeOf314
 v127:=Tryz.zeroValue314
}
theorem Tryz.sM:Builder.Extra Tryz.prog Tryz.wu where
 sizeBuilder:=acw
 liesBuilder:=acw
 t5:=Tryz.underlying5
 a5:=Tryz.isAgg5
 z5:=Tryz.sizeOf5
 v5:=Tryz.zeroValue5
 infoByte:=acw
 cellsByte:=acw
 sizeByte:=acw
 neB5:=acz
theorem Tryz.sJ:Builder.Extra Tryz.prog Tryz.wq where
 sizeBuilder:=acw
 liesBuilder:=acw
 t5:=Tryz.underlying5
 a5:=Tryz.isAgg5
 z5:=Tryz.sizeOf5
 v5:=Tryz.zeroValue5
 infoByte:=acw
 cellsByte:=acw
 sizeByte:=acw
 neB5:=acz
theorem Tryz.sN:Builder.Extra Tryz.prog Tryz.wz where
 sizeBuilder:=acw
 liesBuilder:=acw
 t5:=Tryz.underlying5
 a5:=Tryz.isAgg5
 z5:=Tryz.sizeOf5
 v5:=Tryz.zeroValue5
 infoByte:=acw
 cellsByte:=acw
 sizeByte:=acw
 neB5:=acz
theorem Tryz.Builder_WriteByte_k(B b:Nat)(bs:List Value)(c:Int)(w:World)(h:Lib.IsBuilderF 278 5 B b bs w)(hlen:bs.length+1≤140737488355328)(hBw:B≤w.heap.size):
  Calls Tryz.prog 192 #[.pointer (some ⟨b,0,none⟩),.int .u8 c] w fun e w' =>e= .returned .nilIface∧(Lib.BuilderAtF 278 5 B b (.pointer (some ⟨b,0,none⟩)) (bs++ [.int .u8 c]) w'∧RowKit.Below B w w'∧Lib.OthersKept 5 (some b) w w'):=Any.Builder_WriteByte_k Tryz.N8 Tryz.sM B b bs c w h hlen hBw
theorem Tryz.Builder_WriteString_k(B b:Nat)(bs:List Value)(s:ByteArray)(w:World)(h:Lib.IsBuilderF 278 5 B b bs w)(hlen:bs.length+s.size≤140737488355328)(hBw:B≤w.heap.size):
  Calls Tryz.prog 193 #[.pointer (some ⟨b,0,none⟩),.string s] w fun e w' =>e= .returned (.tuple #[.int .i64 s.size,.nilIface])∧(Lib.BuilderAtF 278 5 B b (.pointer (some ⟨b,0,none⟩)) (bs++Lib.strCells s) w'∧RowKit.Below B w w'∧Lib.OthersKept 5 (some b) w w'):=Any.Builder_WriteString_k Tryz.N7 Tryz.sJ B b bs s w h hlen hBw
theorem Tryz.Builder_String_k(B b:Nat)(l:List UInt8)(w:World)(h:Lib.IsBuilderF 278 5 B b (Lib.byteCells l) w)(h0:l≠ []):
  Calls Tryz.prog 194 #[.pointer (some ⟨b,0,none⟩)] w fun e w' =>e= .returned (.string ⟨l.toArray⟩)∧(Lib.IsBuilderF 278 5 B b (Lib.byteCells l) w'∧RowKit.Below B w w'∧Lib.OthersKept 5 (some b) w w'):=Any.Builder_String_k Tryz.N9 Tryz.sN B b l w h h0
end Go.Proofs
namespace Go.Proofs
open Go.RowKit
def Tryz.cQ(s:ByteArray)(k:Nat):List UInt8:=[34]++((s.data.toList.take k).map Bf.nO).flatten
theorem Tryz.W4:∀c:Fin 256,bits BinOp.and IntKind.u8 (c.val:Int) 15=((c.val % 16:Nat):Int):=acz
theorem Tryz.Dl(n:Nat)(hn:n<16)(w:World):(Instr.slice 9 (Value.string {data:= #[48,49,50,51,52,53,54,55,56,57,97,98,99,100,101,102]}) (some (.int .u8 (n:Int))) (some (.int .u8 (IntKind.u8.wrap ((n:Int)+1)))) none).run Tryz.prog w= .ok (.string ⟨#[Bf.FE n]⟩) w:=by
 have e:IntKind.u8.wrap ((n:Int)+1)=((n+1:Nat):Int):=by
  have:n=0∨n=1∨n=2∨n=3∨n=4∨n=5∨n=6∨n=7∨n=8∨n=9∨n=10∨n=11∨n=12∨n=13∨n=14∨n=15:=acu;rcases this with rfl|rfl|rfl|rfl|rfl|rfl|rfl|rfl|rfl|rfl|rfl|rfl|rfl|rfl|rfl|rfl<;>decide
 rw[e,run_slice_string w 9 _ .u8 .u8 (n:Int) ((n+1:Nat):Int) Tryz.underlying9 acu acu (by show((n+1:Nat):Int)≤16;omega)]
 have:n=0∨n=1∨n=2∨n=3∨n=4∨n=5∨n=6∨n=7∨n=8∨n=9∨n=10∨n=11∨n=12∨n=13∨n=14∨n=15:=acu;rcases this with rfl|rfl|rfl|rfl|rfl|rfl|rfl|rfl|rfl|rfl|rfl|rfl|rfl|rfl|rfl|rfl<;>rfl
theorem Tryz.tW(s:ByteArray)(k:Nat)(hk:k≤s.size)(hs:s.size≤64):(Tryz.cQ s k).length≤193:=by
 have:∀l:List UInt8,((l.map Bf.nO).flatten).length≤3*l.length:=fun l=>by
  induction l with
  |nil=>simp
  |cons c r ih=>
   have:(Bf.nO c).length≤3:=by unfold Bf.nO;split<;>simp
   simp only[List.map_cons,List.flatten_cons,acn,List.length_cons]at ih⊢;omega
 have h1:=this (s.data.toList.take k);have h2:(s.data.toList.take k).length≤64:=by
  have:s.size=s.data.toList.length:=Array.length_toList.symm;simp;omega
 unfold Tryz.cQ;simp only[acn,List.length_cons,List.length_nil];omega
theorem Tryz.qP(s:ByteArray)(k:Nat)(hk:k<s.size):Tryz.cQ s (k+1)=Tryz.cQ s k++Bf.nO s[k]:=by
 have e:s.size=s.data.toList.length:=Array.length_toList.symm;have hk2:k<s.data.toList.length:=acu;unfold Tryz.cQ;rw[List.take_succ_eq_append_getElem hk2,List.map_append,List.flatten_append];simp only[List.map_cons,List.map_nil,List.flatten_cons,List.flatten_nil,List.append_nil,List.append_assoc];rfl
theorem Tryz.zW(s:ByteArray):Tryz.cQ s s.size++ [34]=Bf.nP s.data.toList:=by
 have e:s.size=s.data.toList.length:=Array.length_toList.symm;unfold Tryz.cQ Bf.nP;rw[e,List.take_length]
theorem Tryz.rB(s:ByteArray)(k:Nat)(hk:k<s.size)(ho:Bf.tG s[k]=true):
  Lib.byteCells (Tryz.cQ s k)++Lib.strCells (({data:= #[92]}:ByteArray)++ {data:= #[Bf.FE (s[k].toNat / 16)]}++ {data:= #[Bf.FE (s[k].toNat % 16)]})=Lib.byteCells (Tryz.cQ s (k+1)):=by
 rw[Tryz.qP s k hk,Lib.byteCells_append]
 congr 1
 rw[Bf.nO,if_pos ho];rfl
theorem Tryz.Fg(s:ByteArray)(k:Nat)(hk:k<s.size)(ho:Bf.tG s[k]=false):
  Lib.byteCells (Tryz.cQ s k)++ [Value.int .u8 (s[k].toNat:Int)]=Lib.byteCells (Tryz.cQ s (k+1)):=by
 rw[Tryz.qP s k hk,Lib.byteCells_append]
 congr 1
 rw[Bf.nO,if_neg (by simp[ho])]
 rfl
set_option maxHeartbeats 4000000 in
theorem Tryz.D8(s:ByteArray)(w:World)(hs:s.size≤64):
  Calls Tryz.prog 156 #[.string s] w fun e w' =>e= .returned (.string ⟨(Bf.nP s.data.toList).toArray⟩)∧Below w.heap.size w w' :=by
 go_enter Tryz.func156,Tryz.ntmps156
 go_wp2_with (go_at_call 192;refine(Tryz.Builder_WriteByte_k w.heap.size w.heap.size [] 34 _ (Lib.IsBuilderF.of (Lib.fresh_isBuilder 278 5 w)) acD acD).mono ?_)
 rintro e W0 ⟨rfl,h0,b0,_⟩
 go_wp2
 go_loopw [9] (fun v wr=>∃k:Nat,v= .int .i64 k∧k≤s.size∧Lib.IsBuilderF 278 5 w.heap.size w.heap.size (Lib.byteCells (Tryz.cQ s k)) wr∧Below w.heap.size w wr) (fun v _=>s.size - (intOf v).toNat)
 case atStart=>
  refine⟨0,rfl,acu,?_,?_⟩
  ·exact Or.inr h0
  ·exact((Below.refl _ w).alloc (Nat.le_refl _) _).trans b0
 case round=>
  obtain⟨k,rfl,hk,hI,hbw⟩:=hrel
  by_cases hp:k<s.size
  ·have hx1:∀w,(Instr.slice 9 (Value.string {data:= #[48,49,50,51,52,53,54,55,56,57,97,98,99,100,101,102]}) (some (.int .u8 ((s[k].toNat:Int) / 16))) (some (.int .u8 (IntKind.u8.wrap ((s[k].toNat:Int) / 16+1)))) none).run Tryz.prog w= .ok (.string ⟨#[Bf.FE (s[k].toNat / 16)]⟩) w:=
    fun w=>Tryz.Dl (s[k].toNat / 16) (by have:=s[k].toNat_lt;omega) w
   have hb:bits BinOp.and IntKind.u8 (s[k].toNat:Int) 15=((s[k].toNat % 16:Nat):Int):=Tryz.W4 ⟨s[k].toNat,s[k].toNat_lt⟩;have hx2:∀w,(Instr.slice 9 (Value.string {data:= #[48,49,50,51,52,53,54,55,56,57,97,98,99,100,101,102]}) (some (.int .u8 (bits BinOp.and IntKind.u8 (s[k].toNat:Int) 15))) (some (.int .u8 (IntKind.u8.wrap (bits BinOp.and IntKind.u8 (s[k].toNat:Int) 15+1)))) none).run Tryz.prog w= .ok (.string ⟨#[Bf.FE (s[k].toNat % 16)]⟩) w:=by
    intro w;rw[hb];exact Tryz.Dl (s[k].toNat % 16) acu w
   clear hb;have hql:=Tryz.tW s k hk hs
   by_cases d1:(s[k].toNat:Int)<32
   ·go_wp2
    refine wp_region_still_tail 14 acw acw ?_;simp only[List.take_succ_cons,List.take_zero,List.drop_succ_cons,List.drop_zero]
    (repeat still_step)
    try refine wpStill_nil ?_
    have hI2:Lib.IsBuilderF 278 5 w.heap.size w.heap.size (Lib.byteCells (Tryz.cQ s k)) wr.drew:=hI;have hbw2:Below w.heap.size w wr.drew:=hbw.drew
    change wpList _ _ _ _ _ wr.drew
    generalize wr.drew=w2 at hI2 hbw2⊢
    go_wp2_with (go_at_call 193;refine(Tryz.Builder_WriteString_k w.heap.size w.heap.size _ _ _ hI2 adV hbw2.size).mono ?_)
    rintro e W1 ⟨rfl,h1,b1,_⟩
    go_wp2
    go_roundw
    case rel=>
     refine⟨k+1,by go_num,acu,?_,hbw2.trans b1⟩
     rw[←Tryz.rB s k hp (by simp[Bf.tG,d1])]
     exact agn
    case measure=>simp[intOf];omega
   by_cases d2:126<(s[k].toNat:Int)
   ·go_wp2
    refine wp_region_still_tail 14 acw acw ?_;simp only[List.take_succ_cons,List.take_zero,List.drop_succ_cons,List.drop_zero]
    (repeat still_step)
    try refine wpStill_nil ?_
    have hI2:Lib.IsBuilderF 278 5 w.heap.size w.heap.size (Lib.byteCells (Tryz.cQ s k)) wr.drew:=hI;have hbw2:Below w.heap.size w wr.drew:=hbw.drew
    change wpList _ _ _ _ _ wr.drew
    generalize wr.drew=w2 at hI2 hbw2⊢
    go_wp2_with (go_at_call 193;refine(Tryz.Builder_WriteString_k w.heap.size w.heap.size _ _ _ hI2 adV hbw2.size).mono ?_)
    rintro e W1 ⟨rfl,h1,b1,_⟩
    go_wp2
    go_roundw
    case rel=>
     refine⟨k+1,by go_num,acu,?_,hbw2.trans b1⟩
     rw[←Tryz.rB s k hp (by simp[Bf.tG,d2])]
     exact agn
    case measure=>simp[intOf];omega
   cases d3:((s[k].toNat:Int)==34)
   case true=>
    go_wp2
    refine wp_region_still_tail 14 acw acw ?_;simp only[List.take_succ_cons,List.take_zero,List.drop_succ_cons,List.drop_zero]
    (repeat still_step)
    try refine wpStill_nil ?_
    have hI2:Lib.IsBuilderF 278 5 w.heap.size w.heap.size (Lib.byteCells (Tryz.cQ s k)) wr.drew:=hI;have hbw2:Below w.heap.size w wr.drew:=hbw.drew
    change wpList _ _ _ _ _ wr.drew
    generalize wr.drew=w2 at hI2 hbw2⊢
    go_wp2_with (go_at_call 193;refine(Tryz.Builder_WriteString_k w.heap.size w.heap.size _ _ _ hI2 adV hbw2.size).mono ?_)
    rintro e W1 ⟨rfl,h1,b1,_⟩
    go_wp2
    go_roundw
    case rel=>
     refine⟨k+1,by go_num,acu,?_,hbw2.trans b1⟩
     rw[←Tryz.rB s k hp (by simp[Bf.tG,d3])]
     exact agn
    case measure=>simp[intOf];omega
   cases d4:((s[k].toNat:Int)==92)
   case true=>
    go_wp2
    refine wp_region_still_tail 14 acw acw ?_;simp only[List.take_succ_cons,List.take_zero,List.drop_succ_cons,List.drop_zero]
    (repeat still_step)
    try refine wpStill_nil ?_
    have hI2:Lib.IsBuilderF 278 5 w.heap.size w.heap.size (Lib.byteCells (Tryz.cQ s k)) wr.drew:=hI;have hbw2:Below w.heap.size w wr.drew:=hbw.drew
    change wpList _ _ _ _ _ wr.drew
    generalize wr.drew=w2 at hI2 hbw2⊢
    go_wp2_with (go_at_call 193;refine(Tryz.Builder_WriteString_k w.heap.size w.heap.size _ _ _ hI2 adV hbw2.size).mono ?_)
    rintro e W1 ⟨rfl,h1,b1,_⟩
    go_wp2
    go_roundw
    case rel=>
     refine⟨k+1,by go_num,acu,?_,hbw2.trans b1⟩
     rw[←Tryz.rB s k hp (by simp[Bf.tG,d4])]
     exact agn
    case measure=>simp[intOf];omega
   go_wp2_with (go_at_call 192;refine(Tryz.Builder_WriteByte_k w.heap.size w.heap.size _ _ _ hI (by rw[Lib.byteCells_length];omega) hbw.size).mono ?_)
   rintro e W1 rfl h1 b1 _
   go_wp2
   go_roundw
   case rel=>
    refine⟨k+1,by go_num,acu,?_,hbw.trans b1⟩
    rw[←Tryz.Fg s k hp (by simp[Bf.tG,d1,d2,d3,d4])]
    exact agn
   case measure=>simp[intOf];omega
  ·have hk2:k=s.size:=by omega
   subst hk2;have hql:=Tryz.tW s s.size hk hs
   go_wp2_with (go_at_call 192;refine(Tryz.Builder_WriteByte_k w.heap.size w.heap.size _ _ _ hI (by rw[Lib.byteCells_length];omega) hbw.size).mono ?_)
   rintro e W1 ⟨rfl,h1,b1,_⟩
   have e34:Lib.byteCells (Tryz.cQ s s.size)++ [Value.int .u8 34]=Lib.byteCells (Bf.nP s.data.toList):=by
    rw[←Tryz.zW,Lib.byteCells_append];rfl
   rw[e34]at h1
   go_wp2_with (go_at_call 194;refine(Tryz.Builder_String_k w.heap.size w.heap.size _ _ (Or.inr h1) (by simp[Bf.nP])).mono ?_)
   rintro e W2 ⟨rfl,_,b2,_⟩
   go_wp2
   go_ret
   exact⟨rfl,(hbw.trans b1).trans b2⟩
end Go.Proofs
namespace Go.Proofs.YtcochaoekecfdaaGreatDoor
open Go Go.Ab Go.Bf
theorem JE:Quoted:=fun s h hs=>by
 refine .lib ⟨_,Tryz.func156,acw,rfl⟩ fun c vs hs' g h1 h2=>?_
 obtain⟨v,rfl⟩:∃v,vs= #[v]:=Array.size_eq_one_iff.1 h1;have e:v= .string ⟨s.toArray⟩:=((h2 0 acD).lf).1;subst e;refine(Tryz.D8 ⟨s.toArray⟩ c.w (by simpa[ByteArray.size]using hs)).mono ?_
 rintro e w' ⟨rfl,hb⟩
 have hl:=A4 s hs;exact⟨⟨_,rfl,fun c' _=> .s _ (by show(nP s).length<lim;have:(194:Nat)<lim:=acz;omega)⟩,hb⟩
end Go.Proofs.YtcochaoekecfdaaGreatDoor
namespace Go.Ab
open Go
inductive Av (F:Nat→Prop):AV→Prop where
 |v (x:Value):Av F (.v x)
 |s (l:List UInt8):Av F (.s l)
 |agg (xs:List AV) (h:∀x∈xs,Av F x):Av F (.agg xs)
 |tup (xs:List AV) (h:∀x∈xs,Av F x):Av F (.tup xs)
 |sl (xs:List AV) (p:Perm) (h:∀x∈xs,Av F x) (hp:∀id,p= .own id→¬F id):Av F (.sl xs p)
 |pe (x:AV) (o:Nat) (h:Av F x):Av F (.pe x o)
 |ptr (id o:Nat) (h:¬F id):Av F (.ptr id o)
 |oa (id o l:Nat) (h:¬F id):Av F (.oa id o l)
 |ob (id o l c z:Nat) (h:¬F id):Av F (.ob id o l c z)
 |ifc (t:TypeId) (x:AV) (h:Av F x):Av F (.ifc t x)
 |fn (f:FuncId) (xs:List AV) (h:∀x∈xs,Av F x):Av F (.fn f xs)
 |mp (id:Nat) (h:¬F id):Av F (.mp id)
theorem Av.cells{F:Nat→Prop}{x:AV}(h:Av F x):∀y∈x.cells,Av F y:=by
 cases h with
 |agg xs hx=>exact hx
 |_=>intro y hy;rw[List.mem_singleton.1 hy];constructor<;>assumption
theorem Av.DO{F:Nat→Prop}{x:AV}(h:∀y∈x.cells,Av F y):Av F x:=by
 cases x with
 |agg xs=>exact .agg xs h
 |_=>exact h _ (List.mem_singleton.2 rfl)
theorem Rep.av{c:Cx}{F:Nat→Prop}(hF:∀id,F id→c.h id=none){x:AV}{u:Value}(h:Rep c x u):Av F x:=by
 have nf:∀ {id:Nat} {k:Blk},c.h id=some k→¬F id:=fun hk hf=>acv
 induction h with
 |v x=>exact .v x
 |s l hl=>exact .s l
 |agg xs vs hn hr ho ih=>exact .agg xs fun x hx=>aee
 |tup xs vs hn hr ih=>exact .tup xs fun x hx=>aee
 |sl xs p a cap sz val hc hm h0 hs hz hf hr ho hp ih=>
  refine .sl xs p (fun x hx=>?_) fun id e=>?_
  ·obtain⟨i,hi,rfl⟩:=List.mem_iff_getElem.1 hx
   refine .DO fun y hy=>?_
   obtain⟨j,hj,rfl⟩:=List.mem_iff_getElem.1 hy
   grind
  ·subst e
   obtain⟨m,h1,_⟩:=hp
   grind
 |pe x off b o val hb hf hr ho ih=>
  refine .pe x off (.DO fun y hy=>?_)
  obtain⟨j,hj,rfl⟩:=List.mem_iff_getElem.1 hy
  grind
 |ptr id off cs t h=>exact .ptr _ _ (nf h)
 |oa id off len cap o cs t h hc hm ho=>exact .oa _ _ _ (nf h)
 |ob id off len cap sz o cs t h hc hm ho=>exact .ob _ _ _ _ _ (nf h)
 |ifc t x u h ih=>exact .ifc t x ih
 |fn f xs vs hn hr ih=>exact .fn f xs fun x hx=>aee
 |mp id m h=>exact .mp _ (nf h)
noncomputable def Cx.back (c' :Cx) (g:Heap):Cx:={c' with h:=fun id=>if g id=none then none else c'.h id}
theorem uy{c' :Cx}{g:Heap}{id:Nat}{k:Blk}(h:(c'.back g).h id=some k):g id≠none∧c'.h id=some k:=by
 grind [Cx.back]
theorem kD{c' :Cx}{g:Heap}{id:Nat}(h:g id≠none):(c'.back g).h id=c'.h id:=by
 simp_all [Cx.back,if_false]
theorem xK{c' :Cx}{g:Heap}{b o:Nat}(h:owned (c'.back g) b o):owned c' b o:=by
 obtain⟨id,k,h1,h2,h3⟩:=h;exact⟨id,k,(uy h1).2,h2,h3⟩
theorem xJ{c' :Cx}{g:Heap}{b o:Nat}{u:Value}(h:fix c' b o u):fix (c'.back g) b o u:=⟨h.1,fun ho=>h.2 (xK ho)⟩
theorem Rep.back{c' :Cx}{g:Heap}{x:AV}{u:Value}(h:Rep c' x u)(ha:Av (fun id=>g id=none) x):Rep (c'.back g) x u:=by
 induction h with
 |v x=>exact .v x
 |s l hl=>exact .s l hl
 |agg xs vs hn hr ho ih=>cases ha with|agg _ ha=>exact .agg xs vs hn acv ho
 |tup xs vs hn hr ih=>cases ha with|tup _ ha=>exact .tup xs vs hn acv
 |sl xs p a cap sz val hc hm h0 hs hz hf hr ho hp ih=>
  cases ha with
  |sl _ _ ha hq=>
   refine .sl xs p a cap sz val hc hm h0 hs hz (by grind [xJ]) (fun i hi j hj=>ih i hi j hj ((ha _ (aco hi)).cells _ (aco hj))) ho ?_
   cases p with
   |no=>trivial
   |full=>exact hp
   |own id=>
    obtain⟨m,h1,h2,h3⟩:=hp;exact⟨m,by rw[kD (hq id rfl)];omega,h2,h3⟩
 |pe x off b o val hb hf hr ho ih=>
  cases ha with
  |pe _ _ ha=>exact .pe x off b o val hb (by grind [xJ]) (fun j hj=>ih j hj (ha.cells _ (aco hj))) ho
 |ptr id off cs t h=>cases ha with|ptr _ _ ha=>exact .ptr id off cs t (by grind [kD])
 |oa id off len cap o cs t h hc hm ho=>cases ha with|oa _ _ _ ha=>exact .oa id off len cap o cs t (by grind [kD]) hc hm ho
 |ob id off len cap sz o cs t h hc hm ho=>cases ha with|ob _ _ _ _ _ ha=>exact .ob id off len cap sz o cs t (by grind [kD]) hc hm ho
 |ifc t x u h ih=>cases ha with|ifc _ _ ha=>exact .ifc t x u (ih ha)
 |fn f xs vs hn hr ih=>cases ha with|fn _ _ ha=>exact .fn f xs vs hn acv
 |mp id m h=>cases ha with|mp _ ha=>exact .mp id m (by grind [kD])
inductive Frz (g h:Heap):AV→AV→Prop where
 |keep (x:AV) (ha:Av (fun id=>g id=none) x):Frz g h x x
 |agg (xs ys:List AV) (hn:xs.length=ys.length) (hr:∀i (h1:i<xs.length) (h2:i<ys.length),Frz g h xs[i] ys[i]):Frz g h (.agg xs) (.agg ys)
 |tup (xs ys:List AV) (hn:xs.length=ys.length) (hr:∀i (h1:i<xs.length) (h2:i<ys.length),Frz g h xs[i] ys[i]):Frz g h (.tup xs) (.tup ys)
 |sl (xs ys:List AV) (p:Perm) (hn:xs.length=ys.length) (hz:∀i (h1:i<xs.length) (h2:i<ys.length),xs[i].cells.length=ys[i].cells.length)
   (hr:∀i (h1:i<xs.length) (h2:i<ys.length) j (h3:j<xs[i].cells.length) (h4:j<ys[i].cells.length),Frz g h xs[i].cells[j] ys[i].cells[j]):Frz g h (.sl xs p) (.sl ys .no)
 |ob (id off len cap sz:Nat) (cs:List AV) (t:TypeId) (ys:List AV) (hg:g id=none) (hh:h id=some (.obj cs t)) (hl:off+len*sz≤cs.length) (hn:ys.length=len) (hz:∀i (h1:i<ys.length),ys[i].cells.length=sz)
   (hr:∀i (h1:i<ys.length) j (h3:j<ys[i].cells.length) (h4:off+(i*sz+j)<cs.length),Frz g h (cs[off+(i*sz+j)]) ys[i].cells[j]):Frz g h (.ob id off len cap sz) (.sl ys .no)
 |ptr (id off:Nat) (cs:List AV) (t:TypeId) (ys:List AV) (hg:g id=none) (hh:h id=some (.obj cs t)) (hn:cs.length=ys.length) (hr:∀i (h1:i<cs.length) (h2:i<ys.length),Frz g h cs[i] ys[i]):Frz g h (.ptr id off) (.pe (.agg ys) off)
 |ifc (t:TypeId) (x y:AV) (hr:Frz g h x y):Frz g h (.ifc t x) (.ifc t y)
theorem Frz.rep{c' :Cx}{g h:Heap}(gd:Good c')(hh:Sub h c'.h){x y:AV}(hz:Frz g h x y):∀ {u:Value},Rep c' x u→Rep (c'.back g) y u:=by
 have nown:∀ {id:Nat} {k:Blk} {o:Nat},g id=none→h id=some k→¬owned (c'.back g) (c'.φ id).block o:=fun {id k o} h1 h2 ho=>by
  obtain⟨j,l,h3,h4,h5⟩:=ho;obtain⟨h6,h7⟩:=uy h3;exact gd.inj j id l k h7 (hh _ _ h2) (fun e=>h6 acv) h4
 induction hz with
 |keep x ha=>exact fun hr=>hr.back ha
 |agg xs ys hn hr ih=>
  intro u hu;obtain⟨vs,rfl,h1,h2,h3⟩:=hu.oF;exact .agg ys vs acu (fun i hi=>ih i acu hi (h2 i acu)) fun i hi=>h3 i acu
 |tup xs ys hn hr ih=>
  intro u hu;obtain⟨vs,rfl,h1,h2⟩:=hu.Cn;exact .tup ys vs acu (fun i hi=>ih i acu hi (h2 i acu))
 |sl xs ys p hn hz hr ih=>
  intro u hu;obtain⟨a,cap,sz,val,rfl,hs⟩:=hu.iu;rw[hn];have hcap:=hs.hc;refine .sl ys .no a cap sz val acu hs.hm hs.h0 hs.hs (fun i hi=>by rw[←hz i acu hi];exact hs.hz i acu) (fun q hq i j hi hj=>xJ (hs.hf q hq i j acu hj)) (fun i hi j hj=>?_) (fun i j hi hj=>hs.ho i j acu hj) trivial
  exact ih i acu hi j acv hj (hs.hr i acu j acv)
 |ob id off len cap sz cs t ys hg hid hl hn hz hr ih=>
  intro u hu;obtain⟨o,rfl,h1,h2,cs',t',h3,h4⟩:=hu.jl;have hcid:=hh _ _ hid;obtain⟨vs,v1,v2,v3⟩:=gd.obj id cs t hcid;subst hn;have hbd:∀i j,i<ys.length→j<sz→i*sz+j<ys.length*sz:=fun i j hi hj=>by
   have:(i+1)*sz≤ys.length*sz:=Nat.mul_le_mul_right _ acu;rw[Nat.add_mul,Nat.one_mul]at this;omega
  refine .sl ys .no _ cap sz (fun i j=>vs.getD (off+(i*sz+j)) undef) h1 h2 (fun e=>acV) (fun q hq _=>?_) hz (fun q hq i j hi hj=>?_) (fun i hi j hj=>?_) (fun i j hi hj=>(v3 _ acv).2) trivial
  ·cases hq
   exact⟨rfl,gd.lt hcid⟩
  ·cases hq
   obtain⟨rfl,_⟩:=h4 acu;have hb:=hbd i j hi hj;refine⟨?_,nown hg hid⟩;have:o+(i*sz+j)<vs.size:=acu;simp[World.cell?,Cx.back,v1,this]
  ·have hj' :j<sz:=by grind
   have hb:=hbd i j hi hj';exact ih i hi j hj acu (v3 _ acu).1
 |ptr id off cs t ys hg hid hn hr ih=>
  intro u hu;obtain⟨rfl,_⟩:=hu.kJ;have hcid:=hh _ _ hid;obtain⟨vs,v1,v2,v3⟩:=gd.obj id cs t hcid;have:=Rep.pe (c:=c'.back g) (.agg ys) off (c'.φ id).block 0 (fun j=>vs.getD j undef) (gd.lt hcid) (fun j hj=>by
    have hj' :j<ys.length:=hj;refine⟨?_,nown hg hid⟩
    simp_all [World.cell?,Cx.back]) (fun j hj=>by
    have hj' :j<ys.length:=hj;exact ih j acu hj' (v3 j acu).1) (fun j hj=>by
    have hj' :j<ys.length:=hj;exact(v3 j acu).2)
  rw[Nat.zero_add]at this;exact adi
 |ifc t x y hr ih=>
  intro u hu;cases hu with
  |ifc _ _ u' h=>exact .ifc t y _ (ih h)
theorem ai.freeze{P:Program}{f:FuncId}{args:List AV}{h:Heap}{Q:AV→Prop}
  (hf:∀g,Sub h g→(∀x∈args,Av (fun id=>g id=none) x)→ai P f args g fun r h' =>Sub g h'∧∃y,Frz g h' r y∧Q y):ai P f args h fun r h' =>Q r∧h' =h:=by
 intro c vs hs gd h1 h2;have hav:∀x∈args,Av (fun id=>c.h id=none) x:=fun x hx=>by
  obtain⟨i,hi,rfl⟩:=List.mem_iff_getElem.1 hx;exact(h2 i hi).av fun _ e=>e
 refine(hf c.h hs hav c vs (.refl _) gd h1 h2).mono ?_
 rintro u w' ⟨c',x,h',rfl,gd',hE,hr,hsub,hgh,y,hz,hq⟩
 have hkeep:∀id k,c.h id=some k→c'.h id=some k:=fun id k hk=>hsub _ _ (hgh _ _ hk)
 have hE2:Ext c (c'.back c.h):={
  os:=hE.os,tape:=hE.tape,output:=hE.output,size:=hE.size,block:=hE.block,cell:=hE.cell,shape:=hE.shape
  steal:=fun b o hb ho=>hE.steal b o hb (xK ho)
  obj:=fun id cs t hi=>by rw[kD acv];exact hE.obj id cs t hi
  spare:=fun id n sz hi=>by rw[kD acv];exact hE.spare id n sz hi
  mp:=fun id m hi=>by rw[kD acv];exact hE.mp id m hi
  ro:=fun id b vs hi=>by rw[kD acv];exact hE.ro id b vs hi}
 have hold:∀id k,(c'.back c.h).h id=some k→c.h id=some k∧c'.h id=some k:=fun id k hk=>by
  obtain⟨a1,a2⟩:=uy hk;cases hc:c.h id with
  |none=>grind
  |some k' =>grind
 refine⟨c'.back c.h,y,h,rfl,?_,hE2,hz.rep gd' hsub hr,fun id k hk=>?_,hq,rfl⟩
 ·refine⟨?_,fun i j k l hi hj hne=>gd'.inj i j k l (hold i k hi).2 (hold j l hj).2 hne,fun id cs t hi=>?_,fun id n sz hi=>gd'.spare id n sz (hold id _ hi).2,fun id m hi=>?_,fun id m hi=>gd'.keys id m (hold id _ hi).2,fun id b vs hi=>gd'.ro id b vs (hold id _ hi).2⟩
  ·obtain⟨N,hN⟩:=gd'.fin
   exact⟨N,fun id hid=>by grind [Cx.back]⟩
  ·obtain⟨vs,v1,v2,v3⟩:=gd'.obj id cs t (hold id _ hi).2
   obtain⟨vs0,w1,w2,w3⟩:=gd.obj id cs t (hold id _ hi).1;exact⟨vs,v1,v2,fun j hj=>⟨(v3 j hj).1.back ((w3 j hj).1.av fun _ e=>e),(v3 j hj).2⟩⟩
  ·obtain⟨es,cl,v1,v2,v3⟩:=gd'.mp id m (hold id _ hi).2
   obtain⟨es0,cl0,w1,w2,w3⟩:=gd.mp id m (hold id _ hi).1;exact⟨es,cl,v1,v2,fun i hi' hi2=>⟨(v3 i hi' hi2).1,(v3 i hi' hi2).2.back ((w3 i hi' acu).2.av fun _ e=>e)⟩⟩
 ·rw[kD (by rw[hs _ _ hk];simp)]
  exact hkeep id k (hs _ _ hk)
section
variable {P : Program} {U : TypeId → TI} {ρ : Env} {h h' : Heap} {sz : Nat} {y : AV} {xs : List AV} {e : TypeId}
def Rd(h:Heap)(sz:Nat)(y:AV)(xs:List AV):Prop:=
 Sized sz xs∧((∃q,y= .sl xs q)∨∃id off cap cs t,y= .ob id off xs.length cap sz∧h id=some (.obj cs t)∧off+xs.length*sz≤cs.length∧(cs.drop off).take (xs.length*sz)=au xs)
theorem Rd.sl(hs:Sized sz xs)(q:Perm):Rd h sz (.sl xs q) xs:=⟨hs,.inl ⟨q,rfl⟩⟩
theorem Rd.sub(hb:Rd h sz y xs)(hs:Sub h h'):Rd h' sz y xs:=by
 obtain⟨h1,hb|⟨id,off,cap,cs,t,rfl,h2,h3⟩⟩:=hb
 ·exact⟨h1,.inl hb⟩
 ·exact⟨h1,.inr ⟨id,off,cap,cs,t,rfl,hs _ _ h2,h3⟩⟩
theorem Rd.len(hb:Rd h sz y xs)(e:TypeId)(k:AV→Prop):wV y k (.slice e)=k (.i xs.length):=by
 exact ahJ
theorem Rd.cells(hb:Rd h sz y xs):y.cells= [y]:=by
 exact ahJ
theorem Rd.fit(hb:Rd h sz y xs)(m:Nat):fit y m=(m=1):=by
 exact ahJ
theorem Rd.src(hb:Rd h sz y xs)(hz:(U e).sz=sz){f:List AV→Prop}(hf:f xs):iA U e h y f:=by
 obtain⟨_,⟨q,rfl⟩|⟨id,off,cap,cs,t,rfl,h2,h3,h4⟩⟩:=hb
 ·exact hf
 ·rw[OP,h2]
  exact⟨hz.symm,xs,rfl,h3,h4.symm,hf⟩
def At(h:Heap)(p x:AV)(o:Nat):Prop:=p= .pe x o∨∃id a cs t,p= .ptr id (a+o)∧h id=some (.obj cs t)∧a+x.cells.length≤cs.length∧(cs.drop a).take x.cells.length=x.cells
theorem At.sub{p x:AV}{o:Nat}(ha:At h p x o)(hs:Sub h h'):At h' p x o:=by
 rcases ha with rfl|⟨id,a,cs,t,rfl,h2,h3⟩
 ·exact .inl rfl
 ·exact .inr ⟨id,a,cs,t,rfl,hs _ _ h2,h3⟩
theorem F5{cs:List AV}{x:AV}{a o:Nat}{i:TI}{k:AV→Prop}(h1:a+x.cells.length≤cs.length)(h2:(cs.drop a).take x.cells.length=x.cells)(h3:i.sz≠0)(h4:o+i.sz≤x.cells.length):iq cs (a+o) i k=iq x.cells o i k:=by
 unfold iq;split
 ·have e:(cs.drop (a+o)).take i.sz=(x.cells.drop o).take i.sz:=by
   grind [List.drop_take,List.drop_drop,Nat.min_eq_left]
  apply propext
  grind
 grind
theorem At.part{p x:AV}{o:Nat}(ha:At h p x o){ty:TypeId}(hz:(U ty).sz≠0)(hl:o+(U ty).sz≤x.cells.length)(k:AV→Prop):nv U h ty p k=iq x.cells o (U ty) k:=by
 rcases ha with rfl|⟨id,a,cs,t,rfl,h2,h3,h4⟩
 ·rw[LG]
  unfold atA;split
  ·rename_i hc
   obtain⟨rfl,hc2,hc3⟩:=hc;unfold iq;split
   ·rename_i hag
    rw[hag]at hc3;have:x= .agg x.cells:=by cases x<;>first|rfl|cases hc3
    rw[List.drop_zero,←hc2,List.take_length,Nat.zero_add,←this];simp
   simp_all [bz,false,nY]
  ·rfl
 ·rw[Jl,h2]
  exact F5 h3 h4 hz hl
theorem At.all{p x:AV}(ha:At h p x 0){ty:TypeId}(hz:(U ty).sz≠0)(hl:x.cells.length=(U ty).sz)(hg:bz x=(U ty).k.agg)(k:AV→Prop):nv U h ty p k=k x:=by
 rw[ha.part hz acu];unfold iq;split
 ·rename_i hag
  rw[hag]at hg;have:x= .agg x.cells:=by cases x<;>first|rfl|cases hg
  rw[List.drop_zero,←hl,List.take_length,Nat.zero_add,←this];simp
 simp_all [bz,false,nY]
theorem At.field{p x:AV}{o:Nat}(ha:At h p x o){f off:Nat}{t:TypeId}{fs:List (Nat×TypeId)}{K:AV→Prop}(hf:fs[f]? =some (off,t))(hz:(U t).sz≠0)(hk:∀p',At h p' x (o+off)→K p'):xY U f p K (.strct fs):=by
 rcases ha with rfl|⟨id,a,cs,t',rfl,h2,h3,h4⟩
 ·rw[IF,hf]
  exact⟨hz,hk _ (.inl rfl)⟩
 ·rw[Fi,hf]
  exact⟨hz,hk _ (.inr ⟨id,a,cs,t',acv,h2,h3,h4⟩)⟩
theorem Rd.idx(hb:Rd h sz y xs){m:Int}{x:IntKind}{K:AV→Prop}(j:Nat)(hm:m=j)(hj:j<xs.length)(hz:(U e).sz=sz)(h0:sz≠0)(hk:∀p,At h p xs[j] 0→K p):oR U y (.v (.int x m)) K (.slice e):=by
 subst hm;have hc:=hb.1 xs[j] (aco hj);obtain⟨hs,⟨q,rfl⟩|⟨id,off,cap,cs,t,rfl,h2,h3,h4⟩⟩:=hb
 ·refine(uL ..).mpr ⟨acu,?_⟩
  exact fA.at j hj acu (hk _ (.inl rfl))
 ·refine(AI ..).mpr ⟨acu,hz.symm,acu,acu,hk _ (.inr ⟨id,off+j*sz,cs,t,acD,h2,?_,?_⟩)⟩
  ·have:(j+1)*sz≤xs.length*sz:=Nat.mul_le_mul_right _ acu
   rw[Nat.add_mul,Nat.one_mul]at this;rw[hc];omega
  ·have e1:=oL hs j hj
   rw[←h4,List.drop_take,List.take_take,List.drop_drop]at e1;rw[hc];have:(j+1)*sz≤xs.length*sz:=acv;rw[Nat.add_mul,Nat.one_mul]at this;rw[Nat.min_eq_left acu]at e1;exact e1
def Ow(tb:TypeId)(h:Heap)(sz id:Nat)(y:AV)(xs:List AV):Prop:=
 ∃cap rest,y= .ob id 0 xs.length cap sz∧h id=some (.obj (au xs++rest) tb)∧rest.length=(cap - xs.length)*sz∧xs.length≤cap∧Sized sz xs
variable {tb : TypeId} {id : Nat}
theorem Ow.rd(hw:Ow tb h sz id y xs):Rd h sz y xs:=by
 obtain⟨cap,rest,rfl,h1,h2,h3,h4⟩:=hw;have hl:=aX h4;exact⟨h4,.inr ⟨id,0,cap,_,tb,rfl,h1,acv,acv⟩⟩
theorem Ow.sub(hw:Ow tb h sz id y xs)(hs:Sub h h'):Ow tb h' sz id y xs:=by
 obtain⟨cap,rest,e1,h1,h2⟩:=hw;exact⟨cap,rest,e1,hs _ _ h1,h2⟩
theorem Ow.same(hw:Ow tb h sz id y xs)(hs:h' id=h id):Ow tb h' sz id y xs:=by
 obtain⟨cap,rest,e1,h1,h2⟩:=hw;exact⟨cap,rest,e1,hs.trans h1,h2⟩
theorem Ow.none(hw:Ow tb h sz id y xs):h id≠Option.none:=by
 obtain⟨cap,rest,e1,h1,h2⟩:=hw
 grind
theorem Ow.make{cs:List AV}{cap:Nat}{rest:List AV}(hs:Sized sz xs)(hcs:cs=au xs){n:Nat}(hn:n=xs.length)(hc:n≤cap)(hr:rest.length=(cap - n)*sz):Ow tb (upd h id (some (.obj (cs++rest) tb))) sz id (.ob id 0 n cap sz) xs:=by
 subst hcs;subst hn
 exact⟨cap,rest,rfl,ah ..,hr,hc,hs⟩
theorem j0.ow{cs:List AV}{n:Nat}{Q:AV→Heap→Prop}(hs:Sized sz xs)(hcs:cs=au xs)(hn:n=xs.length)(hk:∀id y h',h id=Option.none→Ow tb h' sz id y xs→(∀j,j≠id→h' j=h j)→Q y h'):j0 h cs n sz tb Q:=
 fun id cap rest hid hc hr=>hk id _ _ hid (Ow.make hs hcs hn hc hr) fun j hj=>ag _ _ hj
theorem Jw{us vs:List AV}{o:Nat}{c:List AV}:over (us++vs) (us.length+o) c=us++over vs o c:=by
 simp[Ab.over,Nat.add_assoc,List.take_length_add_append,List.drop_length_add_append,List.append_assoc]
theorem IS{xs:List AV}(hs:Sized sz xs)(j:Nat)(hj:j<xs.length)(x:AV)(hx:x.cells.length=sz):au (xs.set j x)=over (au xs) (j*sz) x.cells:=by
 induction xs generalizing j with
 |nil=>grind
 |cons a r ih=>
  have h1:=hs a acD;have h2:Sized sz r:=fun z hz=>hs z acv
  cases j with
  |zero=>
   simp only[List.set_cons_zero,j8,Ab.over,Nat.zero_mul,List.take_zero,List.nil_append,Nat.zero_add];rw[hx,←h1,List.drop_left]
  |succ j=>
   have hj' :j<r.length:=acv;have e1:(j+1)*sz=a.cells.length+j*sz:=acv;rw[List.set_cons_succ,j8,j8,ih h2 j hj',e1,Jw]
theorem IQ{xs:List AV}(hs:Sized sz xs)(j:Nat)(hj:j<xs.length)(o:Nat)(c:List AV)(ho:o+c.length≤sz):over (au xs) (j*sz+o) c=au (xs.set j (.agg (over xs[j].cells o c))):=by
 have hc:=hs xs[j] (aco hj);have hl:(over xs[j].cells o c).length=sz:=by grind [ij]
 rw[IS hs j hj (.agg (over xs[j].cells o c)) hl];have hp:=oL hs j hj;have e1:(au xs).take (j*sz+o)=(au xs).take (j*sz)++xs[j].cells.take o:=by
  rw[←hp,List.take_take,Nat.min_eq_left acu,List.take_add]
 have e2:(au xs).drop (j*sz+o+c.length)=xs[j].cells.drop (o+c.length)++(au xs).drop (j*sz+sz):=by
  have e3:(au xs).drop (j*sz)=xs[j].cells++(au xs).drop (j*sz+sz):=by
   grind [List.drop_drop,List.take_append_drop]
  rw[Nat.add_assoc,←List.drop_drop,e3,List.drop_append_of_le_length acu]
 show over (au xs) (j*sz+o) c=over (au xs) (j*sz) (over xs[j].cells o c)
 grind [over,Ab.over,List.append_assoc]
theorem L1{us vs:List AV}{o:Nat}{c:List AV}(h1:o+c.length≤us.length):over (us++vs) o c=over us o c++vs:=by
 grind [Ab.over,List.append_assoc]
theorem Ow.idx(hw:Ow tb h sz id y xs){m:Int}{x:IntKind}{K:AV→Prop}(j:Nat)(hm:m=j)(hj:j<xs.length)(hz:(U e).sz=sz)(h0:sz≠0)(hk:K (.ptr id (j*sz))):oR U y (.v (.int x m)) K (.slice e):=by
 obtain⟨cap,rest,rfl,h1,h2,h3,h4⟩:=hw
 simp_all [AI,Nat.zero_add,Int.toNat_natCast]
def OwE(tb:TypeId)(h0 h:Heap)(sz:Nat)(y:AV)(xs:List AV):Prop:=(xs= []∧y= .sl [] .full)∨∃id,h0 id=Option.none∧Ow tb h sz id y xs
variable {h0 : Heap}
theorem OwE.rd(hw:OwE tb h0 h sz y xs):Rd h sz y xs:=by
 rcases hw with⟨rfl,rfl⟩|⟨id,_,hw⟩
 ·exact .sl (fun z hz=>acv) _
 ·exact hw.rd
theorem OwE.sub(hw:OwE tb h0 h sz y xs)(hs:Sub h h'):OwE tb h0 h' sz y xs:=by
 rcases hw with hw|⟨id,h1,hw⟩
 ·exact agx
 ·exact .inr ⟨id,h1,hw.sub hs⟩
theorem OwE.ow(hw:OwE tb h0 h sz y xs)(hn:xs≠ []):∃id,h0 id=Option.none∧Ow tb h sz id y xs:=by
 rcases hw with hw|hw
 ·grind
 omega
theorem OwE.app{v:AV}{zs:List AV}{Q:AV→Heap→Prop}(hw:OwE tb h0 h sz y xs)(hs0:Sub h0 h)(hb:Rd h sz v zs)(hz:(U tb).sz=sz)(h1:sz≠0)(hby:(U tb).bytes≠0)(hf:Ab.fit (U tb).zero sz)(hne:zs≠ [])(hlen:(xs.length+zs.length)*(U tb).bytes≤140737488355328)
  (hk:∀id y' h',h0 id=Option.none→(h id=Option.none∨∃l c,y= .ob id 0 l c sz)→Ow tb h' sz id y' (xs++zs)→(∀j,j≠id→h' j=h j)→Q y' h'):apK U h y v Q (.slice tb):=by
 subst hz;rcases hw with⟨rfl,rfl⟩|⟨id,h2,cap,rest,rfl,h3,h4,h5,h6⟩
 ·refine(qb ..).mpr ⟨h1,hby,hb.src rfl ⟨by simp[Sized],hb.1,acu,fun hn=>(hne hn).elim,fun _=>?_⟩⟩
  refine .ob hf (j0.ow (by simpa using hb.1) acK acD fun id y' h' hid hw ho=>?_)
  exact hk id _ _ (hs0.none hid) (.inl hid) acv ho
 ·have hl:=aX h6
  refine⟨h1,hby,rfl,hb.src rfl ⟨hb.1,hlen,?_⟩⟩;rw[h3];have hsz:Sized (U tb).sz (xs++zs):=fun z hz=>(List.mem_append.1 hz).elim (h6 z) (hb.1 z)
  refine⟨acv,hf,fun hle=>?_,fun hgt=>?_⟩
  ·have hlz:=aX hb.1
   have hmul:(cap - xs.length)*(U tb).sz=zs.length*(U tb).sz+(cap - (xs.length+zs.length))*(U tb).sz:=by rw[←Nat.add_mul];grind
   refine hk id _ _ h2 (.inr ⟨_,_,rfl⟩) ⟨cap,rest.drop (zs.length*(U tb).sz),acD,?_,?_,acv,hsz⟩ fun j hj=>ag _ _ hj
   ·simp_all [ah,l9,Nat.zero_add,Ab.over,List.take_left,List.drop_append,List.drop_of_length_le]
   grind
  ·refine j0.ow hsz ?_ acD fun id' y' h' hid hw ho=>?_
   ·grind [l9,List.take_left]
   ·exact hk id' _ _ (hs0.none hid) (.inl hid) hw ho
theorem wB {f : FuncId} {fn : Func} {tS tR : TypeId} (hU : ∀ t, aP P U t) (hfn : P.funcs[f]? = some fn) (hname : (fn.name == "runtime.NumGoroutine") = false) (hb : fn.body.isNone = true) (hn : Extern.findNext fn = Option.none)
  (he:Extern.find fn=some (Extern.SlicesOverlaps.overlaps #[tS,tS] #[tR])) (hty:(U tS).k= .slice e) (hz:(U e).sz≠0) {q:Perm} (hx:Sized (U e).sz xs) (hne:xs≠ []) {id off len cap sz:Nat} {cs:List AV} {t:TypeId} (hid:h id=some (.obj cs t)) (hcs:cs≠ []):
  ai P f [.sl xs q,.ob id off len cap sz] h fun r h' =>r= .b false∧h' =h:=by
 intro c vs hs g h1 h2;obtain⟨a,cap0,sz0,val,hu,sl⟩:=(h2 0 acD).iu;obtain⟨o,hv,_⟩:=(h2 1 acD).jl;have hd:=(hU tS).desc;rw[hty]at hd;have hpos:0<xs.length:=List.length_pos_iff.2 hne;have hcap:=sl.hc;obtain⟨qa,rfl⟩:∃qa,a=some qa:=by
  cases a with
  |none=>have:=sl.h0 rfl;omega
  |some qa=>simp
 have hs0:sz0=(U e).sz:=by rw[←sl.hz 0 hpos];exact hx _ (aco hpos)
 have hf:=sl.hf qa rfl 0 0 hpos acu;have hq:=(sl.hs qa rfl acu).1;have hcid:=hs _ _ hid;obtain⟨us,u1,u2,u3⟩:=g.obj id cs t hcid;have hnb:qa.block≠(c.φ id).block:=fun hh=>hf.2 ⟨id,_,hcid,hh.symm,Nat.zero_le _⟩
 obtain⟨ws,tw,fr,hws,hwlt⟩:∃ws tw fr,c.w.heap[qa.block]? =some (.cells ws tw fr)∧0<ws.size:=by
  have:=hf.1;simp only[World.cell?]at this;split at this
  ·rename_i ws tw fr hh
   refine⟨ws,tw,fr,hh,?_⟩
   grind
  all_goals cases this
 have hvs:vs= #[.slice (some qa) xs.length cap0,.slice (some ⟨(c.φ id).block,o,Option.none⟩) len cap]:=by
  apply Array.ext
  ·omega
  ·intro i hi hi2
   have hi3:i<2:=acu;rcases i with _|_|i
   ·simpa[Array.getD,hi]using hu
   ·simpa[Array.getD,hi]using hv
   ·omega
 subst hvs;refine .inr ⟨.bool false,c.w,?_,c,_,h,rfl,g,.refl c,.v _,hs,rfl,rfl⟩;rw[Go.run_callFunc_extern hfn hname hb hn he];have key:(Extern.SlicesOverlaps.overlaps #[tS,tS] #[tR] #[.slice (some qa) xs.length cap0,.slice (some ⟨(c.φ id).block,o,Option.none⟩) len cap]).run P c.w= .ok (.bool false) c.w:=by
  have hnb1:(qa.block !=(c.φ id).block)=true:=acv;have hnb2:(qa.block==(c.φ id).block)=false:=acv;have hws2:∃m,ws.size=m+1:=⟨ws.size - 1,acu⟩;obtain⟨m,hm⟩:=hws2
  change Sem.run P (α:=Value) (do
   let some t := (#[tS, tS] : Array TypeId)[0]? | stuck "slices.overlaps: no parameter types"
   let .slice elem ← underlying t | stuck "slices.overlaps: slice type expected"
   let size←sizeOf elem
   match (some qa:Option Addr),(some ⟨(c.φ id).block,o,Option.none⟩:Option Addr)with
   |some a,some b=>
    if xs.length=0∨len=0∨size=0 then pure (Value.bool false)
    else if a.block !=b.block && (←frozen a) && (←frozen b)then unsupported .addressObserved
    else do
     if a.block !=b.block then do
      noView a;noView b
      if ← mayBeOne a b then return Value.bool ((← choose (.extern "sameAddr.stringBytes" 2)) == 1)
     pure (Value.bool (a.block==b.block && a.off<b.off+len*size && b.off<a.off+xs.length*size))
   |_,_=>pure (Value.bool false)) c.w=_
  have hfb:∀x,c.w.frozen? ⟨(c.φ id).block,x,Option.none⟩=false:=fun x=>by grind [World.frozen?]
  have hsb:c.w.shape? (c.φ id).block=some (t,us.size):=by grind [World.shape?]
  have hsa:c.w.shape? qa.block=some (tw,m+1):=by grind [World.shape?]
  by_cases hl:len=0
  ·simp[run_underlying hd,bA hU hz,hl]
  ·have hus:us.size≠0:=by grind
   obtain⟨n,hn'⟩:∃n,us.size=n+1:=⟨us.size - 1,acu⟩;rw[hn']at hsb;cases hfa:c.w.frozen? qa<;>cases hfa2:c.w.frozen? {block:=qa.block,off:=m+1}<;>
    simp[run_underlying hd,bA hU hz,hl,hne,hz,hnb1,hnb2,frozen,noView,viewAt,mayBeOne,stringish,shape,Sem.run,hsa,hsb,hfb,hfa,hfa2]
 rw[key];rfl
end
end Go.Ab
namespace Go.Bf
open Go Go.Ab
structure OpD where
 kind:Int
 subj:Txt
 case:Txt
 field:Txt
 to:Txt
 val:bp
 review:Int
 text:Txt
 reason:Txt
 glass:Bool
structure xz where
 tick:Int
 actor:Txt
 what:Txt
structure cV where
 name:Txt
 val:bp
structure aK where
 id:Txt
 owner:Txt
 state:Txt
 fields:List cV
 log:List xz
structure pX where
 id:Int
 tick:Int
 subj:Txt
 case:Txt
 action:Txt
 reason:Txt
 isOpen:Bool
structure Ig where
 tick:Int
 case:Txt
 arg:Txt
structure gV where
 subj:Txt
 role:Txt
structure an where
 tick:Int
 cases:List aK
 reviews:List pX
 notices:List Ig
 roles:List gV
 policy:bG
 version:Int
structure bn where
 cat:Int
 name:Txt
 bag:List bp
def opC(o:OpD):List AV:=[.i o.kind,.s o.subj,.s o.case,.s o.field,.s o.to,.i o.val.kind,.i o.val.n,.s o.val.s,.i o.review,.s o.text,.s o.reason,.b o.glass]
def opA(o:OpD):AV:=.agg (opC o)
def iH(x:xz):AV:=.agg [.i x.tick,.s x.actor,.s x.what]
def bL(f:cV):AV:=.agg [.s f.name,.i f.val.kind,.i f.val.n,.s f.val.s]
def gq(l:List cV):AV:=.sl (l.map bL) .no
def su(l:List xz):AV:=.sl (l.map iH) .no
def ng(c:aK):List AV:=[.s c.id,.s c.owner,.s c.state,gq c.fields,su c.log]
def cp(c:aK):AV:=.agg (ng c)
def fX(l:List aK):AV:=.sl (l.map cp) .no
def iL(r:pX):AV:=.agg [.i r.id,.i r.tick,.s r.subj,.s r.case,.s r.action,.s r.reason,.b r.isOpen]
def j4(l:List pX):AV:=.sl (l.map iL) .no
def mS(n:Ig):AV:=.agg [.i n.tick,.s n.case,.s n.arg]
def kY(l:List Ig):AV:=.sl (l.map mS) .no
def eD(r:gV):AV:=.agg [.s r.subj,.s r.role]
def dV(l:List gV):AV:=.sl (l.map eD) .no
def fT:bG→List AV
 |.mk id set alg tgt rules kids obls=>[.s id,.b set,.i alg,aU tgt,.sl (rules.map aB) .no,.sl (fD kids) .no,az obls]
theorem Oy(p:bG):aL p= .agg (fT p):=by cases p;rfl
def cI(s:an):AV:=.agg ([.i s.tick,fX s.cases,j4 s.reviews,kY s.notices,dV s.roles]++fT s.policy++ [.i s.version])
def kT(g:bn):AV:=.agg [.i g.cat,.s g.name,.sl (g.bag.map aO) .no]
def bH(l:List bn):AV:=.sl (l.map kT) .no
def geB(a b:Txt):Bool:= !(Op.bytesLess a b)
def findD(cs:List aK)(id:Txt):Nat:=cs.findIdx fun c=>geB c.id id
def bX(cs:List aK)(id:Txt):Bool:=match cs[findD cs id]? with
 |some c=>c.id==id
 |none=>false
def aq:bp:=⟨0,0,[]⟩
def oD:aK:=⟨[],[],[],[],[]⟩
def bw(cs:List aK)(id:Txt):aK:=if bX cs id then cs.getD (findD cs id) oD else oD
def eN(fs:List cV)(name:Txt):bp:=match fs.find? fun f=>f.name==name with
 |some f=>f.val
 |none=>aq
def uE(a b:gV):Bool:=a.subj==b.subj && a.role==b.role
def yh(l:List gV)(r:gV):Bool:=l.any (uE r)
def jy:Txt:=[111,112,101,110]
def wN:Txt:=[119,111,114,107]
def Ax:Txt:=[100,111,110,101]
def gQ:Txt:=[99,108,111,115,101,100]
def mB(a b:Txt):Bool:=
 if a==jy then b==wN else if a==wN then b==Ax else if a==Ax then b==wN||b==gQ else false
def Tx:List Txt:=[[110,101,119],[114,101,97,100],[119,114,105,116,101],[109,111,118,101],[99,108,111,115,101],[114,111,108,101],[112,111,108,105,99,121]]
def iE(k:Int):Txt:=if k<1∨k>7 then [116,105,99,107]else Tx.getD (k - 1).toNat []
def u0(k:Int):Bool:=decide (1≤k) && decide (k≤4)
def iS(s:Txt):Bool:=s== []||bh s
def lV(o:OpD):Bool:=if o.glass then u0 o.kind && (!(o.reason== [])) && decide (o.reason.length≤64)else o.reason== []
def iP(o:OpD):OpD:=
 let z:OpD:=⟨o.kind,[],[],[],[],aq,0,[],[],false⟩
 if o.kind=1 then {z with case:=o.case}
 else if o.kind=2∨o.kind=6 then {z with case:=o.case,field:=o.field}
 else if o.kind=3 then {z with case:=o.case,field:=o.field,val:=o.val}
 else if o.kind=4 then {z with case:=o.case,to:=o.to}
 else if o.kind=5∨o.kind=8 then {z with review:=o.review}
 else {z with text:=o.text}
def eqV(a b:bp):Bool:=a.kind==b.kind && (a.n==b.n && a.s==b.s)
def mR(a b:OpD):Bool:=a.kind==b.kind && (a.subj==b.subj && (a.case==b.case && (a.field==b.field && (a.to==b.to && (a.val.kind==b.val.kind && (a.val.n==b.val.n && (a.val.s==b.val.s && (a.review==b.review && (a.text==b.text && (a.reason==b.reason && a.glass==b.glass))))))))))
def okD(o:OpD):Bool:=
 if o.kind=1 then !(o.case== [])
 else if o.kind=2∨o.kind=6 then !(o.case== []) && !(o.field== [])
 else if o.kind=3 then !(o.case== []) && !(o.field== []) && !(eqV o.val aq)
 else if o.kind=4 then !(o.case== []) && !(o.to== [])
 else if o.kind=5 then decide (0<o.review)
 else if o.kind=8 then decide (0<o.review) && decide (o.review≤1099511627776)
 else true
def gM(o:OpD):OpD:={o with subj:=[],reason:=[],glass:=false}
def dJ(o:OpD):Bool:=decide (1≤o.kind) && decide (o.kind≤8) && okD o && mR (gM o) (iP o)
def dG(o:OpD):Bool:=bh o.subj && lV o && decide (o.text.length≤4096) && iS o.case && iS o.field && iS o.to && (eqV o.val aq||bx o.val) && dJ o
def bW(s:an)(o:OpD):Int:=
 let c:=bw s.cases o.case
 if bX s.cases o.case=false then 10
 else if o.kind=3∧c.fields.length≥16∧eqV (eN c.fields o.field) aq=true then 6
 else if o.kind≠2∧c.log.length≥256 then 6
 else if o.kind=3∧c.state=gQ∨o.kind=4∧mB c.state o.to=false then 13
 else 0
def wE(l:List pX)(n:Int):Option pX:=if 1≤n then l[(n - 1).toNat]? else none
def fM(s:an)(o:OpD):Int:=match wE s.reviews o.review with
 |none=>10
 |some r=>if r.isOpen=false then 10 else if r.subj=o.subj then 12 else 0
def bJ(s:an)(o:OpD):Int:=
 if dG o=false then 1
 else if o.kind=1 then(if bX s.cases o.case then 11 else if s.cases.length≥64 then 6 else 0)
 else if 2≤o.kind∧o.kind≤4 then bW s o
 else if o.kind=5 then fM s o
 else if o.kind=6 then(if s.roles.length≥64∧yh s.roles ⟨o.case,o.field⟩=false then 6 else 0)
 else if o.kind=8 then(if s.tick>1099511627776 - o.review then 6 else 0)
 else 0
def idV(s:Txt):bp:=⟨5,0,s⟩
def ug(l:List xz)(subj:Txt):bp:=⟨1,if l.any (fun x=>x.actor==subj)then 1 else 0,[]⟩
def idT:Txt:=[105,100]
def cB(c:aK)(subj:Txt):List bn:=
 [⟨3,idT,[idV c.id]⟩,⟨3,[111,119,110,101,114],[idV c.owner]⟩,⟨3,[115,116,97,116,101],[idV c.state]⟩,⟨3,[101,118,101,110,116,115],[⟨2,c.log.length,[]⟩]⟩,⟨3,[116,111,111,107],[ug c.log subj]⟩]++
 (match c.log.getLast? with
  |some x=>[⟨3,[108,97,115,116],[idV x.actor]⟩]
  |none=>[])++
 (c.fields.filter fun f=>decide (f.name.length≤14)).map fun f=>⟨3,[102,95]++f.name,[f.val]⟩
def cU(l:List gV)(subj:Txt):List bp:=((l.filter fun r=>r.subj==subj).map fun r=>idV r.role).take 16
def fE(s:an)(o:OpD):List bn:=
 [⟨1,idT,[idV o.subj]⟩,⟨1,[114,111,108,101],cU s.roles o.subj⟩,⟨2,[110,97,109,101],[idV (iE o.kind)]⟩]++
 (if o.field= []then []else [⟨2,[102,105,101,108,100],[idV o.field]⟩])++
 (if o.to= []then []else [⟨2,[116,111],[idV o.to]⟩])++
 [⟨4,[110,111,119],[⟨4,s.tick,[]⟩]⟩]++
 (if bX s.cases o.case=true∧o.kind≠6 then cB (bw s.cases o.case) o.subj else [])
def eY(fs:List cV)(name:Txt)(v:bp):List cV:=
 let i:=fs.findIdx fun f=>geB f.name name
 match fs[i]? with
 |none=>fs++ [⟨name,v⟩]
 |some f=>if f.name=name then fs.set i ⟨f.name,v⟩else fs.take i++ [⟨name,v⟩]++fs.drop i
def jk(s:an)(c:aK)(actor what:Txt):aK:={c with log:=c.log++ [⟨s.tick,actor,what⟩]}
def doD(par:Txt→bG×Int×Int)(s:an)(o:OpD):an:=
 let i:=findD s.cases o.case
 if o.kind=1 then {s with cases:=s.cases.take i++ [jk s ⟨o.case,o.subj,jy,[],[]⟩ o.subj [110,101,119]]++s.cases.drop i}
 else if o.kind=3 then {s with cases:=s.cases.modify i fun c=>jk s {c with fields:=eY c.fields o.field o.val} o.subj [119,114,105,116,101]}
 else if o.kind=4 then {s with cases:=s.cases.modify i fun c=>jk s {c with state:=o.to} o.subj o.to}
 else if o.kind=5 then {s with reviews:=s.reviews.modify (o.review - 1).toNat fun r=> {r with isOpen:=false}}
 else if o.kind=6 then(if yh s.roles ⟨o.case,o.field⟩then s else {s with roles:=s.roles++ [⟨o.case,o.field⟩]})
 else if o.kind=7 then(if(par o.text).2.1=0 then {s with policy:=(par o.text).1,version:=s.version+1} else s)
 else if o.kind=8 then {s with tick:=s.tick+o.review}
 else s
def dO(par:Txt→bG×Int×Int)(s:an)(o:OpD):an:=if bJ s o=0 then doD par s o else s
def i64(n:Int):Prop:= -9223372036854775808≤n∧n≤9223372036854775807
end Go.Bf
namespace Go.Proofs.YtcochaoekecfdaaGreatDoor
open Go Go.Ab Go.Bf
theorem aA{h:Heap}{i j:Nat}{b:Blk}(e:upd h i (some b) j=none):h j=none:=by grind [ag,aF]
theorem MQ{v:bp}(h:(v.kind==(0:Int) && (v.n==(0:Int) && v.s==([]:Txt)))=false):¬v.kind=0∨¬v.n=0∨¬v.s= []:=by
 grind
theorem MP{v:bp}(h:(v.kind==(0:Int) && (v.n==(0:Int) && v.s==([]:Txt)))=true):v.kind=0∧v.n=0∧v.s= []:=by
 grind
theorem Jt(k:Int)(h:Heap):ai Tryz.prog 106 [.i k] h fun r h' =>r= .b (u0 k)∧h' =h:=by
 refine acs Tryz.func106 9 [.tmp 2] fun hwf=>?_
 cases d1:decide (1≤k)
 ·simp -implicitDefEqProofs only[go_sem,d1]
  exact .same (.refl _) ⟨by simp only[u0,d1,ax,Bool.false_and],rfl⟩
 ·simp -implicitDefEqProofs only[go_sem,d1]
  exact .same (.refl _) ⟨by simp_all [u0,ax,Bool.true_and],rfl⟩
theorem xU(s:Txt)(h:Heap):ai Tryz.prog 53 [.s s] h fun r h' =>r= .b (iS s)∧h' =h:=by
 refine acs Tryz.func53 9 [.tmp 2] fun hwf=>?_
 cases d1:(s==([]:Txt))
 ·simp -implicitDefEqProofs only[go_sem,d1]
  refine(oU s h).pthen ?_;simp -implicitDefEqProofs only[go_sem];exact .same (.refl _) ⟨by simp_all [iS,ax,Bool.false_or],rfl⟩
 ·simp -implicitDefEqProofs only[go_sem,d1]
  exact .same (.refl _) ⟨by simp_all [iS,ax,Bool.true_or],rfl⟩
theorem Fw(a b:Txt)(h:Heap):ai Tryz.prog 170 [.s a,.s b] h fun r h' =>r= .b (mB a b)∧h' =h:=by
 refine acs Tryz.func170 22 [.tmp 4] fun hwf=>?_
 cases d1:(a==jy)<;>cases d2:(a==wN)<;>cases d3:(a==Ax)<;>cases d4:(b==wN)<;>simp only[jy,wN,Ax]at d1 d2 d3 d4<;>simp -implicitDefEqProofs only[go_sem,d1,d2,d3,d4]<;>
  exact .same (.refl _) ⟨by simp only[mB,d1,d2,d3,d4,ax,jy,wN,Ax,gQ,if_true,Bool.false_eq_true,if_false,Bool.true_or,Bool.false_or],rfl⟩
theorem uv(k:Int)(hk:i64 k)(h:Heap):ai Tryz.prog 100 [.i k] h fun r h' =>r= .s (iE k)∧h' =h:=by
 refine acs Tryz.func100 18 [.tmp 2] fun hwf=>?_
 simp -implicitDefEqProofs only[go_sem];cases d1:decide (k<1)
 case true=>
  simp -implicitDefEqProofs only[go_sem];exact .same (.refl _) ⟨by simp_all [iE,ack,true_or,if_true,ax],rfl⟩
 cases d2:decide ((7:Int)<k)
 case true=>
  simp -implicitDefEqProofs only[go_sem,d2];exact .same (.refl _) ⟨by simp_all [iE,ack,or_true,if_true,ax],rfl⟩
 have h1:=acm d1;have h2:=acm d2;obtain⟨j,rfl⟩:∃j:Nat,k=(j:Int)+1:=⟨(k - 1).toNat,acu⟩;have hj:j<7:=acu;have w1:IntKind.i64.wrap ((j:Int)+1 - 1)=(j:Int):=acI;simp -implicitDefEqProofs only[go_sem,d2,w1];refine .at j acu (by rcases j with _|_|_|_|_|_|_|j<;>first|rfl|omega) ?_
 rcases j with _|_|_|_|_|_|_|j
 all_goals first|omega|skip
 all_goals
  simp -implicitDefEqProofs only[go_sem,List.getElem_cons_zero,List.getElem_cons_succ];exact .same (.refl _) ⟨acK,rfl⟩
theorem JG(o:OpD)(h:Heap):ai Tryz.prog 52 [opA o] h fun r h' =>r= .v (.bool (lV o))∧h' =h:=by
 refine acs Tryz.func52 23 [.tmp 2] fun hwf=>?_
 simp -implicitDefEqProofs only[go_sem,opA,opC];intro id hid;cases d1:o.glass
 ·simp -implicitDefEqProofs only[go_sem]
  exact ahW
 simp -implicitDefEqProofs only[go_sem];refine(Jt _ _).pthen ?_;cases d2:u0 o.kind
 ·simp -implicitDefEqProofs only[go_sem]
  exact ahW
 cases d3:(o.reason==([]:Txt))
 ·simp -implicitDefEqProofs only[go_sem,d3]
  exact .mk _ (.refl _) (.aj hid) ⟨by
   simp only[lV,d1,d2,d3,ax,if_true,Bool.not_false,Bool.true_and]
   congr 2
   grind,rfl⟩
 ·simp -implicitDefEqProofs only[go_sem,d3]
  exact ahW
theorem Nu(o:OpD)(h:Heap):ai Tryz.prog 107 [opA o] h fun r h' =>r=opA (gM o)∧h' =h:=by
 refine acs Tryz.func107 7 [.cell 2 32] fun hwf=>?_
 simp -implicitDefEqProofs only[go_sem,opA,opC];intro i1 h1;simp -implicitDefEqProofs only[go_sem];intro i2 h2;have hne:=aF h2;simp -implicitDefEqProofs only[go_sem,ak,hne,hne.symm];have n2:=aA h2;exact .mk _ (.refl _) (((((Sub.refl h).put h1 _).put n2 _).put h1 _).put n2 _) ⟨rfl,rfl⟩
theorem ME(o:OpD)(h:Heap):ai Tryz.prog 55 [opA o] h fun r h' =>r= .b (dJ o)∧h' =h:=by
 have hb:=fun hh=>Nu o hh
 simp only[gM,opA,opC]at hb;refine acs Tryz.func55 111 [.tmp 2] fun hwf=>?_
 simp -implicitDefEqProofs only[go_sem,opA,opC];intro i1 h1;simp -implicitDefEqProofs only[go_sem];refine(hb _).pthen ?_;simp -implicitDefEqProofs only[go_sem];intro i3 h3;have n31:=aF h3;have n3:=aA h3;simp -implicitDefEqProofs only[go_sem,ak,n31.symm];intro i4 h4;have n43:=aF h4;have h4' :=aA h4;have n41:=aF h4';have n4:=aA h4';have bnd:o.kind≠1→o.kind≠2→o.kind≠3→o.kind≠4→o.kind≠5→o.kind≠6→o.kind≠7→o.kind≠8→(decide (1≤o.kind) && decide (o.kind≤8))=false:=by
  intro a1 a2 a3 a4 a5 a6 a7 a8;simp only[Bool.and_eq_false_iff,decide_eq_false_iff_not];omega
 by_cases k1:o.kind=1
 ·simp -implicitDefEqProofs only[go_sem,ak,n31.symm,n41.symm,k1]
  cases dcase:(o.case==([]:Txt))
  ·simp -implicitDefEqProofs only[go_sem,ak,n43.symm]
   exact .mk _ (.refl _) acB ⟨by simp[dJ,okD,iP,gM,mR,aq,ax,k1,decide_true,dcase,Bool.and_true,Bool.true_and,Bool.not_false],rfl⟩
  ·simp -implicitDefEqProofs only[go_sem]
   exact .mk _ (.refl _) acB ⟨by simp[dJ,okD,iP,gM,mR,aq,ax,k1,decide_true,dcase,Bool.and_true,Bool.true_and,Bool.false_and,Bool.and_false,Bool.not_true],rfl⟩
 by_cases k2:o.kind=2
 ·simp -implicitDefEqProofs only[go_sem,ak,n31.symm,n41.symm,k2,Int.reduceBEq]
  refine .calls (hm1 i1 _) [0,1,2,3,4,5,6,7] (.hm1 aed) acw rfl ?_;simp -implicitDefEqProofs only[go_sem,ak,n31.symm,n41.symm];refine⟨(.hm1 acS),(.hm1 acS),?_⟩;cases dcase:(o.case==([]:Txt))
  ·simp -implicitDefEqProofs only[go_sem,ak,n31.symm,n41.symm]
   cases dfield:(o.field==([]:Txt))
   ·simp -implicitDefEqProofs only[go_sem,ak,n43.symm]
    exact .mk _ (.refl _) acB ⟨by simp[dJ,okD,iP,gM,mR,aq,ax,k2,decide_true,dcase,dfield,Bool.and_true,Bool.true_and,Bool.not_false],rfl⟩
   ·simp -implicitDefEqProofs only[go_sem]
    exact .mk _ (.refl _) acB ⟨by simp[dJ,okD,iP,gM,mR,aq,ax,k2,decide_true,dcase,dfield,Bool.and_true,Bool.true_and,Bool.false_and,Bool.and_false,Bool.not_true,Bool.not_false],rfl⟩
  ·simp -implicitDefEqProofs only[go_sem]
   exact .mk _ (.refl _) acB ⟨by simp[dJ,okD,iP,gM,mR,aq,ax,k2,decide_true,dcase,Bool.and_true,Bool.true_and,Bool.false_and,Bool.and_false,Bool.not_true],rfl⟩
 by_cases k6:o.kind=6
 ·simp -implicitDefEqProofs only[go_sem,ak,n31.symm,n41.symm,k6,Int.reduceBEq]
  refine .calls (hm1 i1 _) [0,1,2,3,4,5,6,7] (.hm1 aed) acw rfl ?_;simp -implicitDefEqProofs only[go_sem,ak,n31.symm,n41.symm];refine⟨(.hm1 acS),(.hm1 acS),?_⟩;cases dcase:(o.case==([]:Txt))
  ·simp -implicitDefEqProofs only[go_sem,ak,n31.symm,n41.symm]
   cases dfield:(o.field==([]:Txt))
   ·simp -implicitDefEqProofs only[go_sem,ak,n43.symm]
    exact .mk _ (.refl _) acB ⟨by simp[dJ,okD,iP,gM,mR,aq,ax,k6,decide_true,dcase,dfield,Bool.and_true,Bool.true_and,Bool.not_false],rfl⟩
   ·simp -implicitDefEqProofs only[go_sem]
    exact .mk _ (.refl _) acB ⟨by simp[dJ,okD,iP,gM,mR,aq,ax,k6,decide_true,dcase,dfield,Bool.and_true,Bool.true_and,Bool.false_and,Bool.and_false,Bool.not_true,Bool.not_false],rfl⟩
  ·simp -implicitDefEqProofs only[go_sem]
   exact .mk _ (.refl _) acB ⟨by simp[dJ,okD,iP,gM,mR,aq,ax,k6,decide_true,dcase,Bool.and_true,Bool.true_and,Bool.false_and,Bool.and_false,Bool.not_true],rfl⟩
 by_cases k3:o.kind=3
 ·simp -implicitDefEqProofs only[go_sem,ak,n31.symm,n41.symm,k3,Int.reduceBEq]
  refine .calls (hm1 i1 _) [0,1,2,3,4,5,6,7,8,9,10,11] (.hm1 aed) acw rfl ?_;simp -implicitDefEqProofs only[go_sem,ak,n31.symm,n41.symm];refine⟨(.hm1 acS),(.hm1 acS),(.hm1 acS),?_⟩;cases dcase:(o.case==([]:Txt))
  ·simp -implicitDefEqProofs only[go_sem,ak,n31.symm,n41.symm]
   cases dfield:(o.field==([]:Txt))
   ·simp -implicitDefEqProofs only[go_sem,ak,n31.symm,n41.symm]
    cases dval:(o.val.kind==(0:Int) && (o.val.n==(0:Int) && o.val.s==([]:Txt)))
    ·simp -implicitDefEqProofs only[go_sem,ak,n43.symm]
     exact .mk _ (.refl _) acB ⟨acZ,rfl⟩
    ·simp -implicitDefEqProofs only[go_sem]
     exact .mk _ (.refl _) acB ⟨acZ,rfl⟩
   ·simp -implicitDefEqProofs only[go_sem]
    exact .mk _ (.refl _) acB ⟨by simp[dJ,okD,iP,gM,mR,eqV,aq,ax,k3,decide_true,dcase,dfield,Bool.and_true,Bool.true_and,Bool.false_and,Bool.and_false,Bool.not_true,Bool.not_false],rfl⟩
  ·simp -implicitDefEqProofs only[go_sem]
   exact .mk _ (.refl _) acB ⟨by simp[dJ,okD,iP,gM,mR,eqV,aq,ax,k3,decide_true,dcase,Bool.and_true,Bool.true_and,Bool.false_and,Bool.and_false,Bool.not_true],rfl⟩
 by_cases k4:o.kind=4
 ·simp -implicitDefEqProofs only[go_sem,ak,n31.symm,n41.symm,k4,Int.reduceBEq]
  refine .calls (hm1 i1 _) [0,1,2,3,4,5,6,7] (.hm1 aed) acw rfl ?_;simp -implicitDefEqProofs only[go_sem,ak,n31.symm,n41.symm];refine⟨(.hm1 acS),(.hm1 acS),?_⟩;cases dcase:(o.case==([]:Txt))
  ·simp -implicitDefEqProofs only[go_sem,ak,n31.symm,n41.symm]
   cases dto:(o.to==([]:Txt))
   ·simp -implicitDefEqProofs only[go_sem,ak,n43.symm]
    exact .mk _ (.refl _) acB ⟨by simp[dJ,okD,iP,gM,mR,aq,ax,k4,decide_true,dcase,dto,Bool.and_true,Bool.true_and,Bool.not_false],rfl⟩
   ·simp -implicitDefEqProofs only[go_sem]
    exact .mk _ (.refl _) acB ⟨by simp[dJ,okD,iP,gM,mR,aq,ax,k4,decide_true,dcase,dto,Bool.and_true,Bool.true_and,Bool.false_and,Bool.and_false,Bool.not_true,Bool.not_false],rfl⟩
  ·simp -implicitDefEqProofs only[go_sem]
   exact .mk _ (.refl _) acB ⟨by simp[dJ,okD,iP,gM,mR,aq,ax,k4,decide_true,dcase,Bool.and_true,Bool.true_and,Bool.false_and,Bool.and_false,Bool.not_true],rfl⟩
 by_cases k5:o.kind=5
 ·simp -implicitDefEqProofs only[go_sem,ak,n31.symm,n41.symm,k5,Int.reduceBEq]
  cases drev0:decide ((0:Int)<o.review)
  ·simp -implicitDefEqProofs only[go_sem]
   exact .mk _ (.refl _) acB ⟨by simp[dJ,okD,iP,gM,mR,aq,ax,k5,decide_true,drev0,Bool.and_true,Bool.true_and,Bool.false_and,Bool.and_false],rfl⟩
  ·simp -implicitDefEqProofs only[go_sem,ak,n43.symm]
   exact .mk _ (.refl _) acB ⟨by simp[dJ,okD,iP,gM,mR,aq,ax,k5,decide_true,drev0,Bool.and_true,Bool.true_and],rfl⟩
 by_cases k7:o.kind=7
 ·simp -implicitDefEqProofs only[go_sem,ak,n31.symm,n43.symm,n41.symm,k7,Int.reduceBEq]
  exact .mk _ (.refl _) acB ⟨by simp[dJ,okD,iP,gM,mR,aq,ax,k7,decide_true,Bool.and_true,Bool.true_and],rfl⟩
 by_cases k8:o.kind=8
 ·simp -implicitDefEqProofs only[go_sem,ak,n31.symm,n41.symm,k8,Int.reduceBEq]
  cases drev0:decide ((0:Int)<o.review)
  ·simp -implicitDefEqProofs only[go_sem]
   exact .mk _ (.refl _) acB ⟨by simp[dJ,okD,iP,gM,mR,aq,ax,k8,decide_true,drev0,Bool.and_true,Bool.true_and,Bool.false_and,Bool.and_false],rfl⟩
  ·simp -implicitDefEqProofs only[go_sem,ak,n31.symm,n41.symm]
   cases drev1:decide (o.review≤(1099511627776:Int))
   ·simp -implicitDefEqProofs only[go_sem]
    exact .mk _ (.refl _) acB ⟨by simp[dJ,okD,iP,gM,mR,aq,ax,k8,decide_true,drev0,drev1,Bool.and_true,Bool.true_and,Bool.false_and,Bool.and_false],rfl⟩
   ·simp -implicitDefEqProofs only[go_sem,ak,n43.symm]
    exact .mk _ (.refl _) acB ⟨by simp[dJ,okD,iP,gM,mR,aq,ax,k8,decide_true,drev0,drev1,Bool.and_true,Bool.true_and],rfl⟩
 simp -implicitDefEqProofs only[go_sem,ak,n31.symm,n41.symm,beq_eq_false_iff_ne.2 k1,beq_eq_false_iff_ne.2 k2,beq_eq_false_iff_ne.2 k6,beq_eq_false_iff_ne.2 k3,beq_eq_false_iff_ne.2 k4,beq_eq_false_iff_ne.2 k5,beq_eq_false_iff_ne.2 k7,beq_eq_false_iff_ne.2 k8];exact .mk _ (.refl _) acB ⟨by simp only[dJ,bnd k1 k2 k3 k4 k5 k6 k7 k8,Bool.false_and,ax],rfl⟩
theorem BW(o:OpD)(h:Heap):ai Tryz.prog 22 [opA o] h fun r h' =>r= .b (dG o)∧h' =h:=by
 have hr:=fun hh=>JG o hh
 have ht:=fun hh=>ME o hh
 have hv:=fun hh=>fO o.val hh
 simp only[opA,opC,aO]at hr ht hv;refine acs Tryz.func22 48 [.tmp 2] fun hwf=>?_
 simp -implicitDefEqProofs only[go_sem,opA,opC];intro i1 h1;simp -implicitDefEqProofs only[go_sem];refine(oU o.subj _).pthen ?_;cases d1:bh o.subj
 ·simp -implicitDefEqProofs only[go_sem]
  exact .mk _ (.refl _) (.aj h1) ⟨by simp_all [dG,Bool.false_and,ax],rfl⟩
 simp -implicitDefEqProofs only[go_sem];refine(hr _).pthen ?_;cases d2:lV o
 ·exact ahf
 cases d3:decide ((4096:Int)<(o.text.length:Int))
 case true=>
  have e3:decide (o.text.length≤4096)=false:=decide_eq_false acv;simp -implicitDefEqProofs only[go_sem,d3];exact .mk _ (.refl _) (.aj h1) ⟨by simp only[dG,d1,d2,e3,Bool.false_and,Bool.true_and,ax],rfl⟩
 have e3:decide (o.text.length≤4096)=true:=decide_eq_true acv;simp -implicitDefEqProofs only[go_sem,d3];refine(xU o.case _).pthen ?_;cases d4:iS o.case
 ·exact ahf
 simp -implicitDefEqProofs only[go_sem];refine(xU o.field _).pthen ?_;cases d5:iS o.field
 ·exact ahf
 simp -implicitDefEqProofs only[go_sem];refine(xU o.to _).pthen ?_;cases d6:iS o.to
 ·exact ahf
 cases d7:(o.val.kind==(0:Int) && (o.val.n==(0:Int) && o.val.s==([]:Txt)))
 ·simp -implicitDefEqProofs only[go_sem,d7]
  refine(hv _).pthen ?_;have e7:eqV o.val aq=false:=d7;cases d8:bx o.val
  ·simp -implicitDefEqProofs only[go_sem]
   exact .mk _ (.refl _) (.aj h1) ⟨by simp_all [dG,Bool.or_self,Bool.false_and,Bool.true_and,ax],rfl⟩
  simp -implicitDefEqProofs only[go_sem];refine(ht _).pthen ?_;simp -implicitDefEqProofs only[go_sem];exact .mk _ (.refl _) (.aj h1) ⟨by simp_all [dG,Bool.false_or,Bool.true_and,ax],rfl⟩
 ·simp -implicitDefEqProofs only[go_sem,d7]
  have e7:eqV o.val aq=true:=d7;refine(ht _).pthen ?_;simp -implicitDefEqProofs only[go_sem];exact .mk _ (.refl _) (.aj h1) ⟨by simp_all [dG,Bool.true_or,Bool.true_and,ax],rfl⟩
end Go.Proofs.YtcochaoekecfdaaGreatDoor
namespace Go.Bf
open Go Go.Ab
def ixD{α:Type}(q:α→Bool)(l:List α):Int:=if l.findIdx q<l.length then(l.findIdx q:Nat)else -1
theorem nN{α:Type}{q:α→Bool}{l:List α}{i:Nat}(hi:i<l.length)(h1:q l[i]=true)(h2:∀j (hj:j<i),q (l[j]'acu)=false):ixD q l=(i:Nat):=by
 have e:l.findIdx q=i:=by grind [List.findIdx_eq]
 rw[ixD,e,if_pos hi]
theorem iY{α:Type}{q:α→Bool}{l:List α}(h:∀j (hj:j<l.length),q l[j]=false):ixD q l= -1:=by
 have e:l.findIdx q=l.length:=acv;rw[ixD,e,if_neg (Nat.lt_irrefl _)]
end Go.Bf
namespace Go.Proofs.YtcochaoekecfdaaGreatDoor
open Go Go.Ab Go.Bf
theorem uS{α:Type}(y:AV)(xs:List AV)(ds:List α)(q:α→Bool)(g:FuncId)(cap:List AV)(h:Heap)(hb:Rd h 5 y xs)(hn:xs.length=ds.length)(hl:xs.length≤1000000000)(hx:∀x∈xs,bz x=true)
  (hp:∀i (h1:i<xs.length) (h2:i<ds.length),ai Tryz.prog g (xs[i]::cap) h fun r h' =>r= .b (q ds[i])∧h' =h):
  ai Tryz.prog 168 [y,.fn g cap] h fun r h' =>r= .i (ixD q ds)∧h' =h:=by
 refine acs Tryz.func168 19 [.tmp 4] fun hwf=>?_
 simp only[go_sem,hb.len];refine .intro (fun m ρ h' =>h' =h∧∃i:Nat,i≤xs.length∧m=xs.length - i∧(∀j (hj:j<i) (h2:j<ds.length),q ds[j]=false)∧lk ρ 0=some y∧lk ρ 1=some (.fn g cap)∧lk ρ 7=some (.i xs.length)∧lk ρ 8=some (.i i)) xs.length ?_ ?_
 ·refine⟨rfl,0,acu,rfl,fun j hj=>acu,?_,?_,?_,?_⟩<;>simp only[go_sem]
 ·rintro m ρ h' ⟨rfl,i,hi,rfl,hc,r0,r1,r7,r8⟩
  simp only[go_sem,r7,r8];refine .intro (fun e=>?_) (fun e=>?_)
  ·have hlt:i<xs.length:=acq e
   have hlt2:i<ds.length:=acu;have w1:IntKind.i64.wrap ((i:Int)+1)=((i+1:Nat):Int):=acI;simp only[go_sem,r0,r1,r8];refine hb.idx (e:=134) i rfl hlt acK acz fun p hp1=>?_
   have hld:=hp1.all (U:=U) (ty:=134) acz adq aek;simp only[go_sem,hld];refine(show ai Tryz.prog g (xs[i]::cap) _ _ from hp i hlt hlt2).pthen ?_
   cases d1:q ds[i]
   ·simp only[go_sem,r8,w1]
    refine⟨_,?_,rfl,i+1,acu,rfl,fun j hj h2=>?_,?_,?_,?_,?_⟩
    ·omega
    ·grind
    all_goals simp only[go_sem,r0,r1,r7]
   ·simp only[go_sem]
    exact .same (.refl _) ⟨adf,rfl⟩
  ·have hge:i=xs.length:=by grind
   simp only[go_sem];exact .same (.refl _) ⟨acY,rfl⟩
theorem yu{α:Type}(y:AV)(xs:List AV)(ds:List α)(q:α→Bool)(g:FuncId)(cap:List AV)(h:Heap)(hb:Rd h 4 y xs)(hn:xs.length=ds.length)(hl:xs.length≤1000000000)(hx:∀x∈xs,bz x=true)
  (hp:∀i (h1:i<xs.length) (h2:i<ds.length),ai Tryz.prog g (xs[i]::cap) h fun r h' =>r= .b (q ds[i])∧h' =h):
  ai Tryz.prog 140 [y,.fn g cap] h fun r h' =>r= .i (ixD q ds)∧h' =h:=by
 refine acs Tryz.func140 19 [.tmp 4] fun hwf=>?_
 simp only[go_sem,hb.len];refine .intro (fun m ρ h' =>h' =h∧∃i:Nat,i≤xs.length∧m=xs.length - i∧(∀j (hj:j<i) (h2:j<ds.length),q ds[j]=false)∧lk ρ 0=some y∧lk ρ 1=some (.fn g cap)∧lk ρ 7=some (.i xs.length)∧lk ρ 8=some (.i i)) xs.length ?_ ?_
 ·refine⟨rfl,0,acu,rfl,fun j hj=>acu,?_,?_,?_,?_⟩<;>simp only[go_sem]
 ·rintro m ρ h' ⟨rfl,i,hi,rfl,hc,r0,r1,r7,r8⟩
  simp only[go_sem,r7,r8];refine .intro (fun e=>?_) (fun e=>?_)
  ·have hlt:i<xs.length:=acq e
   have hlt2:i<ds.length:=acu;have w1:IntKind.i64.wrap ((i:Int)+1)=((i+1:Nat):Int):=acI;simp only[go_sem,r0,r1,r8];refine hb.idx (e:=215) i rfl hlt acK acz fun p hp1=>?_
   have hld:=hp1.all (U:=U) (ty:=215) acz adq aek;simp only[go_sem,hld];refine(show ai Tryz.prog g (xs[i]::cap) _ _ from hp i hlt hlt2).pthen ?_
   cases d1:q ds[i]
   ·simp only[go_sem,r8,w1]
    refine⟨_,?_,rfl,i+1,acu,rfl,fun j hj h2=>?_,?_,?_,?_,?_⟩
    ·omega
    ·grind
    all_goals simp only[go_sem,r0,r1,r7]
   ·simp only[go_sem]
    exact .same (.refl _) ⟨adf,rfl⟩
  ·have hge:i=xs.length:=by grind
   simp only[go_sem];exact .same (.refl _) ⟨acY,rfl⟩
def RdC(h:Heap)(x:AV)(c:aK):Prop:=∃f l,x= .agg [.s c.id,.s c.owner,.s c.state,f,l]∧Rd h 4 f (c.fields.map bL)∧Rd h 3 l (c.log.map iH)
def zI(h:Heap)(y:AV)(cs:List aK):Prop:=∃xs,Rd h 5 y xs∧xs.length=cs.length∧∀i (h1:i<xs.length) (h2:i<cs.length),RdC h xs[i] cs[i]
def RdS(h:Heap)(x:AV)(s:an):Prop:=∃y1 y2 y3 y4,x= .agg ([.i s.tick,y1,y2,y3,y4]++fT s.policy++ [.i s.version])∧zI h y1 s.cases∧Rd h 7 y2 (s.reviews.map iL)∧Rd h 3 y3 (s.notices.map mS)∧Rd h 2 y4 (s.roles.map eD)
theorem RdC.sub{h h' :Heap}{x:AV}{c:aK}(hb:RdC h x c)(hs:Ab.Sub h h'):RdC h' x c:=by
 obtain⟨f,l,e,h1,h2⟩:=hb;exact⟨f,l,e,h1.sub hs,h2.sub hs⟩
theorem zI.sub{h h' :Heap}{y:AV}{cs:List aK}(hb:zI h y cs)(hs:Ab.Sub h h'):zI h' y cs:=by
 obtain⟨xs,h1,h2,h3⟩:=hb;exact⟨xs,h1.sub hs,h2,fun i a b=>(h3 i a b).sub hs⟩
theorem RdS.sub{h h' :Heap}{x:AV}{s:an}(hb:RdS h x s)(hs:Ab.Sub h h'):RdS h' x s:=by
 obtain⟨y1,y2,y3,y4,e,h1,h2,h3,h4⟩:=hb;exact⟨y1,y2,y3,y4,e,h1.sub hs,h2.sub hs,h3.sub hs,h4.sub hs⟩
theorem bu{α:Type}{f:α→AV}{n:Nat}(hf:∀a,(f a).cells.length=n)(l:List α):Sized n (l.map f):=fun z hz=>by
 grind
theorem oH{α:Type}{f:α→AV}(hf:∀a,bz (f a)=true)(l:List α):∀x∈l.map f,bz x=true:=fun z hz=>by
 obtain⟨a,_,rfl⟩:=List.mem_map.1 hz;exact hf a
theorem eP{α:Type}(f:α→AV)(n:Nat)(hf:∀a,(f a).cells.length=n)(h:Heap)(l:List α):Rd h n (.sl (l.map f) .no) (l.map f):=.sl (bu hf l) _
theorem rdC(h:Heap)(c:aK):RdC h (cp c) c:=⟨_,_,rfl,eP bL 4 (fun _=>rfl) h _,eP iH 3 (fun _=>rfl) h _⟩
theorem Xo(h:Heap)(cs:List aK):zI h (fX cs) cs:=⟨_,eP cp 5 (fun _=>rfl) h cs,acD,fun i h1 h2=>by grind [rdC]⟩
theorem rdS(h:Heap)(s:an):RdS h (cI s) s:=⟨_,_,_,_,rfl,Xo h _,eP iL 7 (fun _=>rfl) h _,eP mS 3 (fun _=>rfl) h _,eP eD 2 (fun _=>rfl) h _⟩
theorem RdC.agg{h:Heap}{x:AV}{c:aK}(hb:RdC h x c):bz x=true:=by
 obtain⟨f,l,rfl,_⟩:=hb;rfl
theorem zI.agg{h:Heap}{xs:List AV}{cs:List aK}(hn:xs.length=cs.length)(hb:∀i (h1:i<xs.length) (h2:i<cs.length),RdC h xs[i] cs[i]):∀x∈xs,bz x=true:=fun x hx=>by
 obtain⟨i,hi,rfl⟩:=List.mem_iff_getElem.1 hx;exact(hb i hi acu).agg
theorem nE:(U 134).sz=5:=acK
theorem Gt:(U 215).sz=4:=acK
theorem J3:(U 9).sz≠0:=acz
theorem MN:(U 9).sz=1:=acK
theorem K7{h:Heap}{x:AV}{c:aK}(hb:RdC h x c){k:Nat}{id:Txt}(hk:h k=some (.obj [.s id] 9)):ai Tryz.prog 169 [x,.ptr k 0] h fun r h' =>r= .b (geB c.id id)∧h' =h:=by
 obtain⟨f,l,rfl,hf,hl⟩:=hb;refine acs Tryz.func169 8 [.tmp 3] fun hwf=>?_
 simp only[go_sem];exact agZ
structure Few (s:an):Prop where
 cases:s.cases.length≤1000000
 fields:∀c∈s.cases,c.fields.length≤1000000
 log:∀c∈s.cases,c.log.length≤1000000
 reviews:s.reviews.length≤1000000
 notices:s.notices.length≤1000000
 roles:s.roles.length≤1000000
theorem jA{cs:List aK}{id:Txt}(h:bX cs id=true):findD cs id<cs.length:=by
 grind [bX,List.getElem?_eq_some_iff]
theorem JX{cs:List aK}{id:Txt}(h:findD cs id<cs.length):bX cs id=(cs[findD cs id].id==id):=by
 grind [bX,List.getElem?_eq_getElem]
theorem JY{cs:List aK}{id:Txt}(h:¬findD cs id<cs.length):bX cs id=false:=by
 grind [bX,List.getElem?_eq_none]
theorem BU{h:Heap}{x:AV}{s:an}(hb:RdS h x s)(id:Txt)(hl:s.cases.length≤1000000):ai Tryz.prog 119 [x,.s id] h fun r h' =>r= .tup [.i (findD s.cases id:Nat),.b (bX s.cases id)]∧h' =h:=by
 obtain⟨y1,y2,y3,y4,rfl,⟨xs,hc,hn,hcs⟩,h2,h3,h4⟩:=hb;cases hp:s.policy with
 |mk pid pset palg ptgt prules pkids pobls=>
 refine acs Tryz.func119 25 [.tmp 4,.tmp 5] fun hwf=>?_
 simp only[go_sem,fT,List.cons_append,List.nil_append];intro i1 h1;simp only[go_sem];intro i2 h2;have n21:=aF h2;have n2:=aA h2;have hs:∀a b,Ab.Sub h (upd (upd h i1 a) i2 b):=fun a b=>((Sub.refl h).put h1 a).put n2 b
 simp only[go_sem,ak,n21.symm];refine(uS y1 xs s.cases (fun c=>geB c.id id) _ [.ptr i2 0] _ (hc.sub (hs _ _)) hn acu (zI.agg hn hcs) fun i a b=>K7 ((hcs i a b).sub (hs _ _)) (ah ..)).pthen ?_
 by_cases hf:findD s.cases id<s.cases.length
 ·have e1:ixD (fun c=>geB c.id id) s.cases=(findD s.cases id:Nat):=by rw[ixD];exact if_pos hf
  have d1:decide (((findD s.cases id:Nat):Int)<0)=false:=decide_eq_false acu;rw[e1];simp only[go_sem,ak,n21.symm,d1];refine⟨.of acw,?_⟩;obtain⟨f,l,ex,hfl,hlg⟩:=hcs (findD s.cases id) acu hf;refine hc.idx (e:=134) (findD s.cases id) rfl acu nE acz fun p hp1=>?_
  simp only[go_sem];refine hp1.field (f:=0) (off:=0) (t:=9) rfl J3 fun p2 hp2=>?_
  have hld:=fun a b=>(hp2.sub (hs a b)).part (U:=U) (ty:=9) J3 (by rw[ex,MN];exact ach rfl)
  simp only[go_sem,hld,ex];exact .mk _ (.refl _) (hs _ _) ⟨by rw[JX hf];rfl,rfl⟩
 ·have e1:ixD (fun c=>geB c.id id) s.cases= -1:=by rw[ixD];exact if_neg hf
  have e2:findD s.cases id=s.cases.length:=by
   grind [findD,List.findIdx_le_length]
  have d1:decide ((-1:Int)<0)=true:=rfl;rw[e1];simp only[go_sem,ak,n21.symm,d1];simp only[go_sem,hc.len];exact .mk _ (.refl _) (hs _ _) ⟨by rw[JY hf,e2,hn];rfl,rfl⟩
theorem HW:(U 149).sz=2:=acK
theorem Ji(y:AV)(ds:List gV)(r:gV)(h:Heap)(hb:Rd h 2 y (ds.map eD))(hl:ds.length≤1000000000):
  ai Tryz.prog 209 [y,eD r] h fun x h' =>x= .i (ixD (uE r) ds)∧h' =h:=by
 refine acs Tryz.func209 19 [.tmp 4] fun hwf=>?_
 simp only[go_sem,eD];intro i1 h1;have hs:∀a,Ab.Sub h (upd h i1 a):=fun a=>(Sub.refl h).put h1 a
 simp only[go_sem,hb.len,aci];refine .intro (fun m ρ h' =>h' =upd h i1 (some (.obj [.s r.subj,.s r.role] 149))∧∃i:Nat,i≤ds.length∧m=ds.length - i∧(∀j (hj:j<i) (h2:j<ds.length),uE r ds[j]=false)∧lk ρ 0=some y∧lk ρ 3=some (.ptr i1 0)∧lk ρ 7=some (.i ds.length)∧lk ρ 8=some (.i i)) ds.length ?_ ?_
 ·refine⟨rfl,0,acu,rfl,fun j hj=>acu,?_,?_,?_,?_⟩<;>simp only[go_sem]
 ·rintro m ρ h' ⟨rfl,i,hi,rfl,hc,r0,r3,r7,r8⟩
  simp only[go_sem,r7,r8];refine .intro (fun e=>?_) (fun e=>?_)
  ·have hlt:i<ds.length:=acq e
   have w1:IntKind.i64.wrap ((i:Int)+1)=((i+1:Nat):Int):=acI;simp only[go_sem,r0,r3,r8];refine⟨.of acw,?_⟩;refine hb.idx (e:=149) i rfl acv HW acz fun p hp1=>?_
   have hld:=fun a=>(hp1.sub (hs a)).all (U:=U) (ty:=149) acz (by rw[HW,acj];rfl) ada
   cases d1:uE r ds[i]
   ·have d2:=d1
    simp only[uE]at d2;simp only[go_sem,r8,hld,acj,eD,d2,w1];refine⟨_,?_,rfl,i+1,acu,rfl,fun j hj h2=>?_,?_,?_,?_,?_⟩
    ·omega
    ·grind
    all_goals simp only[go_sem,r0,r3,r7]
   ·have d2:=d1
    simp only[uE]at d2;simp only[go_sem,hld,acj,eD,d2];exact .mk _ (.refl _) (hs _) ⟨by rw[nN hlt d1 fun j hj=>hc j hj acu];rfl,rfl⟩
  ·have hge:i=ds.length:=by grind
   simp only[go_sem];exact .mk _ (.refl _) (hs _) ⟨acY,rfl⟩
theorem FC(y:AV)(ds:List gV)(r:gV)(h:Heap)(hb:Rd h 2 y (ds.map eD))(hl:ds.length≤1000000000):
  ai Tryz.prog 171 [y,eD r] h fun x h' =>x= .b (yh ds r)∧h' =h:=by
 have hq:=fun H (hH:Ab.Sub h H)=>Ji y ds r H (hb.sub hH) hl
 refine acs Tryz.func171 9 [.tmp 4] fun hwf=>?_
 simp only[go_sem,eD];intro i1 h1;simp only[go_sem];refine(hq _ (.aj h1)).pthen ?_;simp only[go_sem];refine .mk _ (.refl _) (.aj h1) ⟨?_,rfl⟩
 grind [ax,yh,ixD,decide_eq_true,List.any_eq_true,aco,List.findIdx_getElem,decide_eq_false,List.any_eq_false]
theorem FD{h:Heap}{x:AV}{s:an}(hb:RdS h x s)(subj role:Txt)(hl:s.roles.length≤1000000000):ai Tryz.prog 122 [x,.s subj,.s role] h fun r h' =>r= .b (yh s.roles ⟨subj,role⟩)∧h' =h:=by
 obtain⟨y1,y2,y3,y4,rfl,hc,h2,h3,h4⟩:=hb;have hq:=fun H (hH:Ab.Sub h H)=>FC y4 s.roles ⟨subj,role⟩ H (h4.sub hH) hl
 cases hp:s.policy with
 |mk pid pset palg ptgt prules pkids pobls=>
 refine acs Tryz.func122 13 [.tmp 6] fun hwf=>?_
 simp only[go_sem,fT,List.cons_append,List.nil_append];intro i1 h1;simp only[go_sem];refine(hq _ (.aj h1)).pthen ?_;simp only[go_sem];exact acM
theorem IG{h:Heap}(f:cV){k:Nat}{name:Txt}(hk:h k=some (.obj [.s name] 9)):ai Tryz.prog 141 [bL f,.ptr k 0] h fun r h' =>r= .b (f.name==name)∧h' =h:=by
 refine acs Tryz.func141 8 [.tmp 3] fun hwf=>?_
 simp only[go_sem,bL];exact agZ
theorem II{fs:List cV}{name:Txt}(h:fs.findIdx (fun f=>f.name==name)<fs.length):eN fs name=fs[fs.findIdx fun f=>f.name==name].val:=by
 unfold eN;rw[show fs.find? (fun f=>f.name==name)=some fs[fs.findIdx fun f=>f.name==name]from List.find?_eq_some_iff_getElem.2 ⟨List.findIdx_getElem (w:=h),_,h,rfl,fun j hj=>acv⟩]
theorem IJ{fs:List cV}{name:Txt}(h:¬fs.findIdx (fun f=>f.name==name)<fs.length):eN fs name=aq:=by
 grind [eN,List.findIdx_le_length,List.find?_eq_none,List.findIdx_eq_length]
theorem C4{h:Heap}{x:AV}{c:aK}(hb:RdC h x c)(name:Txt)(hl:c.fields.length≤1000000000):ai Tryz.prog 77 [x,.s name] h fun r h' =>r=aO (eN c.fields name)∧h' =h:=by
 obtain⟨f,l,rfl,hf,hlg⟩:=hb;refine acs Tryz.func77 19 [.cell 4 30] fun hwf=>?_
 simp only[go_sem];intro i1 h1;simp only[go_sem];intro i2 h2;have n21:=aF h2;have n2:=aA h2;simp only[go_sem];intro i3 h3;have h3' :=aA h3;have n31:=aF h3';have n3:=aA h3';have hs:∀a b d,Ab.Sub h (upd (upd (upd h i1 a) i2 b) i3 d):=fun a b d=>(((Sub.refl h).put h1 a).put n2 b).put n3 d
 simp only[go_sem,ak,n21.symm,n31.symm];refine(yu f _ c.fields (fun f=>f.name==name) _ [.ptr i2 0] _ (hf.sub (hs _ _ _)) acD acv (oH (fun _=>rfl) _) fun i a b=>by
  rw[acj];exact IG _ (by grind [ak,ga,not_false_eq_true])).pthen ?_
 by_cases hx:c.fields.findIdx (fun f=>f.name==name)<c.fields.length
 ·have e1:ixD (fun f=>f.name==name) c.fields=(c.fields.findIdx (fun f=>f.name==name):Nat):=by simp_all [ixD,if_pos]
  have d1:decide ((0:Int)≤((c.fields.findIdx (fun f=>f.name==name):Nat):Int))=true:=decide_eq_true acu
  rw[e1];simp only[go_sem,ak,n21.symm,n31.symm,d1];refine hf.idx (e:=215) (c.fields.findIdx fun f=>f.name==name) rfl acv Gt acz fun p hp1=>?_
  simp only[go_sem];refine hp1.field (f:=1) (off:=1) (t:=30) rfl acz fun p2 hp2=>?_
  have hld:=fun a b d=>(hp2.sub (hs a b d)).part (U:=U) (ty:=30) acz (by rw[acj,show(U 30).sz=3 by rfl];exact ach rfl)
  simp only[go_sem,hld,acj,bL];exact .mk _ (.refl _) acv ⟨by rw[II hx];rfl,rfl⟩
 ·have e1:ixD (fun f=>f.name==name) c.fields= -1:=by simp_all [ixD,if_neg]
  have d1:decide ((0:Int)≤ -1)=false:=rfl;rw[e1];simp only[go_sem,d1];exact .mk _ (.refl _) acv ⟨by rw[IJ hx];rfl,rfl⟩
end Go.Proofs.YtcochaoekecfdaaGreatDoor
namespace Go.Ab
open Go
mutual
def cH:AV→Bool
 |.v _=>true
 |.s _=>true
 |.agg xs=>gS xs
 |.tup xs=>gS xs
 |.sl xs (.own _)=>false
 |.sl xs _=>gS xs
 |.pe x _=>cH x
 |.ifc _ x=>cH x
 |_=>false
def gS:List AV→Bool
 | []=>true
 |x::r=>cH x && gS r
end
mutual
theorem tV{F:Nat→Prop}:∀x:AV,cH x=true→Av F x
 |.v x,_=> .v x
 |.s l,_=> .s l
 |.agg xs,h=> .agg xs (qO xs ae8)
 |.tup xs,h=> .tup xs (qO xs ae8)
 |.sl xs .no,h=> .sl xs .no (qO xs ae8) fun _ e=>acV
 |.sl xs .full,h=> .sl xs .full (qO xs ae8) fun _ e=>acV
 |.sl xs (.own _),h=>af5
 |.pe x o,h=> .pe x o (tV x ae8)
 |.ptr i o,h=>af5
 |.oa i o l,h=>af5
 |.ifc t x,h=> .ifc t x (tV x ae8)
 |.fn f c,h=>af5
 |.mp i,h=>af5
 |.ob i o l c z,h=>af5
theorem qO{F:Nat→Prop}:∀xs:List AV,gS xs=true→∀x∈xs,Av F x
 | [],_,x,hx=>by cases hx
 |y::r,h,x,hx=>by
  simp only[gS,Bool.and_eq_true]at h;rcases List.mem_cons.1 hx with e|e
  ·rw[e];exact tV y h.1
  ·exact qO r h.2 x e
end
theorem bt{α:Type}{f:α→AV}(hf:∀a,cH (f a)=true):∀l:List α,gS (l.map f)=true
 | []=>rfl
 |a::r=>by simp[gS,hf a,bt hf r]
theorem A2{xs:List AV}(h:gS xs=true):∀x∈xs,cH x=true:=by
 induction xs with
 |nil=>simp
 |cons y r ih=>
  simp_all [gS,Bool.and_eq_true,List.mem_cons]
theorem nC{x:AV}(h:cH x=true):∀c∈x.cells,cH c=true:=by
 cases x with
 |agg cs=>exact A2 (show gS cs=true by grind [cH])
 |_=>intro c hc;rw[List.mem_singleton.1 hc];exact h
theorem Frz.pure{g h:Heap}{x:AV}(hx:cH x=true):Frz g h x x:=.keep x (tV x hx)
theorem Ow.frz{g h:Heap}{tb:TypeId}{sz id:Nat}{y:AV}{xs ys:List AV}(hw:Ow tb h sz id y xs)(hg:g id=Option.none)(hn:xs.length=ys.length)(hz:∀i (h1:i<xs.length) (h2:i<ys.length),xs[i].cells.length=ys[i].cells.length)
  (hr:∀i (h1:i<xs.length) (h2:i<ys.length) j (h3:j<xs[i].cells.length) (h4:j<ys[i].cells.length),Frz g h xs[i].cells[j] ys[i].cells[j]):Frz g h y (.sl ys .no):=by
 obtain⟨cap,rest,rfl,h1,h2,h3,h4⟩:=hw;have hl:=aX h4;refine .ob id 0 _ cap sz _ tb ys hg h1 acv hn.symm (fun i hi=>by rw[←hz i acu hi];exact h4 _ acD) fun i hi j hj hb=>?_
 have hj' :j<sz:=by rw[←h4 xs[i] acD,hz i acu hi];omega
 have hbd:i*sz+j<xs.length*sz:=by
  have:(i+1)*sz≤xs.length*sz:=Nat.mul_le_mul_right _ acu;rw[Nat.add_mul,Nat.one_mul]at this;omega
 have hjx:j<xs[i].cells.length:=acv;have e:(au xs++rest)[0+(i*sz+j)]? =some (xs[i].cells[j]):=by
  rw[Nat.zero_add,List.getElem?_append_left acu,uG h4 acu hj',List.getElem?_eq_getElem hjx]
 rw[List.getElem?_eq_getElem hb,Option.some.injEq]at e;rw[e];exact hr i acu hi j hjx hj
theorem OwE.frz{g h:Heap}{tb:TypeId}{sz:Nat}{y:AV}{xs:List AV}(hw:OwE tb g h sz y xs)(hp:gS xs=true):Frz g h y (.sl xs .no):=by
 rcases hw with⟨rfl,rfl⟩|⟨id,hg,hw⟩
 ·exact .sl [] [] .full rfl acu acD
 ·exact hw.frz hg rfl acu fun i h1 h2 j h3 h4=> .pure (nC (A2 hp _ (aco h1)) _ acD)
theorem OwE.lG{U:TypeId→TI}{h:Heap}{sz:Nat}{tb:TypeId}{xs:List AV}{Q:AV→Heap→Prop}(hz:(U tb).sz=sz)(hf:Ab.fit (U tb).zero sz)(hb:Sized sz xs)(hk:∀y' h',OwE tb h h' sz y' xs→Sub h h'→Q y' h'):rV U h [] xs tb Q:=by
 subst hz;refine⟨fun hn=>?_,fun hn=>?_⟩
 ·subst hn
  exact hk _ _ (.inl ⟨rfl,rfl⟩) (.refl _)
 ·refine .ob hf (j0.ow hb acK acD fun id y' h' hid hw ho=>?_)
  exact hk _ _ (.inr ⟨id,hid,hw⟩) fun j b hj=>acv
theorem Rd.nil{h:Heap}{sz:Nat}{y:AV}{xs:List AV}{e:TypeId}{Q:AV→Heap→Prop}(hb:Rd h sz y xs)(hk:∀b:Bool,(xs≠ []→b=false)→Q (.b b) h):Rw h .eql y Q (.slice e):=by
 obtain⟨_,⟨q,rfl⟩|⟨id,off,cap,cs,t,rfl,_⟩⟩:=hb
 ·exact hk
 ·exact hk false fun _=>rfl
def nid:AV→Option Nat
 |.ob id _ _ _ _=>some id
 |_=>none
theorem OwE.nid{tb:TypeId}{h0 h:Heap}{sz:Nat}{y:AV}{xs:List AV}(hw:OwE tb h0 h sz y xs){id:Nat}(e:Ab.nid y=some id):h0 id=Option.none∧h id≠Option.none∧Ow tb h sz id y xs:=by
 rcases hw with⟨rfl,rfl⟩|⟨id',h1,hw⟩
 ·cases e
 ·obtain⟨cap,rest,rfl,h2,h3⟩:=hw
  cases e;exact⟨h1,acv,cap,rest,rfl,h2,h3⟩
theorem Ow.nid{tb:TypeId}{h:Heap}{sz id:Nat}{y:AV}{xs:List AV}(hw:Ow tb h sz id y xs):Ab.nid y=some id:=by
 obtain⟨cap,rest,rfl,h2,h3⟩:=hw;rfl
theorem OwE.keep{tb:TypeId}{h0 h h' :Heap}{sz:Nat}{y:AV}{xs:List AV}(hw:OwE tb h0 h sz y xs)(hs:∀id,Ab.nid y=some id→h' id=h id):OwE tb h0 h' sz y xs:=by
 rcases hw with hw|⟨id,h1,hw⟩
 ·exact agx
 ·exact .inr ⟨id,h1,hw.same (hs id hw.nid)⟩
theorem OwE.less{tb:TypeId}{h0 h1 h:Heap}{sz:Nat}{y:AV}{xs:List AV}(hw:OwE tb h1 h sz y xs)(hs:Sub h0 h1):OwE tb h0 h sz y xs:=by
 rcases hw with hw|⟨id,a,hw⟩
 ·exact agx
 ·exact .inr ⟨id,hs.none a,hw⟩
end Go.Ab
namespace Go.Proofs.YtcochaoekecfdaaGreatDoor
open Go Go.Ab Go.Bf
theorem Ao(y:AV)(xs:List AV)(h:Heap)(hb:Rd h 5 y xs)(hl:xs.length≤1000000):ai Tryz.prog 131 [y] h fun r h' =>OwE 134 h h' 5 r xs∧Ab.Sub h h' :=by
 refine acs Tryz.func131 8 [.tmp 2] fun hwf=>?_
 simp only[go_sem];refine hb.nil fun b hxs=>?_
 cases b
 ·simp only[go_sem]
  refine hb.src (U:=U) (e:=134) acK ⟨hb.1,acu,OwE.lG (U:=U) (sz:=5) acK acK hb.1 fun y' h' hw hs=>?_⟩
  exact agU
 ·exact agQ
theorem vI(y:AV)(xs:List AV)(h:Heap)(hb:Rd h 7 y xs)(hl:xs.length≤1000000):ai Tryz.prog 129 [y] h fun r h' =>OwE 143 h h' 7 r xs∧Ab.Sub h h' :=by
 refine acs Tryz.func129 8 [.tmp 2] fun hwf=>?_
 simp only[go_sem];refine hb.nil fun b hxs=>?_
 cases b
 ·simp only[go_sem]
  refine hb.src (U:=U) (e:=143) acK ⟨hb.1,acu,OwE.lG (U:=U) (sz:=7) acK acK hb.1 fun y' h' hw hs=>?_⟩
  exact agU
 ·exact agQ
theorem vH(y:AV)(xs:List AV)(h:Heap)(hb:Rd h 3 y xs)(hl:xs.length≤1000000):ai Tryz.prog 130 [y] h fun r h' =>OwE 146 h h' 3 r xs∧Ab.Sub h h' :=by
 refine acs Tryz.func130 8 [.tmp 2] fun hwf=>?_
 simp only[go_sem];refine hb.nil fun b hxs=>?_
 cases b
 ·simp only[go_sem]
  refine hb.src (U:=U) (e:=146) acK ⟨hb.1,acu,OwE.lG (U:=U) (sz:=3) acK acK hb.1 fun y' h' hw hs=>?_⟩
  exact agU
 ·exact agQ
theorem Iv(y:AV)(xs:List AV)(h:Heap)(hb:Rd h 2 y xs)(hl:xs.length≤1000000):ai Tryz.prog 177 [y] h fun r h' =>OwE 149 h h' 2 r xs∧Ab.Sub h h' :=by
 refine acs Tryz.func177 8 [.tmp 2] fun hwf=>?_
 simp only[go_sem];refine hb.nil fun b hxs=>?_
 cases b
 ·simp only[go_sem]
  refine hb.src (U:=U) (e:=149) acK ⟨hb.1,acu,OwE.lG (U:=U) (sz:=2) acK acK hb.1 fun y' h' hw hs=>?_⟩
  exact agU
 ·exact agQ
theorem E1(y:AV)(xs:List AV)(h:Heap)(hb:Rd h 4 y xs)(hl:xs.length≤1000000):ai Tryz.prog 184 [y] h fun r h' =>OwE 215 h h' 4 r xs∧Ab.Sub h h' :=by
 refine acs Tryz.func184 8 [.tmp 2] fun hwf=>?_
 simp only[go_sem];refine hb.nil fun b hxs=>?_
 cases b
 ·simp only[go_sem]
  refine hb.src (U:=U) (e:=215) acK ⟨hb.1,acu,OwE.lG (U:=U) (sz:=4) acK acK hb.1 fun y' h' hw hs=>?_⟩
  exact agU
 ·exact agQ
theorem qi(y:AV)(xs:List AV)(h:Heap)(hb:Rd h 3 y xs)(hl:xs.length≤1000000):ai Tryz.prog 132 [y] h fun r h' =>OwE 205 h h' 3 r xs∧Ab.Sub h h' :=by
 refine acs Tryz.func132 8 [.tmp 2] fun hwf=>?_
 simp only[go_sem];refine hb.nil fun b hxs=>?_
 cases b
 ·simp only[go_sem]
  refine hb.src (U:=U) (e:=205) acK ⟨hb.1,acu,OwE.lG (U:=U) (sz:=3) acK acK hb.1 fun y' h' hw hs=>?_⟩
  exact agU
 ·exact agQ
theorem wR(y:AV)(xs:List AV)(h:Heap)(hb:Rd h 3 y xs)(hl:xs.length≤1000000)(hp:gS xs=true):ai Tryz.prog 132 [y] h fun r h' =>r= .sl xs .no∧h' =h:=
 ai.freeze fun g hg _=>(qi y xs g (hb.sub hg) hl).mono fun r h' ⟨h1,h2⟩=>⟨h2,_,h1.frz hp,rfl⟩
theorem KJ(y:AV)(xs:List AV)(h:Heap)(hb:Rd h 3 y xs)(hl:xs.length≤1000000):ai Tryz.prog 91 [y] h fun r h' =>OwE 158 h h' 3 r xs∧Ab.Sub h h' :=by
 refine acs Tryz.func91 8 [.tmp 2] fun hwf=>?_
 simp only[go_sem];refine hb.nil fun b hxs=>?_
 cases b
 ·simp only[go_sem]
  refine hb.src (U:=U) (e:=158) acK ⟨hb.1,acu,OwE.lG (U:=U) (sz:=3) acK acK hb.1 fun y' h' hw hs=>?_⟩
  exact agU
 ·exact agQ
theorem Aq(y:AV)(xs:List AV)(h:Heap)(hb:Rd h 3 y xs)(hl:xs.length≤1000000)(hp:gS xs=true):ai Tryz.prog 91 [y] h fun r h' =>r= .sl xs .no∧h' =h:=
 ai.freeze fun g hg _=>(KJ y xs g (hb.sub hg) hl).mono fun r h' ⟨h1,h2⟩=>⟨h2,_,h1.frz hp,rfl⟩
theorem Iw(y:AV)(xs:List AV)(h:Heap)(hb:Rd h 5 y xs)(hl:xs.length≤1000000):ai Tryz.prog 219 [y] h fun r h' =>OwE 224 h h' 5 r xs∧Ab.Sub h h' :=by
 refine acs Tryz.func219 8 [.tmp 2] fun hwf=>?_
 simp only[go_sem];refine hb.nil fun b hxs=>?_
 cases b
 ·simp only[go_sem]
  refine hb.src (U:=U) (e:=224) acK ⟨hb.1,acu,OwE.lG (U:=U) (sz:=5) acK acK hb.1 fun y' h' hw hs=>?_⟩
  exact agU
 ·exact agQ
theorem CN(y:AV)(xs:List AV)(h:Heap)(hb:Rd h 7 y xs)(hl:xs.length≤1000000):ai Tryz.prog 220 [y] h fun r h' =>OwE 65 h h' 7 r xs∧Ab.Sub h h' :=by
 refine acs Tryz.func220 8 [.tmp 2] fun hwf=>?_
 simp only[go_sem];refine hb.nil fun b hxs=>?_
 cases b
 ·simp only[go_sem]
  refine hb.src (U:=U) (e:=65) acK ⟨hb.1,acu,OwE.lG (U:=U) (sz:=7) acK acK hb.1 fun y' h' hw hs=>?_⟩
  exact agU
 ·exact agQ
theorem Iu(y:AV)(xs:List AV)(h:Heap)(hb:Rd h 7 y xs)(hl:xs.length≤1000000):ai Tryz.prog 221 [y] h fun r h' =>OwE 229 h h' 7 r xs∧Ab.Sub h h' :=by
 refine acs Tryz.func221 8 [.tmp 2] fun hwf=>?_
 simp only[go_sem];refine hb.nil fun b hxs=>?_
 cases b
 ·simp only[go_sem]
  refine hb.src (U:=U) (e:=229) acK ⟨hb.1,acu,OwE.lG (U:=U) (sz:=7) acK acK hb.1 fun y' h' hw hs=>?_⟩
  exact agU
 ·exact agQ
theorem E4(y:AV)(xs:List AV)(h:Heap)(hb:Rd h 7 y xs)(hl:xs.length≤1000000)(hp:gS xs=true):ai Tryz.prog 221 [y] h fun r h' =>r= .sl xs .no∧h' =h:=
 ai.freeze fun g hg _=>(Iu y xs g (hb.sub hg) hl).mono fun r h' ⟨h1,h2⟩=>⟨h2,_,h1.frz hp,rfl⟩
theorem E2(y:AV)(xs:List AV)(h:Heap)(hb:Rd h 7 y xs)(hl:xs.length≤1000000):ai Tryz.prog 253 [y] h fun r h' =>OwE 273 h h' 7 r xs∧Ab.Sub h h' :=by
 refine acs Tryz.func253 8 [.tmp 2] fun hwf=>?_
 simp only[go_sem];refine hb.nil fun b hxs=>?_
 cases b
 ·simp only[go_sem]
  refine hb.src (U:=U) (e:=273) acK ⟨hb.1,acu,OwE.lG (U:=U) (sz:=7) acK acK hb.1 fun y' h' hw hs=>?_⟩
  exact agU
 ·exact agQ
theorem CP(y:AV)(xs:List AV)(h:Heap)(hb:Rd h 7 y xs)(hl:xs.length≤1000000)(hp:gS xs=true):ai Tryz.prog 253 [y] h fun r h' =>r= .sl xs .no∧h' =h:=
 ai.freeze fun g hg _=>(E2 y xs g (hb.sub hg) hl).mono fun r h' ⟨h1,h2⟩=>⟨h2,_,h1.frz hp,rfl⟩
theorem E3(y:AV)(xs:List AV)(h:Heap)(hb:Rd h 3 y xs)(hl:xs.length≤1000000):ai Tryz.prog 283 [y] h fun r h' =>OwE 30 h h' 3 r xs∧Ab.Sub h h' :=by
 refine acs Tryz.func283 8 [.tmp 2] fun hwf=>?_
 simp only[go_sem];refine hb.nil fun b hxs=>?_
 cases b
 ·simp only[go_sem]
  refine hb.src (U:=U) (e:=30) acK ⟨hb.1,acu,OwE.lG (U:=U) (sz:=3) acK acK hb.1 fun y' h' hw hs=>?_⟩
  exact agU
 ·exact agQ
theorem CQ(y:AV)(xs:List AV)(h:Heap)(hb:Rd h 3 y xs)(hl:xs.length≤1000000)(hp:gS xs=true):ai Tryz.prog 283 [y] h fun r h' =>r= .sl xs .no∧h' =h:=
 ai.freeze fun g hg _=>(E3 y xs g (hb.sub hg) hl).mono fun r h' ⟨h1,h2⟩=>⟨h2,_,h1.frz hp,rfl⟩
def Qb(h0 h:Heap)(x:AV)(c:aK):Prop:=∃f l,x= .agg [.s c.id,.s c.owner,.s c.state,f,l]∧OwE 215 h0 h 4 f (c.fields.map bL)∧OwE 205 h0 h 3 l (c.log.map iH)∧∀i,nid f=some i→nid l≠some i
theorem cD{h:Heap}{i j:Nat}{b:Blk}(h1:h i=none)(h2:h j=some b):i≠j:=fun e=>by subst e;rw[h2]at h1;cases h1
theorem yP{h:Heap}{x:AV}{c:aK}(hb:RdC h x c)(hl:c.fields.length≤1000000)(hl2:c.log.length≤1000000):ai Tryz.prog 139 [x] h fun r h' =>Qb h h' r c∧Ab.Sub h h' :=by
 obtain⟨f,l,rfl,hf,hlg⟩:=hb;refine acs Tryz.func139 12 [.cell 2 134] fun hwf=>?_
 simp only[go_sem];intro i1 h1;simp only[go_sem];intro i2 h2;have n21:=aF h2;have n2:=aA h2;simp only[go_sem];obtain⟨H,eH⟩:∃H,upd (upd h i1 (some (.obj [.s c.id,.s c.owner,.s c.state,f,l] 134))) i2 (some (.obj [.s [],.s [],.s [],.sl [] .full,.sl [] .full] 134))=H:=⟨_,rfl⟩;have hH:Ab.Sub h H:=adv;have g1:H i1=some (.obj [.s c.id,.s c.owner,.s c.state,f,l] 134):=ad6;have g2:H i2=some (.obj [.s [],.s [],.s [],.sl [] .full,.sl [] .full] 134):=adX;rw[eH];refine .stage (hm1 i1 _) [0,1,3,4,2,6,5] [7,8,9] (.hm1 g1) acw ?_;simp only[go_sem,fY];refine(E1 f _ H (hf.sub hH) acv).mono fun f' H1 ⟨hf',s1⟩=>?_
 refine⟨.hm1 (s1 _ _ g1),?_⟩;simp only[go_sem];refine(qi l _ H1 ((hlg.sub hH).sub s1) acv).mono fun l' H2 ⟨hl',s2⟩=>?_
 refine⟨.hm1 (s2 _ _ (s1 _ _ g1)),cL,(fun _ _ e=>acV),?_⟩
 have g1' :=s2 _ _ (s1 _ _ g1);have g2' :=s2 _ _ (s1 _ _ g2);simp only[go_sem,g1',hf'.rd.fit,hf'.rd.cells,hl'.rd.fit,hl'.rd.cells];have n1:∀b,upd H2 i1 b i2=some (.obj [.s [],.s [],.s [],.sl [] .full,.sl [] .full] 134):=fun b=>ac7
 refine⟨fun _ _ e=>acV,fun _ _ e=>acV,?_⟩
 simp only[go_sem,n1];have hid:∀ {y:AV} {xs:List AV} {G:Heap} {tb:TypeId} {z:Nat},Ab.Sub H G→OwE tb G H2 z y xs→∀a b,OwE tb h (upd (upd H2 i1 a) i2 b) z y xs:=fun hG hw a b=>(hw.less (hH.trans hG)).keep fun id e=>by
  have h0:=hG.none (hw.nid e).1;rw[ag _ _ (cD h0 g2),ag _ _ (cD h0 g1)]
 refine .mk _ (.refl _) (.refl _) ⟨⟨f',l',rfl,hid (.refl _) (hf'.sub s2) _ _,hid s1 hl' _ _,fun i ef el=>?_⟩,((hH.trans (s1.trans s2)).put h1 _).put n2 _⟩
 exact(hf'.nid ef).2.1 ((hl'.nid el).1)
theorem wC{h:Heap}{x:AV}{c:aK}(hb:RdC h x c)(hl:c.fields.length≤1000000)(hl2:c.log.length≤1000000):ai Tryz.prog 139 [x] h fun r h' =>r=cp c∧h' =h:=
 ai.freeze fun g hg _=>(yP (hb.sub hg) hl hl2).mono fun r h' ⟨⟨f,l,e,hf,hlg,_⟩,h2⟩=>⟨h2,cp c,by
  subst e;refine .agg _ _ rfl fun i h1 h2=>?_
  rcases i with _|_|_|_|_|i
  ·exact acP
  ·exact acP
  ·exact acP
  ·exact hf.frz (bt (fun _=>rfl) _)
  ·exact hlg.frz (bt (fun _=>rfl) _)
  ·simp at h1;omega,rfl⟩
theorem Ma(l:List bN):gS (l.map dI)=true:=bt (fun _=>rfl) l
theorem U1:(U 274).sz=1:=acK
theorem U2:(U 270).sz=1:=acK
theorem tL(t:fW)(ht:lu t=0)(h:Heap):ai Tryz.prog 218 [aU t] h fun r h' =>r=aU t∧h' =h:=by
 obtain⟨hl,he⟩:=Bh ht;refine acs Tryz.func218 33 [.tmp 2] fun hwf=>?_
 simp only[go_sem,aU,aci];refine .intro (fun m ρ h' =>∃(i:Nat) (y:AV) (ys:List AV),Acc U 270 h h' y ys∧ys.length=i∧(∀j (h1:j<ys.length) (h2:j<t.length),∃q,ys[j]= .sl (t[j].map iQ) q)∧i≤t.length∧m=t.length - i∧lk ρ 3=some y∧lk ρ 9=some (.sl (t.map cN) .no)∧lk ρ 10=some (.i t.length)∧lk ρ 11=some (.i i)) t.length ?_ ?_
 ·refine⟨0,_,[],.full (.refl _),rfl,fun j h1=>acv,acu,rfl,?_,?_,?_,?_⟩<;>simp only[go_sem]
 ·rintro m ρ h' ⟨i,y,ys,hy,hn,hys,hi,rfl,r3,r9,r10,r11⟩
  simp only[go_sem,r10,r11];refine .intro (fun e=>?_) (fun e=>?_)
  ·have hlt:i<t.length:=acq e
   have w1:IntKind.i64.wrap ((i:Int)+1)=((i+1:Nat):Int):=acI;obtain⟨ha0,hal,hae⟩:=An (he _ (aco hlt));simp only[go_sem,r9,r11];refine .at i acv acL ?_;simp only[go_sem,acj,cN,aci];refine .intro (fun m ρ H=>∃(j:Nat) (z:AV) (zs:List AV),Acc U 274 h' H z zs∧zs=(t[i].take j).map iQ∧j≤t[i].length∧m=t[i].length - j∧lk ρ 3=some y∧lk ρ 9=some (.sl (t.map cN) .no)∧lk ρ 10=some (.i t.length)∧lk ρ 11=some (.i i)∧lk ρ 6=some z∧lk ρ 15=some (.sl (t[i].map iQ) .no)∧lk ρ 16=some (.i t[i].length)∧lk ρ 17=some (.i j)) t[i].length ?_ ?_
   ·refine⟨0,_,[],.full (.refl _),rfl,acu,rfl,?_,?_,?_,?_,?_,?_,?_,?_⟩<;>simp only[go_sem,r3,r9,r10,r11]
   ·rintro m ρ H ⟨j,z,zs,hz,rfl,hj,rfl,r3,r9,r10,r11,r6,r15,r16,r17⟩
    simp only[go_sem,r16,r17];refine .intro (fun e=>?_) (fun e=>?_)
    ·have hlt2:j<t[i].length:=acq e
     have w2:IntKind.i64.wrap ((j:Int)+1)=((j+1:Nat):Int):=acI;have hml:=(Am (hae _ (aco hlt2))).2.1;simp only[go_sem,r15,r17];refine .at j acv acL ?_;simp only[go_sem,r6,acj,iQ];refine(CP _ (t[i][j].map dI) _ (eP dI 7 (fun _=>rfl) _ _) acv (Ma _)).pthen ?_
     simp only[go_sem];refine hz.app (zs:=[iQ t[i][j]]) acz acz (fun k hk=>hk) (by rw[U1];exact bu (f:=iQ) (fun _=>rfl) _) (by rw[U1];exact bu (f:=iQ) (fun _=>rfl) [t[i][j]]) (by simp only[go_sem,aci,List.length_cons,List.length_nil,List.length_take];omega) fun z' H' hz' _=>?_
     simp only[go_sem,r17,w2];refine⟨_,?_,j+1,z',_,hz',?_,acu,rfl,?_,?_,?_,?_,?_,?_,?_,?_⟩
     ·omega
     ·grind [List.take_succ_eq_append_getElem]
     all_goals simp only[go_sem,r3,r9,r10,r11,r15,r16]
    ·have hge:j=t[i].length:=by grind
     subst hge;rw[List.take_length]at hz;have hyH:=hy.sub hz.1;obtain⟨q,rfl⟩:=hz.row;simp only[go_sem,r3,r6];refine hyH.app (zs:=[.sl (t[i].map iQ) q]) acz acz (fun k hk=>hk) (by rw[U2];intro w hw;obtain⟨k,hk,rfl⟩:=List.mem_iff_getElem.1 hw;obtain⟨q',e'⟩:=hys k hk acu;rw[e'];rfl) (by rw[U2];intro w hw;rw[List.mem_singleton.1 hw];rfl) (by simp only[go_sem,hn,List.length_cons,List.length_nil];omega) fun y' H' hy' _=>?_
     simp only[go_sem,r11,w1];refine⟨_,?_,i+1,y',_,hy',acv,fun k h1 h2=>?_,acu,rfl,?_,?_,?_,?_⟩
     ·omega
     ·grind
     all_goals simp only[go_sem,r9,r10]
  ·have hge:i=t.length:=by grind
   simp only[go_sem,r3];obtain⟨q,rfl⟩:=hy.row;refine .mk (aU t) ?_ hy.1 ⟨rfl,rfl⟩;refine .deep _ _ q acv (fun k h1 h2=>?_) fun k h1 h2 j h3 h4=>?_
   ·obtain⟨q',e'⟩:=hys k h1 acu
    rw[e',acj];rfl
   ·obtain⟨q',e'⟩:=hys k h1 acu
    simp only[e',AV.cells,List.length_singleton]at h3;obtain rfl:j=0:=acu;simp only[e',acj,cN,AV.cells,List.getElem_singleton];exact afc
theorem yY(t:fW):cH (aU t)=true:=by
 refine bt (fun a=>?_) t
 refine bt (fun b=>?_) a
 exact bt (fun _=>rfl) b
theorem JC(l:List aN):cH (fm l)=true:=by simp only[fm,cH];exact bt (fun _=>rfl) l
theorem vg(l:List cA):cH (az l)=true:=by simp only[az,cH];exact bt (fun _=>rfl) l
theorem A3(r:cK):cH (aB r)=true:=by simp[aB,cH,gS,yY,JC,vg]
mutual
theorem D6:∀p:bG,cH (aL p)=true
 |.mk id set alg tgt rules kids obls=>by simp[aL,cH,gS,yY,vg,bt A3 rules,vf kids]
theorem vf:∀l:List bG,gS (fD l)=true
 | []=>rfl
 |k::r=>by simp[fD,gS,D6 k,vf r]
end
theorem jo(p:bG):(aL p).cells.length=7:=by cases p;rfl
theorem NA{l:List aN}(h:jY l=0):l.length≤32:=by
 grind [xX]
theorem Hz{l:List cA}(h:ie l=0):l.length≤8:=(kg h).1
theorem vq{H:Heap}{i:Nat}{x:Option Blk}(h:H i=x):upd H i x=H:=by
 grind [ah,ag]
theorem lO{tb:TypeId}{h:Heap}{sz id i:Nat}{y:AV}{xs cs:List AV}{t:TypeId}(hw:Ow tb h sz id y xs)(hi:h i=some (.obj cs t))(ht:t≠tb):id≠i:=by
 obtain⟨cap,rest,rfl,h1,_⟩:=hw
 grind
theorem ld{sz:Nat}{xs:List AV}(hs:Sized sz xs)(j:Nat)(hj:j<xs.length)(o:Nat)(c:List AV)(ho:o+c.length≤sz){rest:List AV}:
  (au xs++rest).take (j*sz+o)++c++(au xs++rest).drop (j*sz+o+c.length)=au (xs.set j (.agg (Ab.over xs[j].cells o c)))++rest:=by
 have hl:=aX hs;have hb:(j+1)*sz≤xs.length*sz:=Nat.mul_le_mul_right _ acu;rw[Nat.add_mul,Nat.one_mul]at hb;have:=L1 (us:=au xs) (vs:=rest) (o:=j*sz+o) (c:=c) acu;rw[Ab.over]at this;rw[this,IQ hs j hj o c ho]
theorem qU{α:Type}{xs:List α}{i:Nat}{x:α}(h:xs[i]? =some x):xs.set i x=xs:=by
 obtain⟨hi,rfl⟩:=List.getElem?_eq_some_iff.1 h;simp
theorem ny(id:Txt)(set:Bool)(alg:Int)(tgt:fW)(rules:List cK)(kids:List bG)(obls:List cA):aL (.mk id set alg tgt rules kids obls)= .agg [.s id,.b set,.i alg,aU tgt,.sl (rules.map aB) .no,.sl (kids.map aL) .no,az obls]:=by simp[aL,aW]
theorem tK:∀(p:bG) (d:Nat),mI d p→∀h,ai Tryz.prog 178 [aL p] h fun r h' =>r=aL p∧h' =h
 |.mk pid pset palg ptgt prules pkids pobls,d,hp,h=>by
  obtain⟨_,_,_,_,_,_,ht,ho,hr16,hk16,hre,hke⟩:=hp;rw[qD]at hke;have ih:∀(j:Nat) (hj:j<pkids.length) (h:Heap),ai Tryz.prog 178 [aL pkids[j]] h fun r h' =>r=aL pkids[j]∧h' =h:=fun j hj h=>tK pkids[j] (d+1) (hke _ (aco hj)) h
  have hob:=Hz ho;refine ai.freeze fun g hg _=>?_
  rw[ny];refine acs Tryz.func178 72 [.cell 2 65] fun hwf=>?_
  simp only[go_sem];intro i1 h1;simp only[go_sem];intro i2 h2;have n21:=aF h2;have n2:=aA h2;simp only[go_sem];obtain⟨H,eH⟩:∃H,upd (upd g i1 (some (.obj [.s pid,.b pset,.i palg,aU ptgt,.sl (prules.map aB) .no,.sl (pkids.map aL) .no,az pobls] 65))) i2 (some (.obj [.s [],.b false,.i 0,.sl [] .full,.sl [] .full,.sl [] .full,.sl [] .full] 65))=H:=⟨_,rfl⟩;have hH:Ab.Sub g H:=by rw[←eH];exact((Sub.refl g).put h1 _).put n2 _
  have g1:H i1=some (.obj [.s pid,.b pset,.i palg,aU ptgt,.sl (prules.map aB) .no,.sl (pkids.map aL) .no,az pobls] 65):=ad6;have g2:H i2=some (.obj [.s [],.b false,.i 0,.sl [] .full,.sl [] .full,.sl [] .full,.sl [] .full] 65):=adX;rw[eH];refine .stage (hm1 i1 _) [0,1,3,4,2,6,5] [7,8,9] (.hm1 g1) acw ?_;simp only[go_sem,fY];refine(tL ptgt ht H).pthen ?_;refine⟨.hm1 g1,?_⟩;simp only[go_sem];refine(Aq _ (pobls.map br) H (eP br 3 (fun _=>rfl) _ _) adb (bt (fun _=>rfl) _)).pthen ?_
  refine⟨.hm1 g1,cL,(fun _ _ e=>acV),?_⟩
  have cT:(aU ptgt).cells= [aU ptgt]:=rfl;simp only[go_sem,g1,show fit (aU ptgt) 1=(1=1)from rfl,cT]
  have eo:(.sl (pobls.map br) .no:AV)=az pobls:=rfl;rw[eo];refine⟨fun _ _ e=>acV,fun _ _ e=>acV,?_⟩
  rw[vq g1];refine .stage (hm1 i1 _) [0,1,3,4,2,6,5] [7,8,9] (.hm1 g1) acw ?_;simp only[go_sem,fY];refine(Iw _ (prules.map aB) H (eP aB 5 (fun _=>rfl) _ _) adb).mono fun y4 H1 ⟨w4,s1⟩=>?_
  refine⟨.hm1 (s1 _ _ g1),?_⟩;simp only[go_sem];refine(CN _ (pkids.map aL) H1 (eP aL 7 jo _ _) adb).mono fun y5 H2 ⟨w5,s2⟩=>?_
  have g1' :=s2 _ _ (s1 _ _ g1);have g2' :=s2 _ _ (s1 _ _ g2);refine⟨.hm1 g1',cL,(fun _ _ e=>acV),?_⟩
  simp only[go_sem,g1',w4.rd.fit,w4.rd.cells,w5.rd.fit,w5.rd.cells];refine⟨fun _ _ e=>acV,fun _ _ e=>acV,?_⟩
  have hn4:∀id,nid y4=some id→id≠i2:=fun id e=>cD (w4.nid e).1 g2
  have hn5:∀id,nid y5=some id→id≠i2:=fun id e=>cD (w5.nid e).1 (s1 _ _ g2)
  have hnd:∀i,nid y4=some i→nid y5≠some i:=fun i e4 e5=>(w4.nid e4).2.1 (w5.nid e5).1
  have v4:∀b,OwE 224 g (upd H2 i1 b) 5 y4 (prules.map aB):=fun b=>((w4.sub s2).less hH).keep fun id e=>ag _ _ (cD (w4.nid e).1 g1)
  have v5:∀b,OwE 65 g (upd H2 i1 b) 7 y5 (pkids.map aL):=fun b=>(w5.less (hH.trans s1)).keep fun id e=>ag _ _ (cD (s1.none (w5.nid e).1) g1)
  have vs:∀b,Ab.Sub g (upd H2 i1 b):=fun b=>(hH.trans (s1.trans s2)).put h1 b
  have vz:∀b,upd H2 i1 b i2=some (.obj [.s [],.b false,.i 0,.sl [] .full,.sl [] .full,.sl [] .full,.sl [] .full] 65):=fun b=>by rw[ag _ _ n21];exact g2'
  obtain⟨H3,eH3⟩:∃H3,upd H2 i1 (some (.obj [.s pid,.b pset,.i palg,aU ptgt,y4,y5,az pobls] 65))=H3:=⟨_,rfl⟩;have q1:H3 i1=some (.obj [.s pid,.b pset,.i palg,aU ptgt,y4,y5,az pobls] 65):=by rw[←eH3,ah]
  replace v4:=v4 (some (.obj [.s pid,.b pset,.i palg,aU ptgt,y4,y5,az pobls] 65));replace v5:=v5 (some (.obj [.s pid,.b pset,.i palg,aU ptgt,y4,y5,az pobls] 65));replace vs:=vs (some (.obj [.s pid,.b pset,.i palg,aU ptgt,y4,y5,az pobls] 65));replace vz:=vz (some (.obj [.s pid,.b pset,.i palg,aU ptgt,y4,y5,az pobls] 65));rw[eH3]at v4 v5 vs vz;rw[eH3];clear eH3;have hi1:∀id,g id=none→∀ {K:Heap} {b:Blk},K id=some b→K id≠none:=fun id _ K b e=>by rw[e];simp
  simp only[go_sem,v4.rd.len,aci];refine .intro (fun m ρ G=>∃i:Nat,G i1=some (.obj [.s pid,.b pset,.i palg,aU ptgt,y4,y5,az pobls] 65)∧G i2=some (.obj [.s [],.b false,.i 0,.sl [] .full,.sl [] .full,.sl [] .full,.sl [] .full] 65)∧Ab.Sub g G∧OwE 224 g G 5 y4 (prules.map aB)∧OwE 65 g G 7 y5 (pkids.map aL)∧i≤prules.length∧m=prules.length - i∧
   lk ρ 1=some (.ptr i1 0)∧lk ρ 2=some (.ptr i2 0)∧lk ρ 24=some y4∧lk ρ 25=some (.i prules.length)∧lk ρ 26=some (.i i)) prules.length ?_ ?_
  ·refine⟨0,q1,vz,vs,v4,v5,acu,rfl,?_,?_,?_,?_,?_⟩<;>simp only[go_sem]
  ·rintro m ρ G ⟨i,q1,vz,vs,v4,v5,hi,rfl,r1,r2,r24,r25,r26⟩
   simp only[go_sem,r25,r26];refine .intro (fun e=>?_) (fun e=>?_)
   ·have hlt:i<prules.length:=acq e
    have w1:=acp i acu;obtain⟨_,rt,rc,ro⟩:=hre _ (aco hlt);have hrc:=NA rc;have hro:=Hz ro;simp only[go_sem,r24,r26];refine v4.rd.idx (e:=224) i rfl acU acF acz fun p hp1=>?_
    have hld:=hp1.all (U:=U) (ty:=224) acF ada ada;simp only[go_sem,hld,acj,aB];intro i4 h4;have n41:i4≠i1:=cD h4 q1;simp only[go_sem];obtain⟨G4,eG4⟩:∃G4,upd G i4 (some (.obj [.s prules[i].id,.b prules[i].deny,aU prules[i].tgt,fm prules[i].cond,az prules[i].obls] 224))=G4:=⟨_,rfl⟩;rw[eG4];have p1:G4 i1=some (.obj [.s pid,.b pset,.i palg,aU ptgt,y4,y5,az pobls] 65):=afb;have p4:G4 i4=some (.obj [.s prules[i].id,.b prules[i].deny,aU prules[i].tgt,fm prules[i].cond,az prules[i].obls] 224):=by rw[←eG4,ah]
    have sG:Ab.Sub G G4:=afQ;refine .calls (hm2 i1 (.obj [.s pid,.b pset,.i palg,aU ptgt,y4,y5,az pobls] 65) i4 (.obj [.s prules[i].id,.b prules[i].deny,aU prules[i].tgt,fm prules[i].cond,az prules[i].obls] 224)) [0,1,2,3,4,5,6,7,8,9,10,12,13,15,16,11,14,17,18,19,20,21,22,23,24,25,26] (.hm2 p1 p4) acw rfl ?_;simp only[go_sem,r1,ry _ _ n41.symm,rz];refine(tL prules[i].tgt rt G4).pthen ?_;refine⟨.hm2 p1 p4,?_⟩;simp only[go_sem];refine(E4 _ (prules[i].cond.map dz) G4 (eP dz 7 (fun _=>rfl) _ _) adb (bt (fun _=>rfl) _)).pthen ?_
    refine⟨.hm2 p1 p4,?_⟩;simp only[go_sem];refine(Aq _ (prules[i].obls.map br) G4 (eP br 3 (fun _=>rfl) _ _) adb (bt (fun _=>rfl) _)).pthen ?_
    refine⟨.hm2 p1 p4,?_⟩;simp only[go_sem];obtain⟨id4,hg4,o4⟩:=(v4.sub sG).ow aeF;have m1:id4≠i1:=lO o4 p1 acz;have m4:id4≠i4:=fun e=>(v4.nid o4.nid).2.1 (by rw[e];exact h4)
    refine o4.idx (U:=U) (e:=224) i rfl acU acF acz ?_;simp only[go_sem];have o4' :=o4;obtain⟨cap,rest,ey,hid,hr,hc,hsz⟩:=o4';have hbd:i*5+5≤(au (prules.map aB)++rest).length:=by
     rw[acn,aX hsz,aci];omega
    have e2:List.take (i*5+2) (au (prules.map aB)++rest)++(aU prules[i].tgt).cells++List.drop (i*5+2+(aU prules[i].tgt).cells.length) (au (prules.map aB)++rest)=au (prules.map aB)++rest:=by
     refine(ld hsz i acU 2 ((aU prules[i].tgt).cells) (ach rfl)).trans ?_;exact ah7
    have e3:List.take (i*5+3) (au (prules.map aB)++rest)++ [.sl (prules[i].cond.map dz) .no]++List.drop (i*5+3+1) (au (prules.map aB)++rest)=au (prules.map aB)++rest:=by
     refine(ld hsz i acU 3 ([.sl (prules[i].cond.map dz) .no]) (ach rfl)).trans ?_;exact ah7
    have e4:List.take (i*5+4) (au (prules.map aB)++rest)++ [.sl (prules[i].obls.map br) .no]++List.drop (i*5+4+1) (au (prules.map aB)++rest)=au (prules.map aB)++rest:=by
     refine(ld hsz i acU 4 ([.sl (prules[i].obls.map br) .no]) (ach rfl)).trans ?_;exact ah7
    simp only[go_sem,hid];rw[e2,vq hid];refine⟨rfl,acu,.hm2 p1 p4,?_⟩;refine o4.idx (U:=U) (e:=224) i rfl acU acF acz ?_;simp only[go_sem,hid];rw[e3,vq hid];refine⟨acu,.hm2 p1 p4,?_⟩;refine o4.idx (U:=U) (e:=224) i rfl acU acF acz ?_;simp only[go_sem,hid];rw[e4,vq hid];refine⟨acu,.hm2 p1 p4,?_⟩;simp only[go_sem,r26,w1];refine⟨_,?_,i+1,p1,sG _ _ vz,vs.trans sG,v4.sub sG,v5.sub sG,acu,rfl,?_,?_,?_,?_,?_⟩
    ·omega
    all_goals simp only[go_sem,r1,r2,r24,r25]
   ·have hge:i=prules.length:=by have:=acm e;omega
    clear hge;simp only[go_sem,r1,q1,v5.rd.len,aci];refine .intro (fun m ρ G=>∃i:Nat,G i1=some (.obj [.s pid,.b pset,.i palg,aU ptgt,y4,y5,az pobls] 65)∧G i2=some (.obj [.s [],.b false,.i 0,.sl [] .full,.sl [] .full,.sl [] .full,.sl [] .full] 65)∧Ab.Sub g G∧OwE 224 g G 5 y4 (prules.map aB)∧OwE 65 g G 7 y5 (pkids.map aL)∧i≤pkids.length∧m=pkids.length - i∧
     lk ρ 1=some (.ptr i1 0)∧lk ρ 2=some (.ptr i2 0)∧lk ρ 57=some y5∧lk ρ 58=some (.i pkids.length)∧lk ρ 59=some (.i i)) pkids.length ?_ ?_
    ·refine⟨0,q1,vz,vs,v4,v5,acu,rfl,?_,?_,?_,?_,?_⟩<;>simp only[go_sem,r1,r2]
    ·clear r1 r2 r24 r25 r26 q1 vz vs v4 v5 e hi
     rintro m ρ G ⟨i,q1,vz,vs,v4,v5,hi,rfl,r1,r2,r57,r58,r59⟩
     simp only[go_sem,r58,r59];refine .intro (fun e=>?_) (fun e=>?_)
     ·have hlt:i<pkids.length:=acq e
      have w1:=acp i acu;have ihi:=ih i hlt;have hci:=jo pkids[i];cases hpk:pkids[i]with
      |mk kid kset kalg ktgt krules kkids kobls=>
      rw[hpk,ny]at ihi;simp only[go_sem,r57,r59];refine v5.rd.idx (e:=65) i rfl acU acF acz fun p hp1=>?_
      have hld:=hp1.all (U:=U) (ty:=65) acF (by simp only[go_sem];rw[acj];exact hci) (by simp only[go_sem];rw[acj,hpk,ny];rfl)
      simp only[go_sem,hld,acj,hpk,ny];intro i4 h4;have n41:i4≠i1:=cD h4 q1;simp only[go_sem];obtain⟨G4,eG4⟩:∃G4,upd G i4 (some (.obj [.s kid,.b kset,.i kalg,aU ktgt,.sl (krules.map aB) .no,.sl (kkids.map aL) .no,az kobls] 65))=G4:=⟨_,rfl⟩;rw[eG4];have p1:G4 i1=some (.obj [.s pid,.b pset,.i palg,aU ptgt,y4,y5,az pobls] 65):=afb;have p4:G4 i4=some (.obj [.s kid,.b kset,.i kalg,aU ktgt,.sl (krules.map aB) .no,.sl (kkids.map aL) .no,az kobls] 65):=by rw[←eG4,ah]
      have sG:Ab.Sub G G4:=afQ;refine .calls (hm2 i1 (.obj [.s pid,.b pset,.i palg,aU ptgt,y4,y5,az pobls] 65) i4 (.obj [.s kid,.b kset,.i kalg,aU ktgt,.sl (krules.map aB) .no,.sl (kkids.map aL) .no,az kobls] 65)) [0,1,2,3,4,5,6] (.hm2 p1 p4) acw rfl ?_;simp only[go_sem,r1,ry _ _ n41.symm,rz];refine(ihi G4).pthen ?_;refine⟨.hm2 p1 p4,?_⟩;simp only[go_sem];obtain⟨id4,hg4,o4⟩:=(v5.sub sG).ow aeF;have o4' :=o4;obtain⟨cap,rest,ey,hid,hr,hc,hsz⟩:=o4';have hbd:i*7+7≤(au (pkids.map aL)++rest).length:=by
       rw[acn,aX hsz,aci];omega
      have e2:List.take (i*7) (au (pkids.map aL)++rest)++ [.s kid,.b kset,.i kalg,aU ktgt,.sl (krules.map aB) .no,.sl (kkids.map aL) .no,az kobls]++List.drop (i*7+7) (au (pkids.map aL)++rest)=au (pkids.map aL)++rest:=by
       refine(ld hsz i acU 0 [.s kid,.b kset,.i kalg,aU ktgt,.sl (krules.map aB) .no,.sl (kkids.map aL) .no,az kobls] (ach rfl)).trans ?_;rw[qU];rw[List.getElem?_eq_getElem acU,acj,hpk,ny];rfl
      refine o4.idx (U:=U) (e:=65) i rfl acU acF acz ?_;simp only[go_sem,hid];rw[e2,vq hid];refine⟨acu,.hm2 p1 p4,?_⟩;simp only[go_sem,r59,w1];refine⟨_,?_,i+1,p1,sG _ _ vz,vs.trans sG,v4.sub sG,v5.sub sG,acu,rfl,?_,?_,?_,?_,?_⟩
      ·omega
      all_goals simp only[go_sem,r1,r2,r57,r58]
     ·simp only[go_sem,r1,r2,q1,vz]
      refine .mk _ (.refl _) (.refl _) ⟨vs.put n2 _,aL (.mk pid pset palg ptgt prules pkids pobls),?_,ny ..⟩;rw[ny];have z4:∀b,Frz g (upd G i2 b) y4 (.sl (prules.map aB) .no):=fun b=>(v4.keep fun id e=>ag _ _ (hn4 id e)).frz (bt A3 prules)
      have z5:∀b,Frz g (upd G i2 b) y5 (.sl (pkids.map aL) .no):=fun b=>(v5.keep fun id e=>ag _ _ (hn5 id e)).frz (by rw[←aW];exact vf pkids)
      refine .agg _ _ rfl fun k k1 k2=>?_
      rcases k with _|_|_|_|_|_|_|k
      ·exact acP
      ·exact acP
      ·exact acP
      ·exact .pure (yY _)
      ·exact z4 _
      ·exact z5 _
      ·exact .pure (vg _)
      ·simp at k1;omega
termination_by p=>SizeOf.sizeOf p
decreasing_by
 have:=List.sizeOf_lt_of_mem (aco hj);simp only[bG.mk.sizeOf_spec];omega
end Go.Proofs.YtcochaoekecfdaaGreatDoor
namespace Go.Ab
open Go
def apart(a b:AV):Prop:=∀i,nid a=some i→nid b≠some i
theorem apart.symm{a b:AV}(h:apart a b):apart b a:=fun i e1 e2=>h i e2 e1
theorem dS{a y:AV}{tb:TypeId}{g h:Heap}{sz:Nat}{xs:List AV}(hw:OwE tb g h sz y xs)(ha:∀i,nid a=some i→g i≠none):apart a y:=fun i e1 e2=>ha i e1 (hw.nid e2).1
theorem OwE.there{tb:TypeId}{h0 h h' :Heap}{sz:Nat}{y:AV}{xs:List AV}(hw:OwE tb h0 h sz y xs)(hs:∀i,h i≠Option.none→h' i≠Option.none):∀i,Ab.nid y=some i→h' i≠Option.none:=fun i e=>hs i (hw.nid e).2.1
theorem Sub.some{h h' :Heap}(hs:Sub h h'):∀i,h i≠Option.none→h' i≠Option.none:=fun i e e' =>e (hs.none e')
end Go.Ab
namespace Go.Proofs.YtcochaoekecfdaaGreatDoor
open Go Go.Ab Go.Bf
def fk(h0 h:Heap)(ys:List AV)(x:AV)(c:aK):Prop:=∃f l,x= .agg [.s c.id,.s c.owner,.s c.state,f,l]∧OwE 215 h0 h 4 f (c.fields.map bL)∧OwE 205 h0 h 3 l (c.log.map iH)∧apart f l∧∀y∈ys,apart f y∧apart l y
def lQ(h0 h:Heap)(ys:List AV)(y1:AV)(cs:List aK)(i0:Nat):Prop:=∃xs,OwE 134 h0 h 5 y1 xs∧xs.length=cs.length∧(∀j (h1:j<xs.length) (h2:j<cs.length),j≠i0→xs[j]=cp cs[j])∧∀(h1:i0<xs.length) (h2:i0<cs.length),fk h0 h ys xs[i0] cs[i0]
def sO(h0 h:Heap)(x:AV)(s:an)(i0:Nat):Prop:=∃y1 y2 y3 y4,x= .agg ([.i s.tick,y1,y2,y3,y4]++fT s.policy++ [.i s.version])∧lQ h0 h [y1,y2,y3,y4] y1 s.cases i0∧
 OwE 143 h0 h 7 y2 (s.reviews.map iL)∧OwE 146 h0 h 3 y3 (s.notices.map mS)∧OwE 149 h0 h 2 y4 (s.roles.map eD)∧apart y1 y2∧apart y1 y3∧apart y1 y4∧apart y2 y3∧apart y2 y4∧apart y3 y4
theorem Jx{cs L:List AV}(h:L.length=cs.length):Ab.over cs 0 L=L:=by
 simp_all [Ab.over,List.take_zero,List.nil_append,Nat.zero_add,List.drop_of_length_le,List.append_nil]
theorem DU{h:Heap}{x:AV}{c:aK}(i i0:Nat)(hb:RdC h x c)(hl:c.fields.length≤1000000)(hl2:c.log.length≤1000000):ai Tryz.prog 139 [x] h fun r h' =>
  ∃f l,r= .agg [.s c.id,.s c.owner,.s c.state,f,l]∧Ab.Sub h h'∧f.cells= [f]∧l.cells= [l]∧(i≠i0→f=gq c.fields∧l=su c.log)∧(i=i0→OwE 215 h h' 4 f (c.fields.map bL)∧OwE 205 h h' 3 l (c.log.map iH)∧apart f l):=by
 by_cases e:i=i0
 ·exact(yP hb hl hl2).mono fun r h' ⟨⟨f,l,e1,a,b,c⟩,d⟩=>⟨f,l,e1,d,a.rd.cells,b.rd.cells,fun hh=>(hh e).elim,fun _=>⟨a,b,c⟩⟩
 ·exact(wC hb hl hl2).mono fun r h' ⟨e1,e2⟩=>⟨_,_,e1,by rw[e2];exact .refl _,rfl,rfl,fun _=>⟨rfl,rfl⟩,fun hh=>(e hh).elim⟩
theorem fk.sub{h0 h h' :Heap}{ys:List AV}{x:AV}{c:aK}(hm:fk h0 h ys x c)(hs:Ab.Sub h h'):fk h0 h' ys x c:=by
 obtain⟨f,l,e,a,b,c,d⟩:=hm;exact⟨f,l,e,a.sub hs,b.sub hs,c,d⟩
theorem fk.keep{h0 h h' :Heap}{ys:List AV}{x:AV}{c:aK}(hm:fk h0 h ys x c)(hs:∀f l,x= .agg [.s c.id,.s c.owner,.s c.state,f,l]→(∀y∈ys,apart f y∧apart l y)→∀i,(nid f=some i∨nid l=some i)→h' i=h i):fk h0 h' ys x c:=by
 obtain⟨f,l,e,a,b,c,d⟩:=hm;exact⟨f,l,e,a.keep fun i hi=>hs f l e d i (.inl hi),b.keep fun i hi=>hs f l e d i (.inr hi),c,d⟩
theorem RE{h:Heap}{x:AV}{s:an}(hb:RdS h x s)(i0:Nat)(hf:Few s)(hp:mI 1 s.policy):ai Tryz.prog 133 [x] h fun r h' =>sO h h' r s i0∧Ab.Sub h h' :=by
 obtain⟨y1,y2,y3,y4,rfl,⟨xs0,hc,hn,hcs⟩,h2,h3,h4⟩:=hb;have hpo:=tK s.policy 1 hp;cases hpp:s.policy with
 |mk pid pset palg ptgt prules pkids pobls=>
 rw[hpp,ny]at hpo;have hcC:fT (.mk pid pset palg ptgt prules pkids pobls)= [.s pid,.b pset,.i palg,aU ptgt,.sl (prules.map aB) .no,.sl (pkids.map aL) .no,az pobls]:=afC;have hfc:=hf.cases;refine acs Tryz.func133 41 [.cell 2 67] fun hwf=>?_
 simp only[go_sem,hcC,List.cons_append,List.nil_append];intro i1 h1;simp only[go_sem];intro i2 h2';have n21:=aF h2';have n2:=aA h2';simp only[go_sem,ak,n21.symm];obtain⟨H,eH⟩:∃H,upd (upd h i1 (some (.obj [.i s.tick,y1,y2,y3,y4,.s pid,.b pset,.i palg,aU ptgt,.sl (prules.map aB) .no,.sl (pkids.map aL) .no,az pobls,.i s.version] 67))) i2 (some (.obj [.i 0,.sl [] .full,.sl [] .full,.sl [] .full,.sl [] .full,.s [],.b false,.i 0,.sl [] .full,.sl [] .full,.sl [] .full,.sl [] .full,.i 0] 67))=H:=⟨_,rfl⟩;have hH:Ab.Sub h H:=adv;have g1:H i1=some (.obj [.i s.tick,y1,y2,y3,y4,.s pid,.b pset,.i palg,aU ptgt,.sl (prules.map aB) .no,.sl (pkids.map aL) .no,az pobls,.i s.version] 67):=ad6;have g2:H i2=some (.obj [.i 0,.sl [] .full,.sl [] .full,.sl [] .full,.sl [] .full,.s [],.b false,.i 0,.sl [] .full,.sl [] .full,.sl [] .full,.sl [] .full,.i 0] 67):=adX;rw[eH];clear eH;refine(Ao y1 xs0 H (hc.sub hH) acu).mono fun z1 H1 ⟨w1,s1⟩=>?_
 simp only[go_sem,s1 _ _ g1,w1.rd.fit,w1.rd.cells];have v1:∀b,OwE 134 h (upd H1 i1 b) 5 z1 xs0:=fun b=>(w1.less hH).keep fun id e=>ag _ _ (cD (w1.nid e).1 g1)
 have vs:∀b,Ab.Sub h (upd H1 i1 b):=fun b=>(hH.trans s1).put h1 b
 have vz:∀b,upd H1 i1 b i2=some (.obj [.i 0,.sl [] .full,.sl [] .full,.sl [] .full,.sl [] .full,.s [],.b false,.i 0,.sl [] .full,.sl [] .full,.sl [] .full,.sl [] .full,.i 0] 67):=fun b=>by rw[ag _ _ n21];exact s1 _ _ g2
 have hz1:∀id,nid z1=some id→id≠i1:=fun id e=>cD (w1.nid e).1 g1
 have hz2:∀id,nid z1=some id→id≠i2:=fun id e=>cD (w1.nid e).1 g2
 obtain⟨H2,eH2⟩:∃H2,upd H1 i1 (some (.obj [.i s.tick,z1,y2,y3,y4,.s pid,.b pset,.i palg,aU ptgt,.sl (prules.map aB) .no,.sl (pkids.map aL) .no,az pobls,.i s.version] 67))=H2:=⟨_,rfl⟩;replace v1:=v1 (some (.obj [.i s.tick,z1,y2,y3,y4,.s pid,.b pset,.i palg,aU ptgt,.sl (prules.map aB) .no,.sl (pkids.map aL) .no,az pobls,.i s.version] 67));replace vs:=vs (some (.obj [.i s.tick,z1,y2,y3,y4,.s pid,.b pset,.i palg,aU ptgt,.sl (prules.map aB) .no,.sl (pkids.map aL) .no,az pobls,.i s.version] 67));replace vz:=vz (some (.obj [.i s.tick,z1,y2,y3,y4,.s pid,.b pset,.i palg,aU ptgt,.sl (prules.map aB) .no,.sl (pkids.map aL) .no,az pobls,.i s.version] 67));have q1:H2 i1=some (.obj [.i s.tick,z1,y2,y3,y4,.s pid,.b pset,.i palg,aU ptgt,.sl (prules.map aB) .no,.sl (pkids.map aL) .no,az pobls,.i s.version] 67):=by rw[←eH2,ah]
 rw[eH2]at v1 vs vz;rw[eH2];clear eH2;simp only[go_sem,v1.rd.len,hn];refine .intro (fun m ρ G=>∃(i:Nat) (xs:List AV),G i1=some (.obj [.i s.tick,z1,y2,y3,y4,.s pid,.b pset,.i palg,aU ptgt,.sl (prules.map aB) .no,.sl (pkids.map aL) .no,az pobls,.i s.version] 67)∧G i2=some (.obj [.i 0,.sl [] .full,.sl [] .full,.sl [] .full,.sl [] .full,.s [],.b false,.i 0,.sl [] .full,.sl [] .full,.sl [] .full,.sl [] .full,.i 0] 67)∧Ab.Sub h G∧OwE 134 h G 5 z1 xs∧xs.length=s.cases.length∧(∀j (h1:j<xs.length) (h2:j<s.cases.length),j<i→j≠i0→xs[j]=cp s.cases[j])∧(∀(h1:i0<xs.length) (h2:i0<s.cases.length),i0<i→fk h G [z1] xs[i0] s.cases[i0])∧(∀j (h1:j<xs.length) (h2:j<s.cases.length),i≤j→RdC h xs[j] s.cases[j])∧i≤s.cases.length∧m=s.cases.length - i∧
  lk ρ 1=some (.ptr i1 0)∧lk ρ 2=some (.ptr i2 0)∧lk ρ 10=some z1∧lk ρ 11=some (.i s.cases.length)∧lk ρ 12=some (.i i)) s.cases.length ?_ ?_
 ·refine⟨0,xs0,q1,vz,vs,v1,hn,fun j _ _ hj=>acu,fun _ _ hj=>acu,fun j a b _=>hcs j a b,acu,rfl,?_,?_,?_,?_,?_⟩<;>simp only[go_sem]
 ·rintro m ρ G ⟨i,xs,q1,vz,vs,v1,hn,hlo,hmy,hhi,hi,rfl,r1,r2,r10,r11,r12⟩
  simp only[go_sem,r11,r12];refine .intro (fun e=>?_) (fun e=>?_)
  ·have hlt:i<s.cases.length:=acq e
   have hltx:i<xs.length:=acu;have w1:=acp i acu;obtain⟨f,l,ex,hfl,hlg⟩:=hhi i hltx hlt (Nat.le_refl _);have hff:=hf.fields _ (aco hlt);have hfg:=hf.log _ (aco hlt);simp only[go_sem,r10,r12];refine v1.rd.idx (e:=134) i rfl hltx nE acz fun p hp1=>?_
   have hld:=hp1.all (U:=U) (ty:=134) acF (by rw[nE,ex];rfl) (by simp only[go_sem];rw[ex];rfl)
   simp only[go_sem,hld,ex];intro i4 h4;have n41:i4≠i1:=cD h4 q1;simp only[go_sem];obtain⟨G4,eG4⟩:∃G4,upd G i4 (some (.obj [.s s.cases[i].id,.s s.cases[i].owner,.s s.cases[i].state,f,l] 134))=G4:=⟨_,rfl⟩;rw[eG4];have p1:G4 i1=some (.obj [.i s.tick,z1,y2,y3,y4,.s pid,.b pset,.i palg,aU ptgt,.sl (prules.map aB) .no,.sl (pkids.map aL) .no,az pobls,.i s.version] 67):=afb;have p4:G4 i4=some (.obj [.s s.cases[i].id,.s s.cases[i].owner,.s s.cases[i].state,f,l] 134):=by rw[←eG4,ah]
   have sG:Ab.Sub G G4:=afQ;refine .calls (hm2 i1 (.obj [.i s.tick,z1,y2,y3,y4,.s pid,.b pset,.i palg,aU ptgt,.sl (prules.map aB) .no,.sl (pkids.map aL) .no,az pobls,.i s.version] 67) i4 (.obj [.s s.cases[i].id,.s s.cases[i].owner,.s s.cases[i].state,f,l] 134)) [0,1,2,3,4,5,6] (.hm2 p1 p4) acw rfl ?_;simp only[go_sem,r1,ry _ _ n41.symm,rz];refine(DU i i0 (show RdC G4 (.agg [.s s.cases[i].id,.s s.cases[i].owner,.s s.cases[i].state,f,l]) s.cases[i]from⟨f,l,rfl,hfl.sub (vs.trans sG),hlg.sub (vs.trans sG)⟩) hff hfg).mono fun r G5 ⟨f',l',er,s5,cf,cl,hne,heq⟩=>?_
   subst er;have p1' :=s5 _ _ p1;have p4' :=s5 _ _ p4;refine⟨.hm2 p1' p4',?_⟩;simp only[go_sem];obtain⟨id1,hg1,o1⟩:=((v1.sub sG).sub s5).ow (by intro e;rw[e]at hltx;cases hltx)
   have t1:id1≠i1:=lO o1 p1' acz;have t2:id1≠i2:=hz2 id1 o1.nid;have t3:G4 id1≠none:=fun e=>(v1.nid o1.nid).2.1 (sG.none e)
   have o1' :=o1;obtain⟨cap,rest,ey,hid,hr,hcap,hsz⟩:=o1';have hbd:i*5+5≤(au xs++rest).length:=by
    rw[acn,aX hsz];omega
   have hx5:xs[i].cells.length=5:=hsz _ (aco hltx);have e2:List.take (i*5) (au xs++rest)++ [.s s.cases[i].id,.s s.cases[i].owner,.s s.cases[i].state,f',l']++List.drop (i*5+5) (au xs++rest)=au (xs.set i (.agg [.s s.cases[i].id,.s s.cases[i].owner,.s s.cases[i].state,f',l']))++rest:=by
    refine(ld hsz i hltx 0 [.s s.cases[i].id,.s s.cases[i].owner,.s s.cases[i].state,f',l'] (ach rfl)).trans ?_;rw[Jx (by rw[hx5];rfl)]
   refine o1.idx (U:=U) (e:=134) i rfl hltx nE acz ?_;simp only[go_sem,hid];rw[e2];have t4:id1≠i4:=fun e=>(v1.nid o1.nid).2.1 (by rw[e];exact h4)
   refine⟨acu,.hm2 (by rw[ag _ _ t1.symm];exact p1') (by rw[ag _ _ t4.symm];exact p4'),?_⟩
   simp only[go_sem,r12,w1];have ho:∀b k,k≠id1→upd G5 id1 b k=G5 k:=fun b k hk=>ag _ _ hk
   have hs6:∀b,Ab.Sub h (upd G5 id1 b):=fun b=>((vs.trans sG).trans s5).put hg1 b
   refine⟨_,?_,i+1,xs.set i (.agg [.s s.cases[i].id,.s s.cases[i].owner,.s s.cases[i].state,f',l']),(ho _ _ t1.symm).trans p1',(ho _ _ t2.symm).trans (s5 _ _ (sG _ _ vz)),hs6 _,.inr ⟨id1,hg1,cap,rest,aeN,ah ..,by rw[List.length_set];exact hr,aeG,?_⟩,by rw[List.length_set];exact hn,fun j a b hj hj0=>?_,fun a b hj=>?_,fun j a b hj=>?_,acu,rfl,?_,?_,?_,?_,?_⟩
   ·omega
   ·intro z hz
    exact aho
   ·have a' :j<xs.length:=by rw[List.length_set]at a;exact a
    by_cases hji:j=i
    ·subst hji
     obtain⟨ef,el⟩:=hne hj0;rw[List.getElem_set_self,ef,el];rfl
    ·rw[List.getElem_set_ne (Ne.symm hji)]
     exact hlo j a' b acu hj0
   ·have a' :i0<xs.length:=by rw[List.length_set]at a;exact a
    by_cases hji:i=i0
    ·subst hji
     obtain⟨of,ol,hap⟩:=heq rfl;have kf:∀k,G4 k=none→upd G5 id1 (some (.obj (au (xs.set i (.agg [.s s.cases[i].id,.s s.cases[i].owner,.s s.cases[i].state,f',l']))++rest) 134)) k=G5 k:=fun k hk=>ag _ _ fun e=>t3 (by rw[←e];exact hk)
     rw[List.getElem_set_self];refine⟨f',l',rfl,(of.less (vs.trans sG)).keep fun k hk=>kf k (of.nid hk).1,(ol.less (vs.trans sG)).keep fun k hk=>kf k (ol.nid hk).1,hap,fun y hy=>?_⟩
     rw[List.mem_singleton.1 hy];have hz1:∀k,nid z1=some k→G4 k≠none:=(v1.sub sG).there fun k hk=>hk
     exact⟨(dS of hz1).symm,(dS ol hz1).symm⟩
    ·rw[List.getElem_set_ne hji]
     have hm:=hmy a' b acu;refine fk.keep (h:=G5) ((hm.sub sG).sub s5) fun f l ex hap k hk=>?_
     refine ag _ _ fun e=>?_
     subst e;rcases hk with hk|hk
     ·exact(hap z1 (List.mem_singleton.2 rfl)).1 _ hk o1.nid
     ·exact(hap z1 (List.mem_singleton.2 rfl)).2 _ hk o1.nid
   ·have a' :j<xs.length:=by rw[List.length_set]at a;exact a
    rw[List.getElem_set_ne acu];exact hhi j a' b acu
   all_goals simp only[go_sem,r1,r2,r10,r11]
  ·have hge:i=s.cases.length:=by have:=acm e;omega
   simp only[go_sem];refine .stage (hm1 i1 (.obj [.i s.tick,z1,y2,y3,y4,.s pid,.b pset,.i palg,aU ptgt,.sl (prules.map aB) .no,.sl (pkids.map aL) .no,az pobls,.i s.version] 67)) [0,1,3,4,6,7,2,9,5,8] [10,11,12,13,14] (.hm1 q1) acw ?_;simp only[go_sem,r1,fY];refine(vI y2 _ G (h2.sub vs) (by rw[aci];exact hf.reviews)).mono fun z2 G1 ⟨o2,s1⟩=>?_
   refine⟨.hm1 (s1 _ _ q1),?_⟩;simp only[go_sem,r1];refine(vH y3 _ G1 ((h3.sub vs).sub s1) (by rw[aci];exact hf.notices)).mono fun z3 G2 ⟨o3,s2⟩=>?_
   refine⟨.hm1 (s2 _ _ (s1 _ _ q1)),?_⟩;simp only[go_sem];refine(Iv y4 _ G2 (((h4.sub vs).sub s1).sub s2) (by rw[aci];exact hf.roles)).mono fun z4 G3 ⟨o4,s3⟩=>?_
   have s03:Ab.Sub G G3:=s1.trans (s2.trans s3);have q1' :=s03 _ _ q1;have q2' :=s03 _ _ vz;refine⟨.hm1 q1',cL,(fun _ _ e=>acV),?_⟩
   simp only[go_sem,r1,q1',o2.rd.fit,o2.rd.cells,o3.rd.fit,o3.rd.cells,o4.rd.fit,o4.rd.cells];refine⟨fun _ _ e=>acV,fun _ _ e=>acV,fun _ _ e=>acV,?_⟩
   refine(show ai Tryz.prog 178 [_] _ _ from hpo _).pthen ?_
   have vz' :∀b,upd G3 i1 b i2=some (.obj [.i 0,.sl [] .full,.sl [] .full,.sl [] .full,.sl [] .full,.s [],.b false,.i 0,.sl [] .full,.sl [] .full,.sl [] .full,.sl [] .full,.i 0] 67):=fun b=>by rw[ag _ _ n21];exact q2'
   simp only[go_sem,r1,r2,vz'];have k1:∀ {tb:TypeId} {z:AV} {xs:List AV} {n:Nat} {g:Heap},OwE tb g G3 n z xs→Ab.Sub h g→(∀id,nid z=some id→id≠i1∧id≠i2)→∀a b,OwE tb h (upd (upd G3 i1 a) i2 b) n z xs:=fun w hg hn a b=>(w.less hg).keep fun id e=>by
    rw[ag _ _ (hn id e).2,ag _ _ (hn id e).1]
   have new:∀ {tb:TypeId} {z:AV} {xs:List AV} {n:Nat} {g:Heap},OwE tb g G3 n z xs→Ab.Sub G g→∀id,nid z=some id→id≠i1∧id≠i2:=fun w hg id e=>⟨cD (w.nid e).1 (hg _ _ q1),cD (w.nid e).1 (hg _ _ vz)⟩
   have n2' :=new (o2.sub (s2.trans s3)) (.refl _);have n3' :=new (o3.sub s3) s1;have n4' :=new o4 (s1.trans s2);have n1' :∀id,nid z1=some id→id≠i1∧id≠i2:=fun id e=>⟨hz1 id e,hz2 id e⟩
   have aG:∀k,nid z1=some k→G k≠none:=v1.there fun k hk=>hk
   refine .mk _ (.refl _) (.refl _) ⟨⟨z1,z2,z3,z4,by rw[hpp,hcC];rfl,⟨xs,k1 (v1.sub s03) (.refl _) n1' _ _,hn,fun j a b hj=>hlo j a b acu hj,fun a b=>?_⟩,k1 (o2.sub (s2.trans s3)) vs n2' _ _,k1 (o3.sub s3) (vs.trans s1) n3' _ _,k1 o4 (vs.trans (s1.trans s2)) n4' _ _,?_,?_,?_,?_,?_,?_⟩,((vs.trans s03).put h1 _).put n2 _⟩
   ·have hm:=(hmy a b acu).sub s03
    obtain⟨f,l,ex,of,ol,hap,hy⟩:=hm;obtain⟨af,al⟩:=hy z1 (List.mem_singleton.2 rfl);have kf:∀k,nid f=some k→k≠i1∧k≠i2:=fun k hk=>⟨lO (of.nid hk).2.2 q1' acz,lO (of.nid hk).2.2 q2' acz⟩
    have kl:∀k,nid l=some k→k≠i1∧k≠i2:=fun k hk=>⟨lO (ol.nid hk).2.2 q1' acz,lO (ol.nid hk).2.2 q2' acz⟩
    obtain⟨f0,l0,ex0,of0,ol0,_⟩:=hmy a b acu;obtain⟨rfl,rfl⟩:f0=f∧l0=l:=by
     rw[ex0]at ex;simp only[AV.agg.injEq,List.cons.injEq,true_and,and_true]at ex;exact ex
    have gf:∀k,nid f0=some k→G k≠none:=of0.there fun k hk=>hk
    have gl:∀k,nid l0=some k→G k≠none:=ol0.there fun k hk=>hk
    refine⟨f0,l0,ex,k1 of (.refl _) kf _ _,k1 ol (.refl _) kl _ _,hap,fun y hy=>?_⟩
    simp only[List.mem_cons,List.not_mem_nil,or_false]at hy;rcases hy with rfl|rfl|rfl|rfl
    ·exact⟨af,al⟩
    ·exact⟨dS o2 gf,dS o2 gl⟩
    ·exact⟨dS o3 fun k hk=>s1.some k (gf k hk),dS o3 fun k hk=>s1.some k (gl k hk)⟩
    ·exact⟨dS o4 fun k hk=>(s1.trans s2).some k (gf k hk),dS o4 fun k hk=>(s1.trans s2).some k (gl k hk)⟩
   ·exact dS o2 aG
   ·exact dS o3 fun k hk=>s1.some k (aG k hk)
   ·exact dS o4 fun k hk=>(s1.trans s2).some k (aG k hk)
   ·exact dS o3 (o2.there fun k hk=>hk)
   ·exact dS o4 ((o2.sub s2).there fun k hk=>hk)
   ·exact dS o4 (o3.there fun k hk=>hk)
end Go.Proofs.YtcochaoekecfdaaGreatDoor
namespace Go.Ab
open Go
theorem oT{A B C X:List AV}{k m:Nat}(hk:k=A.length)(hm:m=X.length)(h:X.length=B.length):(A++(B++C)).take k++X++(A++(B++C)).drop (k+m)=A++(X++C):=by
 grind
theorem Hi{A B C X:List AV}{k1 k2 k3 k4:Nat}(h1:k1=A.length+X.length)(h2:k2=k1+B.length)(h3:k3=A.length)(h4:k4=k3+X.length)(hc:X.length≤C.length):
  List.take k3 (List.take k1 (A++(B++C))++B++List.drop k2 (A++(B++C)))++X++List.drop k4 (List.take k1 (A++(B++C))++B++List.drop k2 (A++(B++C)))=A++(X++(B++C.drop X.length)):=by
 subst h1;subst h2;subst h3;subst h4
 have e1:List.take (A.length+X.length) (A++(B++C))=A++List.take X.length (B++C):=acv;have e2:List.drop (A.length+X.length+B.length) (A++(B++C))=C.drop X.length:=by
  grind [Nat.add_assoc,List.drop_drop,List.drop_left,Nat.add_comm]
 rw[e1,e2,List.append_assoc A];have e3:(List.take X.length (B++C)).length=X.length:=by rw[List.length_take,acn];omega
 have e4:A++(List.take X.length (B++C)++B++List.drop X.length C)=A++(List.take X.length (B++C)++(B++C.drop X.length)):=acD;rw[List.append_assoc A,e4];exact oT rfl rfl e3.symm
theorem Hj{A Z R X B:List AV}{k1 k2 k3 k4:Nat}(h1:k1=A.length)(h2:k2=k1+X.length)(h3:k3=A.length+X.length)(h4:k4=k3+B.length)(hz:Z.length=X.length+B.length):
  List.take k3 (List.take k1 (A++Z++R)++X++List.drop k2 (A++Z++R))++B++List.drop k4 (List.take k1 (A++Z++R)++X++List.drop k2 (A++Z++R))=A++(X++(B++R)):=by
 subst h1;subst h2;subst h3;subst h4
 obtain⟨Z1,Z2,rfl,e1⟩:∃Z1 Z2,Z=Z1++Z2∧Z1.length=X.length:=⟨Z.take X.length,Z.drop X.length,(List.take_append_drop _ _).symm,acv⟩;have e2:Z2.length=B.length:=acv;have e3:A++(Z1++Z2)++R=A++(Z1++(Z2++R)):=acD;rw[e3,oT rfl rfl e1.symm,←List.append_assoc A X,oT acD rfl e2.symm,List.append_assoc]
end Go.Ab
namespace Go.Proofs.YtcochaoekecfdaaGreatDoor
open Go Go.Ab Go.Bf
theorem Jv{h:Heap}{v:AV}{id off len cap:Nat}{cs:List AV}{t:TypeId}(hv:v.cells.length=5)(hid:h id=some (.obj cs t))(hcs:cs≠ []):ai Tryz.prog 179 [.sl [v] .full,.ob id off len cap 5] h fun r h' =>r= .b false∧h' =h:=
 wB (U:=U) (tS:=55) (tR:=4) (e:=134) hU Tryz.func179 acK acK acK acw acK acz (by simp only[go_sem];omega) acD hid hcs
theorem FG(y:AV)(xs:List AV)(v:AV)(i:Nat)(h0 h:Heap)(hw:OwE 134 h0 h 5 y xs)(hs0:Ab.Sub h0 h)(hi:i≤xs.length)(hl:xs.length≤1000000)(hv:v.cells.length=5)(hva:fit v 5):
  ai Tryz.prog 135 [y,.i i,.sl [v] .full] h fun r h' =>OwE 134 h0 h' 5 r (xs.take i++([v]++xs.drop i))∧(∀k,h k≠none→nid y≠some k→h' k=h k)∧∀k,nid r=some k→h k=none∨nid y=some k:=by
 rcases hw with⟨rfl,rfl⟩|⟨id,hg,cap,rest,rfl,hid,hr,hc,hsz⟩
 ·obtain rfl:i=0:=by simpa using hi
  refine acs Tryz.func135 95 [.tmp 6] fun hwf=>?_
  simp -implicitDefEqProofs only[go_sem];refine⟨acu,acu,hv,.ob acF (j0.ow (xs:=[v]) aet afV rfl fun id y' h' hid hw ho=>?_)⟩
  have hw' :Ow 134 h' 5 id y' [v]:=afA;simp -implicitDefEqProofs only[go_sem];refine .same (.refl _) ⟨.inr ⟨id,hs0.none hid,hw'⟩,fun k hk _=>ho k (fun e=>hk (by rw[e];exact hid)),fun k hk=>?_⟩
  rw[show ax [y']=y' from rfl,hw'.nid]at hk
  cases hk;exact .inl hid
 ·have how:OwE 134 h0 h 5 (.ob id 0 xs.length cap 5) xs:=.inr ⟨id,hg,cap,rest,rfl,hid,hr,hc,hsz⟩
  have hfl:=aX hsz;refine acs Tryz.func135 95 [.tmp 6] fun hwf=>?_
  simp -implicitDefEqProofs only[go_sem];refine⟨acu,acu,?_⟩;cases d1:((i:Int)==(xs.length:Int))
  case true=>
   have hin:i=xs.length:=by
    have:(i:Int)=(xs.length:Int):=afy;omega
   simp -implicitDefEqProofs only[go_sem];subst hin;refine⟨acu,?_⟩;refine OwE.app (U:=U) (tb:=134) how hs0 (.sl afm .full:Rd h 5 (.sl [v] .full) [v]) acF acz acA acF acD aeU fun id2 y' h' g2 hor hw ho=>?_
   simp -implicitDefEqProofs only[go_sem];have e1:xs.take xs.length++([v]++xs.drop xs.length)=xs++ [v]:=acD;refine .same (.refl _) ⟨by have:OwE 134 h0 h' 5 y' (xs++ [v]):=.inr ⟨id2,g2,hw⟩;rw[←e1]at this;exact this,fun k hk hk2=>ho k fun e=>?_,fun k hk=>?_⟩
   ·rcases hor with hor|⟨l,c,ey⟩
    ·exact hk agu
    ·cases ey
     exact hk2 agm
   ·exact ahQ
  have hne:i<xs.length:=by
   have:¬(i:Int)=(xs.length:Int):=afy;omega
  have wn:IntKind.i64.wrap ((xs.length:Int)+1)=((xs.length+1:Nat):Int):=ac0;have wi:=acp i acu;have wm:IntKind.i64.wrap (((xs.length+1:Nat):Int) - (i:Int))=((xs.length+1 - i:Nat):Int):=ac0;have f1:au xs=au (xs.take i)++au (xs.drop i):=afU;have f2:(au (xs.take i)).length=i*5:=by rw[aX (sz:=5) fun z hz=>hsz z (List.mem_of_mem_take hz),List.length_take,Nat.min_eq_left hi]
  have f3:(au (xs.drop i)).length=(xs.length - i)*5:=by rw[aX (sz:=5) fun z hz=>hsz z (List.mem_of_mem_drop hz),List.length_drop]
  have f4:au (xs.take i++([v]++xs.drop i))=au (xs.take i)++(v.cells++au (xs.drop i)):=afV;have f5:Sized 5 (xs.take i++([v]++xs.drop i)):=fun z hz=>by
   exact ahp
  have f6:(xs.take i++([v]++xs.drop i)).length=xs.length+1:=adb;have f6' :(xs.take i++v::xs.drop i).length=xs.length+1:=f6;cases d2:decide ((cap:Int)<((xs.length+1:Nat):Int))
  ·have e2:=acm d2
   simp -implicitDefEqProofs only[go_sem,wn,d2];refine⟨acu,?_⟩;simp -implicitDefEqProofs only[go_sem,wi];have hcs:au xs++rest≠ []:=by
    intro e;have:=congrArg List.length e;rw[acn,hfl]at this;simp at this;omega
   refine⟨acu,acu,acu,acu,acu,acu,?_⟩;refine(Jv hv hid hcs).pthen ?_;simp -implicitDefEqProofs only[go_sem];refine .calls cL [0,1,2,3,4,5,6,7,8] (fun _ _ e=>acV) acw rfl ?_
   simp -implicitDefEqProofs only[go_sem,wi,hid,Nat.sub_zero];have hmin:min (xs.length+1 - i) (xs.length+1 - (i+1))=xs.length - i:=acu;refine⟨acu,acu,acu,acu,acu,acu,xs.drop i,afe,ae4, ?q1,fun z hz=>hsz z (List.mem_of_mem_drop hz),ad3,by rw[acn,hfl,hr];omega,agi,acu,acu,acu,hv,acu, ?ln, ?fin⟩
   case q1=>rw[hmin,f1,List.append_assoc,←f2,List.drop_left,←f3,List.take_left]
   case ln=>simp only[acn,List.length_take,List.length_drop,hfl,hr,f3];omega
   have hrl:(5:Nat)≤rest.length:=by rw[hr];omega
   have hfv:au [v]=v.cells:=afV;have key:=Hi (A:=au (xs.take i)) (B:=au (xs.drop i)) (C:=rest) (X:=au [v]) (k1:=(i+1)*5) (k2:=(i+1)*5+(au (xs.drop i)).length) (k3:=i*5) (k4:=i*5+(au [v]).length) af3 rfl f2.symm rfl (by rw[hfv,hv];exact hrl)
   rw[←List.append_assoc (au (xs.take i)) (au (xs.drop i)) rest,←f1]at key;rw[key];have e8:au (xs.take i)++(au [v]++(au (xs.drop i)++rest.drop (au [v]).length))=au (xs.take i++([v]++xs.drop i))++rest.drop 5:=by rw[f4,hfv,hv];simp only[List.append_assoc]
   rw[e8];refine .same (.refl _) ⟨.inr ⟨id,hg,cap,rest.drop 5,by rw[←f6];rfl,ah _ _ _,by rw[List.length_drop,hr,f6'];omega,ad8,f5⟩,fun k hk hk2=>ag _ _ fun e=>hk2 agm,fun k hk=> .inr hk⟩
  ·have e2:=ack d2
   simp -implicitDefEqProofs only[go_sem,wn,d2,wm];refine⟨acu,?_⟩;simp -implicitDefEqProofs only[go_sem,hid];have eA:List.take (i*5) (au xs++rest)=au (xs.take i):=by rw[f1,List.append_assoc,←f2,List.take_left]
   refine⟨acu,acu,acu,acu,acu,acu,by rw[acn,hfl];omega,?_⟩
   rw[Nat.sub_zero,eA];obtain⟨Z,eZ⟩:∃Z,cE (AV.agg [AV.s [],AV.s [],AV.s [],AV.sl [] Perm.full,AV.sl [] Perm.full]) (xs.length+1 - i) 5=Z:=⟨_,rfl⟩;have lZ:Z.length=(xs.length+1 - i)*5:=by rw[←eZ];simp[cE]
   rw[eZ];intro id2 cap2 rest2 hid2 hc2 hr2;have hx:¬id=id2:=fun e=>by rw[e,hid2]at hid;cases hid
   simp -implicitDefEqProofs only[go_sem];have hfv:au [v]=v.cells:=afV;refine⟨acu,acu,acu,hv,acu,aeH,?_⟩;refine .calls cL [0,1,2,3,4,5,6,7,8] (fun _ _ e=>acV) acw rfl ?_
   simp -implicitDefEqProofs only[go_sem,wi,hid,hx,Nat.sub_zero];have hmin:min (xs.length - i) (i+(xs.length+1 - i) - (i+1))=xs.length - i:=acu;have l0:(au (xs.take i)++Z++rest2).length=(i+(xs.length+1 - i))*5+(cap2 - (i+(xs.length+1 - i)))*5:=aeH;refine⟨acu,acu,acu,acu,acu,acu,xs.drop i,afe,ae4, ?q2,fun z hz=>hsz z (List.mem_of_mem_drop hz),ad3, ?lm,agi, ?fim⟩
   case q2=>rw[hmin,f1,List.append_assoc,←f2,List.drop_left,←f3,List.take_left]
   case lm=>rw[hfv];simp only[acn,List.length_take,List.length_drop,l0,hv];omega
   rw[Hj f2.symm rfl af3 rfl (by rw[hfv,hv,lZ,f3];omega)]
   have e8:au (xs.take i)++(au [v]++(au (xs.drop i)++rest2))=au (xs.take i++([v]++xs.drop i))++rest2:=by rw[f4,hfv];simp only[List.append_assoc]
   rw[e8];have e9:i+(xs.length+1 - i)=xs.length+1:=acu;rw[e9]at hr2 hc2⊢;refine .same (.refl _) ⟨.inr ⟨id2,hs0.none hid2,cap2,rest2,by rw[←f6];rfl,ah _ _ _,by rw[hr2,f6'],by rw[f6'];omega,f5⟩,fun k hk hk2=>ag _ _ fun e=>hk (by rw[e];exact hid2),fun k hk=> .inl (by cases hk;exact hid2)⟩
theorem F4{h:Heap}{v:AV}{id off len cap:Nat}{cs:List AV}{t:TypeId}(hv:v.cells.length=4)(hid:h id=some (.obj cs t))(hcs:cs≠ []):ai Tryz.prog 223 [.sl [v] .full,.ob id off len cap 4] h fun r h' =>r= .b false∧h' =h:=
 wB (U:=U) (tS:=131) (tR:=4) (e:=215) hU Tryz.func223 acK acK acK acw acK acz (by simp only[go_sem];omega) acD hid hcs
theorem Dp(y:AV)(xs:List AV)(v:AV)(i:Nat)(h0 h:Heap)(hw:OwE 215 h0 h 4 y xs)(hs0:Ab.Sub h0 h)(hi:i≤xs.length)(hl:xs.length≤1000000)(hv:v.cells.length=4)(hva:fit v 4):
  ai Tryz.prog 182 [y,.i i,.sl [v] .full] h fun r h' =>OwE 215 h0 h' 4 r (xs.take i++([v]++xs.drop i))∧(∀k,h k≠none→nid y≠some k→h' k=h k)∧∀k,nid r=some k→h k=none∨nid y=some k:=by
 rcases hw with⟨rfl,rfl⟩|⟨id,hg,cap,rest,rfl,hid,hr,hc,hsz⟩
 ·obtain rfl:i=0:=by simpa using hi
  refine acs Tryz.func182 95 [.tmp 6] fun hwf=>?_
  simp -implicitDefEqProofs only[go_sem];refine⟨acu,acu,hv,.ob acF (j0.ow (xs:=[v]) aet afV rfl fun id y' h' hid hw ho=>?_)⟩
  have hw' :Ow 215 h' 4 id y' [v]:=afA;simp -implicitDefEqProofs only[go_sem];refine .same (.refl _) ⟨.inr ⟨id,hs0.none hid,hw'⟩,fun k hk _=>ho k (fun e=>hk (by rw[e];exact hid)),fun k hk=>?_⟩
  rw[show ax [y']=y' from rfl,hw'.nid]at hk
  cases hk;exact .inl hid
 ·have how:OwE 215 h0 h 4 (.ob id 0 xs.length cap 4) xs:=.inr ⟨id,hg,cap,rest,rfl,hid,hr,hc,hsz⟩
  have hfl:=aX hsz;refine acs Tryz.func182 95 [.tmp 6] fun hwf=>?_
  simp -implicitDefEqProofs only[go_sem];refine⟨acu,acu,?_⟩;cases d1:((i:Int)==(xs.length:Int))
  case true=>
   have hin:i=xs.length:=by
    have:(i:Int)=(xs.length:Int):=afy;omega
   simp -implicitDefEqProofs only[go_sem];subst hin;refine⟨acu,?_⟩;refine OwE.app (U:=U) (tb:=215) how hs0 (.sl afm .full:Rd h 4 (.sl [v] .full) [v]) acF acz acA acF acD aeU fun id2 y' h' g2 hor hw ho=>?_
   simp -implicitDefEqProofs only[go_sem];have e1:xs.take xs.length++([v]++xs.drop xs.length)=xs++ [v]:=acD;refine .same (.refl _) ⟨by have:OwE 215 h0 h' 4 y' (xs++ [v]):=.inr ⟨id2,g2,hw⟩;rw[←e1]at this;exact this,fun k hk hk2=>ho k fun e=>?_,fun k hk=>?_⟩
   ·rcases hor with hor|⟨l,c,ey⟩
    ·exact hk agu
    ·cases ey
     exact hk2 agm
   ·exact ahQ
  have hne:i<xs.length:=by
   have:¬(i:Int)=(xs.length:Int):=afy;omega
  have wn:IntKind.i64.wrap ((xs.length:Int)+1)=((xs.length+1:Nat):Int):=ac0;have wi:=acp i acu;have wm:IntKind.i64.wrap (((xs.length+1:Nat):Int) - (i:Int))=((xs.length+1 - i:Nat):Int):=ac0;have f1:au xs=au (xs.take i)++au (xs.drop i):=afU;have f2:(au (xs.take i)).length=i*4:=by rw[aX (sz:=4) fun z hz=>hsz z (List.mem_of_mem_take hz),List.length_take,Nat.min_eq_left hi]
  have f3:(au (xs.drop i)).length=(xs.length - i)*4:=by rw[aX (sz:=4) fun z hz=>hsz z (List.mem_of_mem_drop hz),List.length_drop]
  have f4:au (xs.take i++([v]++xs.drop i))=au (xs.take i)++(v.cells++au (xs.drop i)):=afV;have f5:Sized 4 (xs.take i++([v]++xs.drop i)):=fun z hz=>by
   exact ahp
  have f6:(xs.take i++([v]++xs.drop i)).length=xs.length+1:=adb;have f6' :(xs.take i++v::xs.drop i).length=xs.length+1:=f6;cases d2:decide ((cap:Int)<((xs.length+1:Nat):Int))
  ·have e2:=acm d2
   simp -implicitDefEqProofs only[go_sem,wn,d2];refine⟨acu,?_⟩;simp -implicitDefEqProofs only[go_sem,wi];have hcs:au xs++rest≠ []:=by
    intro e;have:=congrArg List.length e;rw[acn,hfl]at this;simp at this;omega
   refine⟨acu,acu,acu,acu,acu,acu,?_⟩;refine(F4 hv hid hcs).pthen ?_;simp -implicitDefEqProofs only[go_sem];refine .calls cL [0,1,2,3,4,5,6,7,8] (fun _ _ e=>acV) acw rfl ?_
   simp -implicitDefEqProofs only[go_sem,wi,hid,Nat.sub_zero];have hmin:min (xs.length+1 - i) (xs.length+1 - (i+1))=xs.length - i:=acu;refine⟨acu,acu,acu,acu,acu,acu,xs.drop i,afe,ae4, ?q1,fun z hz=>hsz z (List.mem_of_mem_drop hz),ad3,by rw[acn,hfl,hr];omega,agi,acu,acu,acu,hv,acu, ?ln, ?fin⟩
   case q1=>rw[hmin,f1,List.append_assoc,←f2,List.drop_left,←f3,List.take_left]
   case ln=>simp only[acn,List.length_take,List.length_drop,hfl,hr,f3];omega
   have hrl:(4:Nat)≤rest.length:=by rw[hr];omega
   have hfv:au [v]=v.cells:=afV;have key:=Hi (A:=au (xs.take i)) (B:=au (xs.drop i)) (C:=rest) (X:=au [v]) (k1:=(i+1)*4) (k2:=(i+1)*4+(au (xs.drop i)).length) (k3:=i*4) (k4:=i*4+(au [v]).length) af3 rfl f2.symm rfl (by rw[hfv,hv];exact hrl)
   rw[←List.append_assoc (au (xs.take i)) (au (xs.drop i)) rest,←f1]at key;rw[key];have e8:au (xs.take i)++(au [v]++(au (xs.drop i)++rest.drop (au [v]).length))=au (xs.take i++([v]++xs.drop i))++rest.drop 4:=by rw[f4,hfv,hv];simp only[List.append_assoc]
   rw[e8];refine .same (.refl _) ⟨.inr ⟨id,hg,cap,rest.drop 4,by rw[←f6];rfl,ah _ _ _,by rw[List.length_drop,hr,f6'];omega,ad8,f5⟩,fun k hk hk2=>ag _ _ fun e=>hk2 agm,fun k hk=> .inr hk⟩
  ·have e2:=ack d2
   simp -implicitDefEqProofs only[go_sem,wn,d2,wm];refine⟨acu,?_⟩;simp -implicitDefEqProofs only[go_sem,hid];have eA:List.take (i*4) (au xs++rest)=au (xs.take i):=by rw[f1,List.append_assoc,←f2,List.take_left]
   refine⟨acu,acu,acu,acu,acu,acu,by rw[acn,hfl];omega,?_⟩
   rw[Nat.sub_zero,eA];obtain⟨Z,eZ⟩:∃Z,cE (AV.agg [AV.s [],AV.v (Value.int IntKind.i64 0),AV.v (Value.int IntKind.i64 0),AV.s []]) (xs.length+1 - i) 4=Z:=⟨_,rfl⟩;have lZ:Z.length=(xs.length+1 - i)*4:=by rw[←eZ];simp[cE]
   rw[eZ];intro id2 cap2 rest2 hid2 hc2 hr2;have hx:¬id=id2:=fun e=>by rw[e,hid2]at hid;cases hid
   simp -implicitDefEqProofs only[go_sem];have hfv:au [v]=v.cells:=afV;refine⟨acu,acu,acu,hv,acu,aeH,?_⟩;refine .calls cL [0,1,2,3,4,5,6,7,8] (fun _ _ e=>acV) acw rfl ?_
   simp -implicitDefEqProofs only[go_sem,wi,hid,hx,Nat.sub_zero];have hmin:min (xs.length - i) (i+(xs.length+1 - i) - (i+1))=xs.length - i:=acu;have l0:(au (xs.take i)++Z++rest2).length=(i+(xs.length+1 - i))*4+(cap2 - (i+(xs.length+1 - i)))*4:=aeH;refine⟨acu,acu,acu,acu,acu,acu,xs.drop i,afe,ae4, ?q2,fun z hz=>hsz z (List.mem_of_mem_drop hz),ad3, ?lm,agi, ?fim⟩
   case q2=>rw[hmin,f1,List.append_assoc,←f2,List.drop_left,←f3,List.take_left]
   case lm=>rw[hfv];simp only[acn,List.length_take,List.length_drop,l0,hv];omega
   rw[Hj f2.symm rfl af3 rfl (by rw[hfv,hv,lZ,f3];omega)]
   have e8:au (xs.take i)++(au [v]++(au (xs.drop i)++rest2))=au (xs.take i++([v]++xs.drop i))++rest2:=by rw[f4,hfv];simp only[List.append_assoc]
   rw[e8];have e9:i+(xs.length+1 - i)=xs.length+1:=acu;rw[e9]at hr2 hc2⊢;refine .same (.refl _) ⟨.inr ⟨id2,hs0.none hid2,cap2,rest2,by rw[←f6];rfl,ah _ _ _,by rw[hr2,f6'],by rw[f6'];omega,f5⟩,fun k hk hk2=>ag _ _ fun e=>hk (by rw[e];exact hid2),fun k hk=> .inl (by cases hk;exact hid2)⟩
end Go.Proofs.YtcochaoekecfdaaGreatDoor
