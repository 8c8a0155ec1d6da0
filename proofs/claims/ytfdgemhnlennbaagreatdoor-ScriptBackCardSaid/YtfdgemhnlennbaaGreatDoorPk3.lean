/- The law ScriptForm,ScriptWhat,ScriptBack: pack 3 of its texts. -/
import Derived.Test.YtfdgemhnlennbaaGreatDoorProg
import Derived.KernelRfl
import Derived.Shelf.Strings.OnBuilder
import Derived.Shelf.Small.Wraps
import Derived.Shelf.Strconv.Itoa3
import Derived.Below
import Derived.Lib.ItoaLen
import Derived.Lib.Join
import Derived.Lib.Small
import Derived.Shelf.Strings.BuilderK
import Derived.Test.YtfdgemhnlennbaaGreatDoorChecked
import Derived.WalkKit
import Derived.BigCall
import Derived.StillTailTactics
import Derived.Laws.Externs
import Derived.Lib.Overlaps
import Derived.Test.YtfdgemhnlennbaaGreatDoorPk1
import Derived.Test.YtfdgemhnlennbaaGreatDoorPk2
set_option linter.unusedSimpArgs false
set_option linter.unusedVariables false
set_option maxRecDepth 100000
namespace Go.Proofs.YtfdgemhnlennbaaGreatDoor
open Go Go.Ab
def tyN:TI:=⟨.other,0,0,default,none⟩
abbrev adI:TI:=⟨.other,1,8,.v .nilFunc,none⟩
def NN:List TI:=[
 tyN,
 adI,
 ⟨.int .i64,1,8,.i 0,some (0,[.int .i64])⟩,
 ⟨.int .i64,1,8,.i 0,some (0,[.int .i64])⟩,
 ⟨.bool,1,1,.b false,some (0,[.bool])⟩,
 ⟨.int .u8,1,1,.v (.int .u8 0),some (0,[.int .u8])⟩,
 ⟨.int .u8,1,1,.v (.int .u8 0),some (0,[.int .u8])⟩,
 ⟨.strct [(0,2),(1,3),(2,4),(3,6)],4,24,.agg [.i 0,.i 0,.b false,.v (.int .u8 0)],none⟩,
 ⟨.strct [(0,2),(1,3),(2,4),(3,6)],4,24,.agg [.i 0,.i 0,.b false,.v (.int .u8 0)],none⟩,
 ⟨.str,1,16,.s [],some (0,[.str])⟩,
 tyN,
 ⟨.str,1,16,.s [],some (0,[.str])⟩,
 ⟨.int .u64,1,8,.v (.int .u64 0),some (0,[.int .u64])⟩,
 tyN,
 tyN,
 tyN,
 tyN,
 ⟨.ptr 424,1,8,.v (.pointer none),none⟩,
 ⟨.strct [(0,17)],1,8,.agg [.v (.pointer none)],none⟩,
 tyN,
 tyN,
 tyN,
 ⟨.slice 9,1,24,.sl [] .full,none⟩,
 ⟨.ptr 87,1,8,.v (.pointer none),none⟩,
 ⟨.int .i64,1,8,.i 0,some (0,[.int .i64])⟩,
 tyN,
 tyN,
 ⟨.ptr 92,1,8,.v (.pointer none),none⟩,
 tyN,
 tyN,
 ⟨.cplx .f64,1,16,.v (.complex .f64 0 0),some (0,[.cplx .f64])⟩,
 ⟨.cplx .f64,1,16,.v (.complex .f64 0 0),some (0,[.cplx .f64])⟩,
 ⟨.strct [(0,3),(1,3),(2,9)],3,32,.agg [.i 0,.i 0,.s []],some (1,[.int .i64,.int .i64,.str])⟩,
 ⟨.strct [(0,3),(1,3),(2,9)],3,32,.agg [.i 0,.i 0,.s []],some (1,[.int .i64,.int .i64,.str])⟩,
 tyN,
 ⟨.strct [(0,24),(1,31),(2,4),(3,33),(6,4),(7,3)],8,80,.agg [.i 0,.v (.complex .f64 0 0),.b false,.i 0,.i 0,.s [],.b false,.i 0],some (2,[.int .i64,.cplx .f64,.bool,.int .i64,.int .i64,.str,.bool,.int .i64])⟩,
 tyN,
 ⟨.slice 5,1,24,.sl [] .full,none⟩,
 tyN,
 ⟨.strct [(0,3),(1,9),(2,9),(3,9),(4,9),(5,33),(8,3),(9,9),(10,9),(11,4)],12,152,.agg [.i 0,.s [],.s [],.s [],.s [],.i 0,.i 0,.s [],.i 0,.s [],.s [],.b false],some (2,[.int .i64,.str,.str,.str,.str,.int .i64,.int .i64,.str,.int .i64,.str,.str,.bool])⟩,
 ⟨.slice 37,1,24,.sl [] .full,none⟩,
 adI,
 tyN,
 tyN,
 ⟨.slice 48,1,24,.sl [] .full,none⟩,
 adI,
 adI,
 tyN,
 ⟨.int .u64,1,8,.v (.int .u64 0),some (0,[.int .u64])⟩,
 adI,
 ⟨.slice 39,1,24,.sl [] .full,none⟩,
 ⟨.slice 122,1,24,.sl [] .full,none⟩,
 ⟨.slice 135,1,24,.sl [] .full,none⟩,
 ⟨.slice 138,1,24,.sl [] .full,none⟩,
 ⟨.slice 141,1,24,.sl [] .full,none⟩,
 ⟨.slice 262,1,24,.sl [] .full,none⟩,
 ⟨.slice 262,1,24,.sl [] .full,none⟩,
 ⟨.slice 210,1,24,.sl [] .full,none⟩,
 ⟨.slice 61,1,24,.sl [] .full,none⟩,
 ⟨.slice 131,1,24,.sl [] .full,none⟩,
 ⟨.strct [(0,9),(1,4),(2,3),(3,56),(4,57),(5,58),(6,59)],7,128,.agg [.s [],.b false,.i 0,.sl [] .full,.sl [] .full,.sl [] .full,.sl [] .full],none⟩,
 ⟨.strct [(0,9),(1,4),(2,3),(3,56),(4,57),(5,58),(6,59)],7,128,.agg [.s [],.b false,.i 0,.sl [] .full,.sl [] .full,.sl [] .full,.sl [] .full],none⟩,
 ⟨.strct [(0,3),(1,51),(2,52),(3,53),(4,54),(5,61),(12,3)],13,240,.agg [.i 0,.sl [] .full,.sl [] .full,.sl [] .full,.sl [] .full,.s [],.b false,.i 0,.sl [] .full,.sl [] .full,.sl [] .full,.sl [] .full,.i 0],none⟩,
 ⟨.strct [(0,3),(1,51),(2,52),(3,53),(4,54),(5,61),(12,3)],13,240,.agg [.i 0,.sl [] .full,.sl [] .full,.sl [] .full,.sl [] .full,.s [],.b false,.i 0,.sl [] .full,.sl [] .full,.sl [] .full,.sl [] .full,.i 0],none⟩,
 tyN,
 adI,
 tyN,
 tyN,
 ⟨.strct [(0,39),(12,3),(13,31),(14,4),(15,59)],16,208,.agg [.i 0,.s [],.s [],.s [],.s [],.i 0,.i 0,.s [],.i 0,.s [],.s [],.b false,.i 0,.v (.complex .f64 0 0),.b false,.sl [] .full],none⟩,
 tyN,
 tyN,
 tyN,
 ⟨.slice 68,1,24,.sl [] .full,none⟩,
 tyN,
 tyN,
 tyN,
 tyN,
 tyN,
 tyN,
 tyN,
 tyN,
 tyN,
 tyN,
 tyN,
 tyN,
 tyN,
 tyN,
 ⟨.strct [(0,3),(1,37),(2,3),(3,3),(4,4)],5,56,.agg [.i 0,.sl [] .full,.i 0,.i 0,.b false],none⟩,
 ⟨.ptr 160,1,8,.v (.pointer none),none⟩,
 tyN,
 tyN,
 tyN,
 ⟨.strct [(0,88),(1,63),(14,72),(15,48)],16,280,.agg [.v (.pointer none),.i 0,.sl [] .full,.sl [] .full,.sl [] .full,.sl [] .full,.s [],.b false,.i 0,.sl [] .full,.sl [] .full,.sl [] .full,.sl [] .full,.i 0,.sl [] .full,.v (.int .u64 0)],none⟩,
 tyN,
 tyN,
 adI,
 tyN,
 adI,
 adI,
 adI,
 adI,
 ⟨.int .u32,1,4,.v (.int .u32 0),some (0,[.int .u32])⟩,
 adI,
 tyN,
 adI,
 adI,
 ⟨.strct [(0,31),(1,59)],2,40,.agg [.v (.complex .f64 0 0),.sl [] .full],none⟩,
 ⟨.strct [(0,31),(1,59)],2,40,.agg [.v (.complex .f64 0 0),.sl [] .full],none⟩,
 adI,
 tyN,
 adI,
 ⟨.slice 182,1,24,.sl [] .full,none⟩,
 adI,
 adI,
 adI,
 adI,
 ⟨.ptr 63,1,8,.v (.pointer none),none⟩,
 adI,
 adI,
 ⟨.slice 201,1,24,.sl [] .full,none⟩,
 ⟨.slice 191,1,24,.sl [] .full,none⟩,
 ⟨.strct [(0,9),(1,9),(2,9),(3,119),(4,120)],5,96,.agg [.s [],.s [],.s [],.sl [] .full,.sl [] .full],none⟩,
 ⟨.strct [(0,9),(1,9),(2,9),(3,119),(4,120)],5,96,.agg [.s [],.s [],.s [],.sl [] .full,.sl [] .full],none⟩,
 tyN,
 tyN,
 adI,
 tyN,
 tyN,
 tyN,
 tyN,
 tyN,
 ⟨.strct [(0,3),(1,3),(2,9)],3,32,.agg [.i 0,.i 0,.s []],some (1,[.int .i64,.int .i64,.str])⟩,
 tyN,
 tyN,
 tyN,
 ⟨.strct [(0,3),(1,3),(2,9),(3,9),(4,9),(5,9),(6,4)],7,88,.agg [.i 0,.i 0,.s [],.s [],.s [],.s [],.b false],some (1,[.int .i64,.int .i64,.str,.str,.str,.str,.bool])⟩,
 tyN,
 tyN,
 ⟨.strct [(0,3),(1,9),(2,9)],3,40,.agg [.i 0,.s [],.s []],some (1,[.int .i64,.str,.str])⟩,
 tyN,
 tyN,
 ⟨.strct [(0,9),(1,9)],2,32,.agg [.s [],.s []],some (1,[.str,.str])⟩,
 tyN,
 tyN,
 tyN,
 tyN,
 tyN,
 tyN,
 tyN,
 tyN,
 tyN,
 tyN,
 tyN,
 tyN,
 tyN,
 tyN,
 tyN,
 tyN,
 tyN,
 tyN,
 ⟨.strct [(0,23),(1,40),(2,4)],3,40,.agg [.v (.pointer none),.sl [] .full,.b false],none⟩,
 ⟨.int .u64,1,8,.v (.int .u64 0),some (0,[.int .u64])⟩,
 tyN,
 tyN,
 ⟨.slice 172,1,24,.sl [] .full,none⟩,
 tyN,
 tyN,
 ⟨.ptr 169,1,8,.v (.pointer none),none⟩,
 tyN,
 ⟨.strct [(0,164),(1,3),(2,3),(3,24),(4,3)],5,56,.agg [.sl [] .full,.i 0,.i 0,.i 0,.i 0],none⟩,
 tyN,
 tyN,
 ⟨.strct [(0,3),(1,3),(2,3),(3,9)],4,40,.agg [.i 0,.i 0,.i 0,.s []],some (1,[.int .i64,.int .i64,.int .i64,.str])⟩,
 tyN,
 tyN,
 tyN,
 tyN,
 tyN,
 tyN,
 ⟨.slice 33,1,24,.sl [] .full,none⟩,
 tyN,
 tyN,
 ⟨.strct [(0,3),(1,9),(2,179)],3,48,.agg [.i 0,.s [],.sl [] .full],none⟩,
 tyN,
 tyN,
 tyN,
 tyN,
 tyN,
 tyN,
 tyN,
 tyN,
 ⟨.strct [(0,3),(1,9),(2,9)],3,40,.agg [.i 0,.s [],.s []],some (1,[.int .i64,.str,.str])⟩,
 tyN,
 ⟨.ptr 122,1,8,.v (.pointer none),none⟩,
 tyN,
 tyN,
 tyN,
 adI,
 tyN,
 tyN,
 tyN,
 ⟨.strct [(0,9),(1,33)],4,48,.agg [.s [],.i 0,.i 0,.s []],some (2,[.str,.int .i64,.int .i64,.str])⟩,
 adI,
 tyN,
 adI,
 tyN,
 tyN,
 tyN,
 ⟨.slice 215,1,24,.sl [] .full,none⟩,
 tyN,
 ⟨.strct [(0,9),(1,4),(2,56),(3,208),(4,59)],5,96,.agg [.s [],.b false,.sl [] .full,.sl [] .full,.sl [] .full],none⟩,
 tyN,
 tyN,
 ⟨.strct [(0,3),(1,9),(2,4)],3,32,.agg [.i 0,.s [],.b false],some (1,[.int .i64,.str,.bool])⟩,
 tyN,
 ⟨.strct [(0,3),(1,33),(4,213)],7,72,.agg [.i 0,.i 0,.i 0,.s [],.i 0,.s [],.b false],some (2,[.int .i64,.int .i64,.int .i64,.str,.int .i64,.str,.bool])⟩,
 tyN,
 tyN,
 tyN,
 tyN,
 ⟨.iface,1,16,.v .nilIface,none⟩,
 tyN,
 tyN,
 tyN,
 tyN,
 tyN,
 tyN,
 tyN,
 ⟨.ptr 273,1,8,.v (.pointer none),none⟩,
 tyN,
 tyN,
 adI,
 tyN,
 tyN,
 tyN,
 tyN,
 tyN,
 tyN,
 tyN,
 tyN,
 tyN,
 tyN,
 tyN,
 tyN,
 ⟨.ptr 247,1,8,.v (.pointer none),none⟩,
 ⟨.map 9 352,1,8,.v (.map none),none⟩,
 tyN,
 ⟨.strct [(0,245),(1,3)],2,16,.agg [.v (.map none),.i 0],none⟩,
 tyN,
 tyN,
 tyN,
 tyN,
 ⟨.slice 3,1,24,.sl [] .full,none⟩,
 tyN,
 tyN,
 adI,
 tyN,
 tyN,
 tyN,
 tyN,
 tyN,
 tyN,
 ⟨.slice 266,1,24,.sl [] .full,none⟩,
 tyN,
 tyN,
 ⟨.strct [(0,213),(3,3),(4,33)],7,72,.agg [.i 0,.s [],.b false,.i 0,.i 0,.i 0,.s []],some (2,[.int .i64,.str,.bool,.int .i64,.int .i64,.int .i64,.str])⟩,
 ⟨.slice 265,1,24,.sl [] .full,none⟩,
 tyN,
 ⟨.ptr 270,1,8,.v (.pointer none),none⟩,
 tyN,
 ⟨.strct [(0,268),(1,37)],2,32,.agg [.v (.pointer none),.sl [] .full],none⟩,
 tyN,
 tyN,
 ⟨.strct [(0,37),(1,3),(2,4)],3,40,.agg [.sl [] .full,.i 0,.b false],none⟩,
 tyN,
 adI,
 tyN,
 tyN,
 tyN,
 tyN,
 tyN,
 tyN,
 tyN,
 tyN,
 tyN,
 tyN,
 tyN,
 tyN,
 ⟨.slice 107,1,24,.sl [] .full,none⟩,
 tyN,
 tyN,
 tyN,
 tyN,
 tyN,
 tyN,
 adI,
 tyN,
 tyN,
 tyN,
 tyN,
 tyN,
 tyN,
 tyN,
 ⟨.int .i64,1,8,.i 0,some (0,[.int .i64])⟩,
 tyN,
 tyN,
 tyN,
 tyN,
 tyN,
 tyN,
 ⟨.ptr 5,1,8,.v (.pointer none),none⟩,
 tyN,
 tyN,
 tyN,
 tyN,
 tyN,
 tyN,
 tyN,
 tyN,
 tyN,
 tyN,
 tyN,
 adI,
 ⟨.slice 31,1,24,.sl [] .full,none⟩,
 tyN,
 tyN,
 tyN,
 tyN,
 tyN,
 tyN,
 tyN,
 tyN,
 tyN,
 tyN,
 tyN,
 tyN,
 tyN,
 tyN,
 tyN,
 tyN,
 tyN,
 tyN,
 tyN,
 tyN,
 tyN,
 tyN,
 tyN,
 tyN,
 tyN,
 tyN,
 tyN,
 tyN,
 ⟨.strct [],0,0,default,none⟩,
 tyN,
 tyN,
 ⟨.slice 4,1,24,.sl [] .full,none⟩,
 tyN,
 tyN,
 tyN,
 tyN,
 tyN,
 ⟨.strct [(0,179),(1,33),(4,24)],5,64,.agg [.sl [] .full,.i 0,.i 0,.s [],.i 0],none⟩,
 adI,
 tyN,
 tyN,
 tyN,
 tyN,
 tyN,
 tyN,
 tyN,
 tyN,
 tyN,
 tyN,
 tyN,
 tyN,
 tyN,
 tyN,
 tyN,
 tyN,
 tyN,
 tyN,
 tyN,
 tyN,
 tyN,
 tyN,
 tyN,
 tyN,
 ⟨.slice 361,1,24,.sl [] .full,none⟩,
 tyN,
 tyN,
 tyN,
 tyN,
 tyN,
 tyN,
 tyN,
 tyN,
 tyN,
 adI,
 tyN,
 tyN,
 tyN,
 tyN,
 tyN,
 tyN,
 tyN,
 tyN,
 tyN,
 tyN,
 tyN,
 tyN,
 adI,
 tyN,
 tyN,
 tyN,
 tyN,
 tyN,
 tyN,
 tyN,
 ⟨.int .u8,1,1,.v (.int .u8 0),some (0,[.int .u8])⟩,
 ⟨.int .u8,1,1,.v (.int .u8 0),some (0,[.int .u8])⟩,
 adI,
 ⟨.int .i32,1,4,.v (.int .i32 0),some (0,[.int .i32])⟩,
 ⟨.int .i32,1,4,.v (.int .i32 0),some (0,[.int .i32])⟩,
 tyN,
 ⟨.strct [(0,12),(1,12),(2,101),(3,418),(4,5),(5,5),(6,419),(7,420),(8,310),(9,421),(10,422)],11,48,.agg [.v (.int .u64 0),.v (.int .u64 0),.v (.int .u32 0),.v (.int .u8 0),.v (.int .u8 0),.v (.int .u8 0),.v (.int .u8 0),.v .nilFunc,.v (.pointer none),.v (.int .i32 0),.v (.int .i32 0)],none⟩]
def U(t:TypeId):TI:=NN.getD t ⟨.other,0,0,default,none⟩
@[go_sem] theorem U3k:(U 3).k= .int .i64∧(U 3).sz=1∧(U 3).bytes=8∧(U 3).zero= .i 0:=⟨rfl,rfl,rfl,rfl⟩
@[go_sem] theorem U4k:(U 4).k= .bool∧(U 4).sz=1∧(U 4).bytes=1∧(U 4).zero= .b false:=⟨rfl,rfl,rfl,rfl⟩
@[go_sem] theorem U5k:(U 5).k= .int .u8∧(U 5).sz=1∧(U 5).bytes=1∧(U 5).zero= .v (.int .u8 0):=⟨rfl,rfl,rfl,rfl⟩
@[go_sem] theorem U9k:(U 9).k= .str∧(U 9).sz=1∧(U 9).bytes=16∧(U 9).zero= .s []:=⟨rfl,rfl,rfl,rfl⟩
@[go_sem] theorem abH:(U 22).k= .slice 9∧(U 22).sz=1∧(U 22).bytes=24∧(U 22).zero= .sl [] .full:=⟨rfl,rfl,rfl,rfl⟩
@[go_sem] theorem abL:(U 23).k= .ptr 87∧(U 23).sz=1∧(U 23).bytes=8∧(U 23).zero= .v (.pointer none):=⟨rfl,rfl,rfl,rfl⟩
@[go_sem] theorem abP:(U 24).k= .int .i64∧(U 24).sz=1∧(U 24).bytes=8∧(U 24).zero= .i 0:=⟨rfl,rfl,rfl,rfl⟩
@[go_sem] theorem abT:(U 27).k= .ptr 92∧(U 27).sz=1∧(U 27).bytes=8∧(U 27).zero= .v (.pointer none):=⟨rfl,rfl,rfl,rfl⟩
@[go_sem] theorem abX:(U 31).k= .cplx .f64∧(U 31).sz=1∧(U 31).bytes=16∧(U 31).zero= .v (.complex .f64 0 0):=⟨rfl,rfl,rfl,rfl⟩
@[go_sem] theorem ab2:(U 33).k= .strct [(0,3),(1,3),(2,9)]∧(U 33).sz=3∧(U 33).bytes=32∧(U 33).zero= .agg [.i 0,.i 0,.s []]∧(U 33).eq=some (1,[.int .i64,.int .i64,.str]):=⟨rfl,rfl,rfl,rfl,rfl⟩
@[go_sem] theorem ab6:(U 35).k= .strct [(0,24),(1,31),(2,4),(3,33),(6,4),(7,3)]∧(U 35).sz=8∧(U 35).bytes=80∧(U 35).zero= .agg [.i 0,.v (.complex .f64 0 0),.b false,.i 0,.i 0,.s [],.b false,.i 0]:=⟨rfl,rfl,rfl,rfl⟩
@[go_sem] theorem acd:(U 37).k= .slice 5∧(U 37).sz=1∧(U 37).bytes=24∧(U 37).zero= .sl [] .full:=⟨rfl,rfl,rfl,rfl⟩
@[go_sem] theorem aci:(U 39).k= .strct [(0,3),(1,9),(2,9),(3,9),(4,9),(5,33),(8,3),(9,9),(10,9),(11,4)]∧(U 39).sz=12∧(U 39).bytes=152∧(U 39).zero= .agg [.i 0,.s [],.s [],.s [],.s [],.i 0,.i 0,.s [],.i 0,.s [],.s [],.b false]∧(U 39).eq=some (2,[.int .i64,.str,.str,.str,.str,.int .i64,.int .i64,.str,.int .i64,.str,.str,.bool]):=⟨rfl,rfl,rfl,rfl,rfl⟩
@[go_sem] theorem acn:(U 40).k= .slice 37∧(U 40).sz=1∧(U 40).bytes=24∧(U 40).zero= .sl [] .full:=⟨rfl,rfl,rfl,rfl⟩
@[go_sem] theorem acr:(U 48).k= .int .u64∧(U 48).sz=1∧(U 48).bytes=8∧(U 48).zero= .v (.int .u64 0):=⟨rfl,rfl,rfl,rfl⟩
@[go_sem] theorem acw:(U 51).k= .slice 122∧(U 51).sz=1∧(U 51).bytes=24∧(U 51).zero= .sl [] .full:=⟨rfl,rfl,rfl,rfl⟩
@[go_sem] theorem acB:(U 52).k= .slice 135∧(U 52).sz=1∧(U 52).bytes=24∧(U 52).zero= .sl [] .full:=⟨rfl,rfl,rfl,rfl⟩
@[go_sem] theorem acF:(U 53).k= .slice 138∧(U 53).sz=1∧(U 53).bytes=24∧(U 53).zero= .sl [] .full:=⟨rfl,rfl,rfl,rfl⟩
@[go_sem] theorem acJ:(U 54).k= .slice 141∧(U 54).sz=1∧(U 54).bytes=24∧(U 54).zero= .sl [] .full:=⟨rfl,rfl,rfl,rfl⟩
@[go_sem] theorem acN:(U 56).k= .slice 262∧(U 56).sz=1∧(U 56).bytes=24∧(U 56).zero= .sl [] .full:=⟨rfl,rfl,rfl,rfl⟩
@[go_sem] theorem acR:(U 57).k= .slice 210∧(U 57).sz=1∧(U 57).bytes=24∧(U 57).zero= .sl [] .full:=⟨rfl,rfl,rfl,rfl⟩
@[go_sem] theorem acV:(U 58).k= .slice 61∧(U 58).sz=1∧(U 58).bytes=24∧(U 58).zero= .sl [] .full:=⟨rfl,rfl,rfl,rfl⟩
@[go_sem] theorem acZ:(U 59).k= .slice 131∧(U 59).sz=1∧(U 59).bytes=24∧(U 59).zero= .sl [] .full:=⟨rfl,rfl,rfl,rfl⟩
@[go_sem] theorem ac3:(U 61).k= .strct [(0,9),(1,4),(2,3),(3,56),(4,57),(5,58),(6,59)]∧(U 61).sz=7∧(U 61).bytes=128∧(U 61).zero= .agg [.s [],.b false,.i 0,.sl [] .full,.sl [] .full,.sl [] .full,.sl [] .full]:=⟨rfl,rfl,rfl,rfl⟩
@[go_sem] theorem ac7:(U 63).k= .strct [(0,3),(1,51),(2,52),(3,53),(4,54),(5,61),(12,3)]∧(U 63).sz=13∧(U 63).bytes=240∧(U 63).zero= .agg [.i 0,.sl [] .full,.sl [] .full,.sl [] .full,.sl [] .full,.s [],.b false,.i 0,.sl [] .full,.sl [] .full,.sl [] .full,.sl [] .full,.i 0]:=⟨rfl,rfl,rfl,rfl⟩
@[go_sem] theorem adb:(U 68).k= .strct [(0,39),(12,3),(13,31),(14,4),(15,59)]∧(U 68).sz=16∧(U 68).bytes=208∧(U 68).zero= .agg [.i 0,.s [],.s [],.s [],.s [],.i 0,.i 0,.s [],.i 0,.s [],.s [],.b false,.i 0,.v (.complex .f64 0 0),.b false,.sl [] .full]:=⟨rfl,rfl,rfl,rfl⟩
@[go_sem] theorem adh:(U 72).k= .slice 68∧(U 72).sz=1∧(U 72).bytes=24∧(U 72).zero= .sl [] .full:=⟨rfl,rfl,rfl,rfl⟩
@[go_sem] theorem adl:(U 87).k= .strct [(0,3),(1,37),(2,3),(3,3),(4,4)]∧(U 87).sz=5∧(U 87).bytes=56∧(U 87).zero= .agg [.i 0,.sl [] .full,.i 0,.i 0,.b false]:=⟨rfl,rfl,rfl,rfl⟩
@[go_sem] theorem adp:(U 88).k= .ptr 160∧(U 88).sz=1∧(U 88).bytes=8∧(U 88).zero= .v (.pointer none):=⟨rfl,rfl,rfl,rfl⟩
@[go_sem] theorem adt:(U 92).k= .strct [(0,88),(1,63),(14,72),(15,48)]∧(U 92).sz=16∧(U 92).bytes=280∧(U 92).zero= .agg [.v (.pointer none),.i 0,.sl [] .full,.sl [] .full,.sl [] .full,.sl [] .full,.s [],.b false,.i 0,.sl [] .full,.sl [] .full,.sl [] .full,.sl [] .full,.i 0,.sl [] .full,.v (.int .u64 0)]:=⟨rfl,rfl,rfl,rfl⟩
@[go_sem] theorem YM:(U 101).k= .int .u32∧(U 101).sz=1∧(U 101).bytes=4∧(U 101).zero= .v (.int .u32 0):=⟨rfl,rfl,rfl,rfl⟩
@[go_sem] theorem YR:(U 107).k= .strct [(0,31),(1,59)]∧(U 107).sz=2∧(U 107).bytes=40∧(U 107).zero= .agg [.v (.complex .f64 0 0),.sl [] .full]:=⟨rfl,rfl,rfl,rfl⟩
@[go_sem] theorem YV:(U 111).k= .slice 182∧(U 111).sz=1∧(U 111).bytes=24∧(U 111).zero= .sl [] .full:=⟨rfl,rfl,rfl,rfl⟩
@[go_sem] theorem YZ:(U 119).k= .slice 201∧(U 119).sz=1∧(U 119).bytes=24∧(U 119).zero= .sl [] .full:=⟨rfl,rfl,rfl,rfl⟩
@[go_sem] theorem Y3:(U 120).k= .slice 191∧(U 120).sz=1∧(U 120).bytes=24∧(U 120).zero= .sl [] .full:=⟨rfl,rfl,rfl,rfl⟩
@[go_sem] theorem Y7:(U 122).k= .strct [(0,9),(1,9),(2,9),(3,119),(4,120)]∧(U 122).sz=5∧(U 122).bytes=96∧(U 122).zero= .agg [.s [],.s [],.s [],.sl [] .full,.sl [] .full]:=⟨rfl,rfl,rfl,rfl⟩
@[go_sem] theorem Zb:(U 131).k= .strct [(0,3),(1,3),(2,9)]∧(U 131).sz=3∧(U 131).bytes=32∧(U 131).zero= .agg [.i 0,.i 0,.s []]:=⟨rfl,rfl,rfl,rfl⟩
@[go_sem] theorem Zf:(U 135).k= .strct [(0,3),(1,3),(2,9),(3,9),(4,9),(5,9),(6,4)]∧(U 135).sz=7∧(U 135).bytes=88∧(U 135).zero= .agg [.i 0,.i 0,.s [],.s [],.s [],.s [],.b false]:=⟨rfl,rfl,rfl,rfl⟩
@[go_sem] theorem Zj:(U 138).k= .strct [(0,3),(1,9),(2,9)]∧(U 138).sz=3∧(U 138).bytes=40∧(U 138).zero= .agg [.i 0,.s [],.s []]:=⟨rfl,rfl,rfl,rfl⟩
@[go_sem] theorem Zo:(U 141).k= .strct [(0,9),(1,9)]∧(U 141).sz=2∧(U 141).bytes=32∧(U 141).zero= .agg [.s [],.s []]∧(U 141).eq=some (1,[.str,.str]):=⟨rfl,rfl,rfl,rfl,rfl⟩
@[go_sem] theorem Zs:(U 160).k= .strct [(0,23),(1,40),(2,4)]∧(U 160).sz=3∧(U 160).bytes=40∧(U 160).zero= .agg [.v (.pointer none),.sl [] .full,.b false]:=⟨rfl,rfl,rfl,rfl⟩
@[go_sem] theorem Zw:(U 161).k= .int .u64∧(U 161).sz=1∧(U 161).bytes=8∧(U 161).zero= .v (.int .u64 0):=⟨rfl,rfl,rfl,rfl⟩
@[go_sem] theorem ZA:(U 164).k= .slice 172∧(U 164).sz=1∧(U 164).bytes=24∧(U 164).zero= .sl [] .full:=⟨rfl,rfl,rfl,rfl⟩
@[go_sem] theorem ZE:(U 169).k= .strct [(0,164),(1,3),(2,3),(3,24),(4,3)]∧(U 169).sz=5∧(U 169).bytes=56∧(U 169).zero= .agg [.sl [] .full,.i 0,.i 0,.i 0,.i 0]:=⟨rfl,rfl,rfl,rfl⟩
@[go_sem] theorem ZI:(U 172).k= .strct [(0,3),(1,3),(2,3),(3,9)]∧(U 172).sz=4∧(U 172).bytes=40∧(U 172).zero= .agg [.i 0,.i 0,.i 0,.s []]:=⟨rfl,rfl,rfl,rfl⟩
@[go_sem] theorem ZM:(U 179).k= .slice 33∧(U 179).sz=1∧(U 179).bytes=24∧(U 179).zero= .sl [] .full:=⟨rfl,rfl,rfl,rfl⟩
@[go_sem] theorem ZQ:(U 182).k= .strct [(0,3),(1,9),(2,179)]∧(U 182).sz=3∧(U 182).bytes=48∧(U 182).zero= .agg [.i 0,.s [],.sl [] .full]:=⟨rfl,rfl,rfl,rfl⟩
@[go_sem] theorem ZU:(U 191).k= .strct [(0,3),(1,9),(2,9)]∧(U 191).sz=3∧(U 191).bytes=40∧(U 191).zero= .agg [.i 0,.s [],.s []]:=⟨rfl,rfl,rfl,rfl⟩
@[go_sem] theorem ZY:(U 201).k= .strct [(0,9),(1,33)]∧(U 201).sz=4∧(U 201).bytes=48∧(U 201).zero= .agg [.s [],.i 0,.i 0,.s []]:=⟨rfl,rfl,rfl,rfl⟩
@[go_sem] theorem Z4:(U 208).k= .slice 215∧(U 208).sz=1∧(U 208).bytes=24∧(U 208).zero= .sl [] .full:=⟨rfl,rfl,rfl,rfl⟩
@[go_sem] theorem Z8:(U 210).k= .strct [(0,9),(1,4),(2,56),(3,208),(4,59)]∧(U 210).sz=5∧(U 210).bytes=96∧(U 210).zero= .agg [.s [],.b false,.sl [] .full,.sl [] .full,.sl [] .full]:=⟨rfl,rfl,rfl,rfl⟩
@[go_sem] theorem aad:(U 213).k= .strct [(0,3),(1,9),(2,4)]∧(U 213).sz=3∧(U 213).bytes=32∧(U 213).zero= .agg [.i 0,.s [],.b false]∧(U 213).eq=some (1,[.int .i64,.str,.bool]):=⟨rfl,rfl,rfl,rfl,rfl⟩
@[go_sem] theorem aah:(U 215).k= .strct [(0,3),(1,33),(4,213)]∧(U 215).sz=7∧(U 215).bytes=72∧(U 215).zero= .agg [.i 0,.i 0,.i 0,.s [],.i 0,.s [],.b false]:=⟨rfl,rfl,rfl,rfl⟩
@[go_sem] theorem aal:(U 245).k= .map 9 352∧(U 245).sz=1∧(U 245).bytes=8∧(U 245).zero= .v (.map none):=⟨rfl,rfl,rfl,rfl⟩
@[go_sem] theorem aap:(U 247).k= .strct [(0,245),(1,3)]∧(U 247).sz=2∧(U 247).bytes=16∧(U 247).zero= .agg [.v (.map none),.i 0]:=⟨rfl,rfl,rfl,rfl⟩
@[go_sem] theorem aat:(U 252).k= .slice 3∧(U 252).sz=1∧(U 252).bytes=24∧(U 252).zero= .sl [] .full:=⟨rfl,rfl,rfl,rfl⟩
@[go_sem] theorem aax:(U 262).k= .slice 266∧(U 262).sz=1∧(U 262).bytes=24∧(U 262).zero= .sl [] .full:=⟨rfl,rfl,rfl,rfl⟩
@[go_sem] theorem aaB:(U 265).k= .strct [(0,213),(3,3),(4,33)]∧(U 265).sz=7∧(U 265).bytes=72∧(U 265).zero= .agg [.i 0,.s [],.b false,.i 0,.i 0,.i 0,.s []]:=⟨rfl,rfl,rfl,rfl⟩
@[go_sem] theorem aaF:(U 266).k= .slice 265∧(U 266).sz=1∧(U 266).bytes=24∧(U 266).zero= .sl [] .full:=⟨rfl,rfl,rfl,rfl⟩
@[go_sem] theorem aaJ:(U 273).k= .strct [(0,37),(1,3),(2,4)]∧(U 273).sz=3∧(U 273).bytes=40∧(U 273).zero= .agg [.sl [] .full,.i 0,.b false]:=⟨rfl,rfl,rfl,rfl⟩
@[go_sem] theorem aaN:(U 288).k= .slice 107∧(U 288).sz=1∧(U 288).bytes=24∧(U 288).zero= .sl [] .full:=⟨rfl,rfl,rfl,rfl⟩
@[go_sem] theorem aaR:(U 323).k= .slice 31∧(U 323).sz=1∧(U 323).bytes=24∧(U 323).zero= .sl [] .full:=⟨rfl,rfl,rfl,rfl⟩
@[go_sem] theorem aaU:(U 352).k= .strct []∧(U 352).sz=0:=⟨rfl,rfl⟩
@[go_sem] theorem aaX:(U 355).k= .slice 4∧(U 355).sz=1∧(U 355).bytes=24∧(U 355).zero= .sl [] .full:=⟨rfl,rfl,rfl,rfl⟩
@[go_sem] theorem aa1:(U 361).k= .strct [(0,179),(1,33),(4,24)]∧(U 361).sz=5∧(U 361).bytes=64∧(U 361).zero= .agg [.sl [] .full,.i 0,.i 0,.s [],.i 0]:=⟨rfl,rfl,rfl,rfl⟩
@[go_sem] theorem aa5:(U 387).k= .slice 361∧(U 387).sz=1∧(U 387).bytes=24∧(U 387).zero= .sl [] .full:=⟨rfl,rfl,rfl,rfl⟩
theorem hU:∀t,aO Tryz.prog U t:=IY 425 adN fun t ht=>by
 unfold U;rw[List.getD_eq_getElem?_getD,List.getElem?_eq_none (show NN.length≤t from ht)]
 rfl
theorem hm:Tryz.prog.follows .mixedOrders=true:=adN
end Go.Proofs.YtfdgemhnlennbaaGreatDoor
namespace Go.Proofs
open Go.Shelf
open Go.RowKit in
open Go.RowKit in
def Tryz.D3:Go.Shelf.Ren:=⟨fun|121=>135|214=>181|n=>n,fun|4=>4|9=>9|n=>n,fun|n=>n⟩
theorem Tryz.O6:Go.Proofs.Lays.n121 Tryz.prog Tryz.D3:={
 mixed:=adN
 f121:=Tryz.func135.trans (congrArg some adN)
 f214:=Tryz.func181.trans (congrArg some adN)
 t4:=Tryz.underlying4
 a4:=Tryz.isAgg4
 z4:=Tryz.sizeOf4
 v4:=Tryz.zeroValue4
 t9:=Tryz.underlying9
 a9:=Tryz.isAgg9
 z9:=Tryz.sizeOf9
 v9:=Tryz.zeroValue9}
open Go.RowKit in
theorem Tryz.strconv_FormatBool(b:Bool)(w:World):
  Calls Tryz.prog 135 #[.bool b] w fun e w' =>e= .returned (.string ⟨(Lib.formatBool b).toArray⟩)∧w' =w:=Any.strconv_FormatBool Tryz.O6 b w
def Tryz.Cz:Go.Shelf.Ren:=⟨fun|171=>136|243=>182|246=>227|283=>259|284=>260|285=>261|286=>262|129=>287|317=>286|318=>288|319=>289|320=>290|337=>309|338=>310|n=>n,fun|3=>3|9=>9|2=>2|4=>4|171=>341|0=>0|53=>48|37=>37|5=>5|173=>344|212=>377|51=>101|20=>20|213=>378|46=>161|232=>406|233=>407|n=>n,fun|17=>3|18=>4|19=>5|n=>n⟩
theorem Tryz.Mt:Go.Proofs.LaysM.n171 Tryz.prog Tryz.Cz:={
 mixed:=adN
 f129:=Tryz.func287.trans (congrArg some adN)
 f171:=Tryz.func136.trans (congrArg some adN)
 f243:=Tryz.func182.trans (congrArg some adN)
 f246:=Tryz.func227.trans (congrArg some adN)
 f283:=Tryz.func259.trans (congrArg some adN)
 f284:=Tryz.func260.trans (congrArg some adN)
 f285:=Tryz.func261.trans (congrArg some adN)
 f286:=Tryz.func262.trans (congrArg some adN)
 f317:=Tryz.func286.trans (congrArg some adN)
 f318:=Tryz.func288.trans (congrArg some adN)
 f319:=Tryz.func289.trans (congrArg some adN)
 f320:=Tryz.func290.trans (congrArg some adN)
 f337:=Tryz.func309.trans (congrArg some adN)
 f338:=Tryz.func310.trans (congrArg some adN)
 t0:=Tryz.underlying0
 a0:=Tryz.isAgg0
 z0:=Tryz.sizeOf0
 v0:=Tryz.zeroValue0
 t2:=Tryz.underlying2
 a2:=Tryz.isAgg2
 z2:=Tryz.sizeOf2
 v2:=Tryz.zeroValue2
 t3:=Tryz.underlying3
 a3:=Tryz.isAgg3
 z3:=Tryz.sizeOf3
 v3:=Tryz.zeroValue3
 t4:=Tryz.underlying4
 a4:=Tryz.isAgg4
 z4:=Tryz.sizeOf4
 v4:=Tryz.zeroValue4
 t5:=Tryz.underlying5
 a5:=Tryz.isAgg5
 z5:=Tryz.sizeOf5
 v5:=Tryz.zeroValue5
 t9:=Tryz.underlying9
 a9:=Tryz.isAgg9
 z9:=Tryz.sizeOf9
 v9:=Tryz.zeroValue9
 t20:=Tryz.underlying20
 a20:=Tryz.isAgg20
 z20:=Tryz.sizeOf20
 v20:=Tryz.zeroValue20
 t37:=Tryz.underlying37
 a37:=Tryz.isAgg37
 z37:=Tryz.sizeOf37
 v37:=Tryz.zeroValue37
 t46:=Tryz.underlying161
 a46:=Tryz.isAgg161
 z46:=Tryz.sizeOf161
 v46:=Tryz.zeroValue161
 t51:=Tryz.underlying101
 a51:=Tryz.isAgg101
 z51:=Tryz.sizeOf101
 v51:=Tryz.zeroValue101
 t53:=Tryz.underlying48
 a53:=Tryz.isAgg48
 z53:=Tryz.sizeOf48
 v53:=Tryz.zeroValue48
 t171:=Tryz.underlying341
 a171:=Tryz.isAgg341
 z171:=Tryz.sizeOf341
 v171:=Tryz.zeroValue341
 t173:=Tryz.underlying344
 a173:=Tryz.isAgg344
 z173:=Tryz.sizeOf344
 v173:=Tryz.zeroValue344
 t212:=Tryz.underlying377
 a212:=Tryz.isAgg377
 z212:=Tryz.sizeOf377
 v212:=Tryz.zeroValue377
 t213:=Tryz.underlying378
 a213:=Tryz.isAgg378
 z213:=Tryz.sizeOf378
 t232:=Tryz.underlying406
 a232:=Tryz.isAgg406
 z232:=Tryz.sizeOf406
 v232:=Tryz.zeroValue406
 t233:=Tryz.underlying407
 a233:=Tryz.isAgg407
 z233:=Tryz.sizeOf407
 v233:=Tryz.zeroValue407
 g17:=adN
 g18:=adN
 g19:=adN
 i0:=adN
 i2:=adN
 i3:=adN
 i4:=adN
 i5:=adN
 i9:=adN
 i20:=adN
 i37:=adN
 i46:=adN
 i51:=adN
 i53:=adN
 i171:=adN
 i173:=adN
 i212:=adN
 i232:=adN
 i233:=adN
 m17:=adN
 m18:=adN
 m19:=adN}
open Go.RowKit Go.Sort Go.Lib in
theorem Tryz.strconv_Itoa (n : Int) (h0 : -9223372036854775808 ≤ n) (h1 : n ≤ 9223372036854775807) (w : World) (htab : Lib.TabIs Tryz.prog w "internal/strconv.uint64pow10" .u64 Lib.pow10Tab) :
  Calls Tryz.prog 136 #[.int .i64 n] w fun e w' =>e= .returned (.string ⟨(Lib.itoa n).toArray⟩)∧∃k os,w' =grow (w.drewN k) os:=Any.strconv_Itoa Tryz.Mt n h0 h1 w htab
end Go.Proofs
namespace Go.Ab
open Go
section
variable {P : Program} {U : TypeId → TI} {n : Nat} {ρ : Env} {h h' h2 : Heap} {e tb : TypeId} {y v : AV} {xs zs : List AV} {l : List UInt8} {Q : AV → Heap → Prop}
def hm1(id:Nat)(k:Blk):Heap:=upd (fun _=>none) id (some k)
@[go_sem] theorem gp(id:Nat)(k:Blk):hm1 id k id=some k:=ah ..
theorem Sub.hm1{id:Nat}{k:Blk}(h1:h id=some k):Sub (hm1 id k) h:=fun j b hj=>by
 unfold Ab.hm1 at hj
 grind [ah,ag]
theorem fO.new{id:Nat}{k:Option Blk}(hid:h id=none):fO h (upd h id k):=((Sub.refl h).new hid k).gh
theorem oF.accs{h0:Heap}(hs:Sub h0 h)(hk:∀y' h'',Acc U e h0 h'' y' (xs++zs)→fO h h''→Q y' h''):oF U h xs zs e Q:=
 .own fun id hid=>hk _ _ ⟨hs.new hid _,.inr ⟨id,hs.none hid,rfl,by rw[ah,adE]⟩⟩ (.new hid)
end
section
variable {P : Program} {U : TypeId → TI} {n : Nat} {ρ : Env} {h h' : Heap} {tb : TypeId} {y : AV} {l : List UInt8}
theorem Bytes.from(hb:Bytes tb h y l){lo:Operand}{m:Int}{x:IntKind}{K:AV→Prop}(j:Nat)(hm:ev ρ lo=some (.v (.int x m)))(hj:m=j)(hl:j≤l.length)(hz:(U tb).sz=1)(hk:∀z,Bytes tb h z (l.drop j)→K z):
  gU U ρ y (some lo) none none K (.slice tb):=by
 subst hj;rcases hb with⟨q,rfl⟩|⟨id,off,cs,rfl,h1,h2,h3⟩
 ·rw[EV,hm]
  refine⟨adK,by grind [jJ],?_⟩
  refine⟨adK,adL,?_⟩;rw[←List.map_drop];exact hk _ (.sl _ _)
 ·rw[rW]
  refine⟨adK,fun _=>hz,?_⟩
  simp only[mJ,fM,hm,dF,nR];refine⟨adK,adK,adK,?_⟩;simp only[Int.toNat_natCast,hz,Nat.mul_one];have e:(l.drop j).length=l.length - j:=adR;have:=hk (.oa id (off+j) (l.drop j).length) (by grind [oa,List.map_drop,List.drop_drop,List.drop_take])
  rwa [e]at this
theorem Bytes.cut(hb:Bytes tb h y l){lo hi:Operand}{m m2:Int}{x x2:IntKind}{K:AV→Prop}(j k:Nat)(hm:ev ρ lo=some (.v (.int x m)))(hj:m=j)(hm2:ev ρ hi=some (.v (.int x2 m2)))(hk2:m2=k)(hjk:j≤k)(hl:k≤l.length)(hz:(U tb).sz=1)
  (hk:∀z,Bytes tb h z ((l.drop j).take (k - j))→K z):gU U ρ y (some lo) (some hi) none K (.slice tb):=by
 subst hj;subst hk2
 rcases hb with⟨q,rfl⟩|⟨id,off,cs,rfl,h1,h2,h3⟩
 ·rw[Ky,hm]
  refine⟨adK,by grind [jJ],?_⟩
  simp only[dF,nR,hm2,Int.toNat_natCast,UD];refine⟨adK,adK,adL,?_⟩;rw[←List.map_drop,←List.map_take];exact hk _ (.sl _ _)
 ·rw[rW]
  refine⟨adK,fun _=>hz,?_⟩
  simp only[fM,hm,dF,nR,hm2];refine⟨adK,adK,adK,?_⟩;simp only[Int.toNat_natCast,hz,Nat.mul_one];have e:((l.drop j).take (k - j)).length=k - j:=adL;have:=hk (.oa id (off+j) ((l.drop j).take (k - j)).length) (.oa h1 adK (by
   grind [List.map_take,List.map_drop,List.drop_drop,List.drop_take]))
  rwa [e]at this
end
theorem Rf(k:IntKind)(n:Nat)(hk:k.signed=false)(hn:n<2 ^ k.bits):k.wrap (n:Int)=n:=by
 cases k<;>simp[IntKind.signed]at hk<;>simp[IntKind.wrap,IntKind.signed,IntKind.bits]at hn⊢<;>omega
theorem w32(n:Nat)(hn:n<4294967296):IntKind.u32.wrap (n:Int)=n:=Rf .u32 n rfl aht
theorem w8(n:Nat):IntKind.u8.wrap (n:Int)=(UInt8.ofNat n).toNat:=by
 rfl
theorem Bq(w n:Nat):BitVec.ofInt w (n:Int)=BitVec.ofNat w n:=BitVec.ofInt_natCast ..
theorem N1(x y:BitVec 32):IntKind.u32.wrap (((BitVec.ofInt IntKind.u32.bits (x.toNat:Int) ^^^ BitVec.ofInt IntKind.u32.bits (y.toNat:Int)).toNat:Nat):Int)=((x ^^^ y).toNat:Int):=by
 have e:∀z:BitVec 32,BitVec.ofInt IntKind.u32.bits (z.toNat:Int)=z:=fun z=>by
  show BitVec.ofInt 32 (z.toNat:Int)=z
  simp
 rw[e,e];exact w32 _ (x ^^^ y).isLt
theorem Tk(x:BitVec 32):IntKind.u32.wrap (((BitVec.ofInt IntKind.u32.bits (x.toNat:Int) ^^^ BitVec.ofInt IntKind.u32.bits (3988292384:Int)).toNat:Nat):Int)=((x ^^^ 0xedb88320#32).toNat:Int):=N1 x 0xedb88320#32
theorem VM(x:BitVec 32):IntKind.u32.wrap (((BitVec.ofInt IntKind.u32.bits (if IntKind.u32.signed=true then -1 else IntKind.u32.max) ^^^ BitVec.ofInt IntKind.u32.bits (x.toNat:Int)).toNat:Nat):Int)=((~~~ x).toNat:Int):=by
 have:=N1 (BitVec.allOnes 32) x;exact aer
theorem UL(x:BitVec 32):IntKind.u32.wrap (((BitVec.ofInt IntKind.u32.bits (x.toNat:Int) &&& BitVec.ofInt IntKind.u32.bits (1:Int)).toNat:Nat):Int)=((x &&& 1#32).toNat:Int):=by
 have e:BitVec.ofInt IntKind.u32.bits (x.toNat:Int)=x:=by
  show BitVec.ofInt 32 (x.toNat:Int)=x
  simp
 rw[e];exact w32 _ (x &&& 1#32).isLt
theorem VZ(x:BitVec 32):(x.toNat:Int).fdiv (2 ^ (min (1:Int).toNat IntKind.u32.bits))=((x>>>1).toNat:Int):=by
 show(x.toNat:Int).fdiv (2 ^ 1)=_
 grind [Int.fdiv_eq_ediv_of_nonneg,Nat.shiftRight_eq_div_pow]
theorem YC(n:Nat)(k:Nat)(hk:k≤24):(n:Int).fdiv (2 ^ (min (k:Int).toNat IntKind.u32.bits))=((n / 2 ^ k:Nat):Int):=by
 grind [min,Int,IntKind.bits,Int.fdiv_eq_ediv_of_nonneg,Int.le_of_lt,Int.pow_pos]
theorem Ys(a b k:Nat)(ha:a<2 ^ k)(hk:k≤24)(hb:b<256):IntKind.u32.wrap (((BitVec.ofInt IntKind.u32.bits (a:Int)|||BitVec.ofInt IntKind.u32.bits ((b*2 ^ k:Nat):Int)).toNat:Nat):Int)=((a+b*2 ^ k:Nat):Int):=by
 have h24:2 ^ k≤2 ^ 24:=Nat.pow_le_pow_right adO hk;have hbk:b*2 ^ k≤255*2 ^ 24:=Nat.mul_le_mul adK h24;have e1:(BitVec.ofNat 32 a|||BitVec.ofNat 32 (b*2 ^ k)).toNat=a+b*2 ^ k:=by
  exact aiF
 show IntKind.u32.wrap (((BitVec.ofInt 32 (a:Int)|||BitVec.ofInt 32 ((b*2 ^ k:Nat):Int)).toNat:Nat):Int)=_
 rw[Bq,Bq,e1]
 grind [w32]
theorem VY(b k:Nat)(hk:k≤24)(hb:b<256):IntKind.u32.wrap ((b:Int)*2 ^ (min (k:Int).toNat IntKind.u32.bits))=((b*2 ^ k:Nat):Int):=by
 have h24:2 ^ k≤2 ^ 24:=Nat.pow_le_pow_right adO hk;have hbk:b*2 ^ k≤255*2 ^ 24:=Nat.mul_le_mul adK h24;have:min (k:Int).toNat IntKind.u32.bits=k:=aht;rw[this,show((b:Int)*2 ^ k)=((b*2 ^ k:Nat):Int) by simp]
 exact w32 _ adK
section
variable {U : TypeId → TI} {ty : TypeId} {K : AV → Prop}
@[go_sem high] theorem ady(x y:BitVec 32):cq U .xor ty (.v (.int .u32 (x.toNat:Int))) (.v (.int .u32 (y.toNat:Int))) K=K (.v (.int .u32 ((x ^^^ y).toNat:Int))):=by rw[QB,N1]
@[go_sem high] theorem abm(x:BitVec 32):cq U .xor ty (.v (.int .u32 (x.toNat:Int))) (.v (.int .u32 3988292384)) K=K (.v (.int .u32 ((x ^^^ 0xedb88320#32).toNat:Int))):=by rw[QB,Tk]
@[go_sem high] theorem XY(x:BitVec 32):cq U .and ty (.v (.int .u32 (x.toNat:Int))) (.v (.int .u32 1)) K=K (.v (.int .u32 ((x &&& 1#32).toNat:Int))):=by rw[Ls,UL]
@[go_sem high] theorem X0(x:BitVec 32)(kk:IntKind):cq U .shr ty (.v (.int .u32 (x.toNat:Int))) (.v (.int kk 1)) K=K (.v (.int .u32 ((x>>>1).toNat:Int))):=by grind [Lt,VZ]
@[go_sem high] theorem YI(x:BitVec 32):unA .xor (.v (.int .u32 (x.toNat:Int))) K=K (.v (.int .u32 ((~~~ x).toNat:Int))):=by rw[CR,VM]
theorem LA(n k:Nat)(kk:IntKind)(hk:k≤24):cq U .shr ty (.v (.int .u32 (n:Int))) (.v (.int kk (k:Int))) K=K (.v (.int .u32 ((n / 2 ^ k:Nat):Int))):=by grind [Lt,YC]
theorem Lz(a b k:Nat)(ha:a<2 ^ k)(hk:k≤24)(hb:b<256):cq U .or ty (.v (.int .u32 (a:Int))) (.v (.int .u32 ((b*2 ^ k:Nat):Int))) K=K (.v (.int .u32 ((a+b*2 ^ k:Nat):Int))):=by grind [UN,Ys]
theorem FD(b k:Nat)(kk:IntKind)(hk:k≤24)(hb:b<256):cq U .shl ty (.v (.int .u32 (b:Int))) (.v (.int kk (k:Int))) K=K (.v (.int .u32 ((b*2 ^ k:Nat):Int))):=by grind [QA,VY]
end
section
variable {P : Program} {U : TypeId → TI} {n : Nat} {ρ : Env} {h0 h h' : Heap} {tb : TypeId} {y v : AV} {l m : List UInt8} {Q : AV → Heap → Prop}
end
section
variable {U : TypeId → TI} {ty : TypeId} {K : AV → Prop}
end
section
variable {P : Program} {U : TypeId → TI} {n : Nat} {ρ : Env} {h : Heap}
section
variable (all : List Oper) (bs : List Bool) (r : List Oper) (K : Env → Heap → Prop)
end
theorem ai.of_wp{f:FuncId}{fn:Func}{c:Code}{args:List AV}{Q:AV→Heap→Prop}(hU:∀t,aO P U t)(hf:P.funcs[f]? =some fn)(hb:fn.body=some c)
  (hn : (fn.name == "runtime.NumGoroutine") = false) (m : Nat) (hm' : fn.ntmps = m) (rs : List ResultVar) (hr : fn.results.toList = rs) (hl : args.length ≤ m)
  (hk:WP P m c (yt args) h (vZ U rs Q)):ai P f args h Q:=by
 subst hm';subst hr
 exact ai.MO hU hf hb hn hl fun _=>hk
end
section
variable {P : Program} {U : TypeId → TI} {n : Nat} {ρ : Env} {h : Heap}
def KCut(I:Env→Heap→Prop)(K:Exit→Env→Heap→Prop):Exit→Env→Heap→Prop:=KSeq I K
@[go_sem↓] theorem UB(I:Env→Heap→Prop)(K:Exit→Env→Heap→Prop):KCut I K .ret ρ h=K .ret ρ h:=rfl
theorem WP.cut{c d:Code}{K:Exit→Env→Heap→Prop}(I:Env→Heap→Prop)(hc:WP P n c ρ h (KCut I K))(hd:∀ρ h,I ρ h→WP P n d ρ h K):WP P n (.seq c d) ρ h K:=
 WP.seq (hc.weaken fun e ρ h hk=>by
  cases e with
  |normal=>exact hd ρ h hk
  |_=>exact hk)
theorem WP.vc(hU:∀t,aO P U t)(hm:P.follows .mixedOrders=true){c:Code}{K:Exit→Env→Heap→Prop}(hk:bH P U n c ρ h K):WP P n c ρ h K:=dJ hU hm c ρ h K hk
def KNext(P:Program)(n:Nat)(d:Code)(K:Exit→Env→Heap→Prop):Exit→Env→Heap→Prop:=KSeq (WP P n d · · K) K
@[go_sem↓] theorem Od(d:Code)(K:Exit→Env→Heap→Prop):KNext P n d K .normal ρ h=WP P n d ρ h K:=rfl
@[go_sem↓] theorem Ty(d:Code)(K:Exit→Env→Heap→Prop):KNext P n d K .ret ρ h=K .ret ρ h:=rfl
@[go_sem↓] theorem Rq(d:Code)(K:Exit→Env→Heap→Prop)(i:Nat):KNext P n d K (.goto i) ρ h=K (.goto i) ρ h:=rfl
theorem WP.one(hU:∀t,aO P U t)(hm:P.follows .mixedOrders=true){c d:Code}{K:Exit→Env→Heap→Prop}(hk:bH P U n c ρ h (KNext P n d K)):WP P n (.seq c d) ρ h K:=WP.seq (dJ hU hm c ρ h _ hk)
end
section
variable {P : Program} {U : TypeId → TI} {n : Nat} {ρ : Env} {h : Heap}
variable {d : Option Tmp} {t : TypeId} {p : String} {a : Array Edge} {g : Option (Nat × Bool)} {Q : AV → Heap → Prop} {k : AV → Prop}
@[go_sem] theorem WD(x y:TypeId)(k:TK→Prop):atK (.map x y) k=k (.map x y):=rfl
@[go_sem] theorem UT(i:Nat):AV.cells (.mp i)= [.mp i]:=rfl
@[go_sem] theorem X9(i m:Nat):fit (.mp i) m=(m=1):=rfl
@[go_sem] theorem Xi(l:List UInt8):gG .str (.s l)=(l.length≤maxLen):=rfl
def mpL(b:Blk)(f:List (AV×AV)→Prop):Prop:=match b with
 |.mp m=>f m
 |_=>False
@[congr] theorem Ue{b b' :Blk}{f:List (AV×AV)→Prop}(e:b=b'):mpL b f=mpL b' f:=by rw[e]
@[go_sem↓] theorem Yi(m:List (AV×AV))(f:List (AV×AV)→Prop):mpL (.mp m) f=f m:=rfl
def AP(tk:TK)(m:List (AV×AV)):Prop:=∀p∈m,gG tk p.1
def Le(ti:TI):Prop:=ti.sz≠0∨ti.k= .strct []
def Eb(U:TypeId→TI)(h:Heap)(u v:AV)(ok:Bool)(k:AV→Prop)(tk:TK):Prop:=match tk,u with
 |.map kt e,.mp id=>gG (U kt).k v∧Le (U e)∧aE (h id) fun b=>mpL b fun m=>AP (U kt).k m∧k (yY U e m v ok)
 |_,_=>False
@[congr] theorem QU{u u' v v' :AV}{ok:Bool}{k:AV→Prop}{tk:TK}(h1:u=u')(h2:v=v'):Eb U h u v ok k tk=Eb U h u' v' ok k tk:=by grind
@[go_sem↓] theorem VE(kt e:TypeId)(id:Nat)(v:AV)(ok:Bool):Eb U h (.mp id) v ok k (.map kt e)=(gG (U kt).k v∧Le (U e)∧aE (h id) fun b=>mpL b fun m=>AP (U kt).k m∧k (yY U e m v ok)):=rfl
@[go_sem↓] theorem VQ(mt:TypeId)(x y:Operand)(ok:Bool):bg P U ρ h ⟨d,.lookup mt x y ok,t,p,a,g⟩ Q=aE (ev ρ x) fun u=>aE (ev ρ y) fun v=>atK (U mt).k (Eb U h u v ok (atH Q h)):=by
 simp only[bg,pv,bV,atK]
 congr 1
 funext u
 congr 1
 funext v
 cases (U mt).k with
 |map kt e=>
  cases u with
  |mp id=>
   simp only[Eb]
   congr 2
   exact ah4
  |_=>rfl
 |_=>rfl
def M8(U:TypeId→TI)(h:Heap)(u v w:AV)(Q:AV→Heap→Prop)(tk:TK):Prop:=match tk,u with
 |.map kt e,.mp id=>gG (U kt).k v∧aE (h id) fun b=>mpL b fun m=>AP (U kt).k m∧Q (.v undef) (upd h id (some (.mp (AB m v w))))
 |_,_=>False
@[congr] theorem SU{u u' v v' w w' :AV}{tk:TK}(h1:u=u')(h2:v=v')(h3:w=w'):M8 U h u v w Q tk=M8 U h u' v' w' Q tk:=by grind
@[go_sem↓] theorem Xw(kt e:TypeId)(id:Nat)(v w:AV):M8 U h (.mp id) v w Q (.map kt e)=(gG (U kt).k v∧aE (h id) fun b=>mpL b fun m=>AP (U kt).k m∧Q (.v undef) (upd h id (some (.mp (AB m v w))))):=rfl
@[go_sem↓] theorem Q0(mt:TypeId)(x y z:Operand):bg P U ρ h ⟨d,.mapUpdate mt x y z,t,p,a,g⟩ Q=aE (ev ρ x) fun u=>aE (ev ρ y) fun v=>aE (ev ρ z) fun w=>atK (U mt).k (M8 U h u v w Q):=by
 simp only[bg,bV,atK]
 congr 1
 funext u
 congr 1
 funext v
 congr 1
 funext w
 cases (U mt).k with
 |map kt e=>
  cases u with
  |mp id=>
   simp only[M8]
   congr 1
   exact ah4
  |_=>rfl
 |_=>rfl
def UF(h:Heap)(Q:AV→Heap→Prop):Prop:=∀id,h id=none→Q (.mp id) (upd h id (some (.mp [])))
@[go_sem↓] theorem Up(mt:TypeId):bg P U ρ h ⟨d,.makeMap mt none,t,p,a,g⟩ Q=UF h Q:=by
 simp only[bg,IC,true_and];rfl
end
def AA(ls:List (List UInt8)):List (AV×AV):=ls.map fun l=>(.s l,.agg [])
theorem DG(ls:List (List UInt8))(l:List UInt8):getM (AA ls) (.s l)=if l∈ls then some (.agg [])else none:=by
 induction ls with
 |nil=>rfl
 |cons x ls ih=>
  simp only[getM,AA,List.map_cons,List.find?_cons,sN]at ih⊢
  grind
theorem Nw{ls:List (List UInt8)}{l:List UInt8}(hn:l∉ls):AB (AA ls) (.s l) (.agg [])=AA (ls++ [l]):=by
 unfold AB;rw[DG,if_neg hn];simp[AA]
theorem J6(U:TypeId→TI)(e:TypeId)(he:(U e).sz=0)(ls:List (List UInt8))(l:List UInt8):yY U e (AA ls) (.s l) true= .tup [.agg [],.b (decide (l∈ls))]:=by
 simp only[yY,DG,iZ,he,if_true]
 grind
theorem J0{ls:List (List UInt8)}(h:∀l∈ls,l.length≤maxLen):AP .str (AA ls):=fun p hp=>by
 obtain⟨l,hl,rfl⟩:=List.mem_map.1 hp;exact h l hl
section
variable {P : Program} {f : FuncId} {args : List AV} {h h' : Heap} {Q : AV → Heap → Prop}
theorem Ext.below{c:Cx}{w' :World}(hb:Go.RowKit.Below c.w.heap.size c.w w'):Ext c {c with w:=w'} where
 os:=hb.os
 tape:=hb.tape
 output:=hb.output
 size:=hb.size
 block:=fun b h _=>hb.block b h
 cell:=fun b o h _=>by
  simp only[World.cell?,hb.block b h]
 shape:=fun b cs t fr h=>⟨cs,fr,(hb.block b (cW h)).trans h,rfl⟩
 steal:=fun _ _ _ h=>h
 obj:=fun _ cs _ h=>⟨rfl,cs,h,rfl⟩
 spare:=fun _ n _ h=>⟨n,h,.inl ⟨rfl,rfl⟩⟩
 mp:=fun _ m h=>⟨rfl,m,h⟩
 ro:=fun _ _ _ h=>⟨rfl,h⟩
theorem Good.below{c:Cx}(g:Good c){w' :World}(hb:Go.RowKit.Below c.w.heap.size c.w w'):Good {c with w:=w'} where
 fin:=g.fin
 inj:=g.inj
 obj:=fun id cs t h=>by
  obtain⟨vs,a1,a2,a3⟩:=g.obj id cs t h;exact⟨vs,(hb.block _ (cW a1)).trans a1,a2,fun j hj=>⟨(a3 j hj).1.mono (.below hb),(a3 j hj).2⟩⟩
 spare:=fun id n sz h=>by
  obtain⟨a0,vs,t,fr,a1,a2⟩:=g.spare id n sz h;exact⟨a0,vs,t,fr,(hb.block _ (cW a1)).trans a1,a2⟩
 mp:=fun id m h=>by
  obtain⟨es,cl,a1,a2,a3⟩:=g.mp id m h;exact⟨es,cl,(hb.block _ (cW a1)).trans a1,a2,fun i hi hi' =>⟨(a3 i hi hi').1,(a3 i hi hi').2.mono (.below hb)⟩⟩
 keys:=g.keys
 ro:=fun id b vs h=>g.oc (.below hb) h
theorem ai.lib{X:AV}(hc:callable P f)(hf:∀c (vs:Array Value),Sub h c.h→Good c→vs.size=args.length→(∀i (hi:i<args.length),Rep c args[i] (vs.getD i undef))→
  Calls P f vs c.w fun e w' =>(∃u,e= .returned u∧∀c',Ext c c'→Rep c' X u)∧Go.RowKit.Below c.w.heap.size c.w w'):ai P f args h fun r h' =>r=X∧h' =h:=by
 refine fun c vs hs g h1 h2=> .inl ⟨hc,(hf c vs hs g h1 h2).mono ?_⟩
 rintro e w' ⟨⟨u,rfl,hu⟩,hb⟩
 exact⟨u,rfl,{c with w:=w'},X,h,rfl,g.below hb,.below hb,hu _ (.below hb),hs,rfl,rfl⟩
def Tab(h:Heap)(b:Nat)(vs:List Value):Prop:=∃id,h id=some (.ro b vs)
theorem Tab.sub{b:Nat}{vs:List Value}(ht:Tab h b vs)(hs:Sub h h'):Tab h' b vs:=let ⟨id,hi⟩:=ht;⟨id,hs _ _ hi⟩
theorem Tab.var{b:Nat}{vs:List Value}{name:String}(ht:Tab h b vs)(hn:P.globalNamed name=some b){c:Cx}(hs:Sub h c.h)(g:Good c):c.w.var? P name=some vs.toArray:=by
 obtain⟨id,hi⟩:=ht;obtain⟨_,t,fr,h2⟩:=g.ro id b vs (hs _ _ hi)
 grind [World.var?]
end
def uE(ts:List (Nat×List Value)):Heap:=fun i=>(ts[i]?).map fun p=> .ro p.1 p.2
def cxT(w:World)(ts:List (Nat×List Value)):Cx:=⟨w,fun i=>⟨((ts[i]?).map (·.1)).getD 0,0,none⟩,uE ts⟩
theorem MX(w:World)(ts:List (Nat×List Value))(b o:Nat):¬owned (cxT w ts) b o:=by
 rintro⟨id,k,h,_,h3⟩
 simp only[cxT,uE,Option.map_eq_some_iff]at h;obtain⟨p,_,rfl⟩:=h;exact h3
theorem Vs(w:World)(ts:List (Nat×List Value))(hd:ts.Pairwise fun p q=>p.1≠q.1)(ht:∀p∈ts,∃(t:TypeId) (fr:Nat×Nat),w.heap[p.1]? =some (.cells p.2.toArray t fr)):Good (cxT w ts) where
 fin:=⟨ts.length,fun id h=>by simp[cxT,uE,List.getElem?_eq_none h]⟩
 inj:=fun i j k l h1 h2 hne=>by
  simp only[cxT,uE,Option.map_eq_some_iff]at h1 h2;obtain⟨p,hp,rfl⟩:=h1;obtain⟨q,hq,rfl⟩:=h2;simp only[cxT,hp,hq,Option.map_some,Option.getD_some];obtain⟨hi,rfl⟩:=List.getElem?_eq_some_iff.1 hp
  grind [List.pairwise_iff_getElem,Nat.lt_or_gt_of_ne]
 obj:=fun id cs t h=>by
  simp_all [cxT,uE,Option.map_eq_some_iff]
 spare:=fun id n sz h=>by
  simp_all [cxT,uE,Option.map_eq_some_iff]
 mp:=fun id m h=>by
  simp_all [cxT,uE,Option.map_eq_some_iff]
 keys:=fun id m h=>by
  simp_all [cxT,uE,Option.map_eq_some_iff]
 ro:=fun id b vs h=>by
  simp only[cxT,uE,Option.map_eq_some_iff]at h;obtain⟨p,hp,h⟩:=h;cases h;refine⟨by grind [cxT],ht p adL⟩
theorem ai.FE{P:Program}{f:FuncId}{args:List AV}{b:Value}{vs:Array Value}{w:World}{ts:List (Nat×List Value)}(hc:callable P f)(hf:ai P f args (uE ts) fun r _=>r= .v b)(hd:ts.Pairwise fun p q=>p.1≠q.1)
  (ht:∀p∈ts,∃(t:TypeId) (fr:Nat×Nat),w.heap[p.1]? =some (.cells p.2.toArray t fr)) (hv:vs.size=args.length) (hr:∀i (hi:i<args.length),Rep (cx0 w) args[i] (vs.getD i undef)):
  Calls P f vs w fun e w' =>e= .returned b∧Go.RowKit.Below w.heap.size w w' :=by
 have hE:Ext (cx0 w) (cxT w ts):=⟨rfl,rfl,rfl,Nat.le_refl _,fun _ _ _=>rfl,fun _ _ _ _=>rfl,fun _ cs _ fr h=>⟨cs,fr,h,rfl⟩,fun b o _ h=>(MX w ts b o h).elim,
  fun _ _ _ h=>aeC,fun _ _ _ h=>aeC,fun _ _ h=>aeC,fun _ _ _ h=>aeC⟩
 refine((hf (cxT w ts) vs (fun _ _ h=>h) (Vs w ts hd ht) hv fun i hi=>(hr i hi).mono hE).calls hc).mono ?_
 rintro e w' ⟨u,rfl,c',x,h',rfl,g',hE,hx,hs,rfl⟩
 rw[hx.bR];exact⟨rfl,hE.os,hE.tape,hE.output,hE.size,fun k hk=>hE.block k hk fun o=>MX w ts k o⟩
mutual
def strip:AV→AV
 |.sl xs _=> .sl (fX xs) .no
 |.agg xs=> .agg (fX xs)
 |.tup xs=> .tup (fX xs)
 |.v x=> .v x
 |.s l=> .s l
 |.pe x o=> .pe x o
 |.ptr i o=> .ptr i o
 |.oa i o l=> .oa i o l
 |.ifc t x=> .ifc t x
 |.fn f c=> .fn f c
 |.mp i=> .mp i
 |.ob i o l c s=> .ob i o l c s
def fX:List AV→List AV
 | []=>[]
 |x::r=>strip x::fX r
end
theorem fl:∀xs:List AV,(fX xs).length=xs.length
 | []=>rfl
 |x::r=>by simp[fX,fl r]
theorem gD:∀(xs:List AV) (i:Nat) (h1:i<xs.length) (h2:i<(fX xs).length),(fX xs)[i]=strip xs[i]
 |x::r,0,h1,h2=>adV
 |x::r,i+1,h1,h2=>by simpa[fX]using gD r i adL (by grind [fX])
theorem xe(x:AV):(strip x).cells=match x with|.agg xs=>fX xs|_=>[strip x]:=by
 cases x<;>simp[strip,AV.cells]
mutual
theorem fE:∀x:AV,Weak x (strip x)
 |.sl xs p=> .deep _ _ p (fl xs).symm (fun i h1 h2=>by
    rw[gD xs i h1 h2,xe];have:=og xs i h1;cases hx:xs[i]<;>simp[AV.cells,fl])
   (fun i h1 h2 j h3 h4=>by
    have hw:=og xs i h1;have e:=gD xs i h1 h2;exact hw (fX xs)[i] e j h3 h4)
 |.agg xs=> .agg _ _ (fl xs).symm fun i h1 h2=>age
 |.tup xs=> .tup _ _ (fl xs).symm fun i h1 h2=>age
 |.v x=> .refl _
 |.s l=> .refl _
 |.pe x o=> .refl _
 |.ptr i o=> .refl _
 |.oa i o l=> .refl _
 |.ifc t x=> .refl _
 |.fn f c=> .refl _
 |.mp i=> .refl _
 |.ob i o l c s=> .refl _
theorem lT:∀(xs:List AV) (i:Nat) (h:i<xs.length),Weak xs[i] (strip xs[i])
 |x::r,0,h=>fE x
 |x::r,i+1,h=>lT r i (by simpa using h)
theorem og:∀(xs:List AV) (i:Nat) (h:i<xs.length) (y:AV),y=strip xs[i]→∀(j:Nat) (h3:j<xs[i].cells.length) (h4:j<y.cells.length),Weak xs[i].cells[j] y.cells[j]
 |x::r,0,h,y,e,j,h3,h4=>Hl x y e j h3 h4
 |x::r,i+1,h,y,e,j,h3,h4=>og r i (by simpa using h) y e j h3 h4
theorem Hl:∀(x y:AV),y=strip x→∀(j:Nat) (h3:j<x.cells.length) (h4:j<y.cells.length),Weak x.cells[j] y.cells[j]
 |.agg xs,y,e,j,h3,h4=>by
  subst e;simp only[strip,AV.cells]at h4⊢;rw[gD xs j h3 h4];exact lT xs j h3
 |.sl xs p,y,e,j,h3,h4=>by
  subst e;simp only[strip,AV.cells,List.length_singleton]at h3 h4⊢;obtain rfl:j=0:=adK;exact .deep _ _ p (fl xs).symm (fun i h1 h2=>by
    rw[gD xs i h1 h2,xe];cases hx:xs[i]<;>simp[AV.cells,fl])
   (fun i h1 h2 j h3 h4=>og xs i h1 _ (gD xs i h1 h2) j h3 h4)
 |.tup xs,y,e,j,h3,h4=>by
  subst e;simp only[strip,AV.cells,List.length_singleton]at h3 h4⊢;obtain rfl:j=0:=adK;exact .tup _ _ (fl xs).symm fun i h1 h2=>age
 |.v x,y,e,j,h3,h4=>aeV
 |.s l,y,e,j,h3,h4=>aeV
 |.pe x o,y,e,j,h3,h4=>aeV
 |.ptr i o,y,e,j,h3,h4=>aeV
 |.oa i o l,y,e,j,h3,h4=>aeV
 |.ifc t x,y,e,j,h3,h4=>aeV
 |.fn f c,y,e,j,h3,h4=>aeV
 |.mp i,y,e,j,h3,h4=>aeV
 |.ob i o l c s,y,e,j,h3,h4=>aeV
end
section
variable {P : Program} {U : TypeId → TI} {n : Nat} {ρ : Env} {h0 h h' : Heap} {tb : TypeId} {y v : AV} {xs zs : List AV} {Q : AV → Heap → Prop} {f : FuncId} {args : List AV}
def One(xs:List AV):Prop:=∀x∈xs,bC x=false
theorem oK{x:AV}(h:bC x=false):x.cells= [x]:=by cases x<;>first|rfl|(cases h)
theorem One.sized(h:One xs):Sized 1 xs:=fun z hz=>by rw[oK (h z hz)];rfl
theorem One.map{α:Type}{g:α→AV}(hg:∀a,bC (g a)=false)(l:List α):One (l.map g):=fun x hx=>by
 grind
def Fw(tb:TypeId)(h:Heap)(y:AV)(xs:List AV):Prop:=
 (∃q,y= .sl xs q)∨∃id off cs,y= .oa id off xs.length∧h id=some (.obj cs tb)∧off+xs.length≤cs.length∧(cs.drop off).take xs.length=xs
theorem Fw.sl(xs:List AV)(q:Perm):Fw tb h (.sl xs q) xs:=.inl ⟨q,rfl⟩
theorem Fw.len(hb:Fw tb h y xs)(e:TypeId)(k:AV→Prop):xw y k (.slice e)=k (.i xs.length):=by
 exact aiQ
def AtP(U:TypeId→TI)(tb:TypeId)(h:Heap)(p x:AV):Prop:=∀k:AV→Prop,nV U h tb p k=k x
theorem Fw.idx(hb:Fw tb h y xs)(ho:One xs){m:Int}{x:IntKind}{K:AV→Prop}(j:Nat)(hm:m=j)(hj:j<xs.length)(hz:(U tb).sz=1)(ha:(U tb).k.agg=false)
  (hk:∀p,AtP U tb h p xs[j]→K p):pI U y (.v (.int x m)) K (.slice tb):=by
 subst hm;have h1:=ho xs[j] adR;rcases hb with⟨q,rfl⟩|⟨id,off,cs,rfl,g1,g2,g3⟩
 ·refine(vj ..).mpr ⟨adK,?_⟩
  refine fo.at j hj (by grind [oK]) ?_
  refine hk _ fun k=>?_
  simp_all [nV,Ln,oK,List.length_cons,List.length_nil,Nat.zero_add,and_self,if_true]
 ·refine(Be ..).mpr ⟨adK,adK,adK,?_⟩
  refine hk _ fun k=>?_
  have e1:cs[off+j]? =some xs[j]:=by
   grind
  simp only[nV,g1,dF,CD,hz,Nat.mul_one,Int.toNat_natCast,Eu,ha,Br,e1];simp
def WrA(tb:TypeId)(h0 h:Heap)(y:AV)(xs:List AV):Prop:=
 Sub h0 h∧((xs= []∧y= .sl [] .full)∨∃id cs,h0 id=none∧y= .oa id 0 xs.length∧h id=some (.obj cs tb)∧xs.length≤cs.length∧cs.take xs.length=xs)
theorem WrA.nil(hs:Sub h0 h):WrA tb h0 h (.sl [] .full) []:=⟨hs,.inl ⟨rfl,rfl⟩⟩
theorem WrA.seq(hw:WrA tb h0 h y xs):Fw tb h y xs:=by
 obtain⟨_,⟨rfl,rfl⟩|⟨id,cs,_,rfl,h1,h2,h3⟩⟩:=hw
 ·exact agp
 ·exact .inr ⟨id,0,cs,rfl,h1,adK,adL⟩
theorem WrA.sub(hw:WrA tb h0 h y xs)(hs:Sub h h'):WrA tb h0 h' y xs:=by
 obtain⟨h1,hw|⟨id,cs,a,e,b,c,d⟩⟩:=hw
 ·exact⟨h1.trans hs,.inl hw⟩
 ·exact⟨h1.trans hs,.inr ⟨id,cs,a,e,hs _ _ b,c,d⟩⟩
theorem WrA.base(hw:WrA tb h0 h y xs){id:Nat}(hid:h id=none)(b:Option Blk):WrA tb (upd h0 id b) (upd h id b) y xs:=by
 obtain⟨h1,hw⟩:=hw;have h2:Sub (upd h0 id b) (upd h id b):=fun j k hj=>by
  by_cases e:j=id
  ·grind [ah]
  ·rw[ag _ _ e]at hj⊢;exact h1 _ _ hj
 rcases hw with hw|⟨i,cs,a,e,c,d⟩
 ·exact⟨h2,.inl hw⟩
 ·have hne:i≠id:=fun hh=>by subst hh;rw[hid]at c;cases c
  exact⟨h2,.inr ⟨i,cs,ael,e,ael,d⟩⟩
theorem WrA.less(hw:WrA tb h' h y xs)(hs:Sub h0 h'):WrA tb h0 h y xs:=by
 obtain⟨h1,hw|⟨i,cs,a,e,c,d⟩⟩:=hw
 ·exact⟨hs.trans h1,.inl hw⟩
 ·exact⟨hs.trans h1,.inr ⟨i,cs,hs.none a,e,c,d⟩⟩
theorem WrA.len(hw:WrA tb h0 h y xs)(e:TypeId)(k:AV→Prop):xw y k (.slice e)=k (.i xs.length):=hw.seq.len e k
theorem WrA.idx(hb:WrA tb h0 h y xs)(ho:One xs){m:Int}{x:IntKind}{K:AV→Prop}(j:Nat)(hm:m=j)(hj:j<xs.length)(hz:(U tb).sz=1)(ha:(U tb).k.agg=false)
  (hk:∀p,AtP U tb h p xs[j]→K p):pI U y (.v (.int x m)) K (.slice tb):=hb.seq.idx ho j hm hj hz ha hk
theorem WrA.cut(hw:WrA tb h0 h y xs){hi:Operand}{m:Int}{x:IntKind}{K:AV→Prop}(j:Nat)(hm:ev ρ hi=some (.v (.int x m)))(hj:m=j)(hl:j≤xs.length)(hz:(U tb).sz=1)
  (hk:∀z,WrA tb h0 h z (xs.take j)→K z):gU U ρ y none (some hi) none K (.slice tb):=by
 subst hj;have hs:=hw.1;obtain⟨_,⟨rfl,rfl⟩|⟨id,cs,h1,rfl,h2,h3,h4⟩⟩:=hw
 ·rw[rz,fM,hm]
  refine⟨adK,?_⟩;have:j=0:=adL;subst this;refine⟨adK,adR,?_⟩;exact hk _ (.nil hs)
 ·rw[rW]
  refine⟨adK,fun _=>hz,?_⟩
  simp only[mJ,fM,hm,dF,nR];refine⟨adK,adK,adK,?_⟩;have e:(xs.take j).length=j:=adL;have:=hk (.oa id 0 (xs.take j).length) ⟨hs,.inr ⟨id,cs,h1,rfl,h2,adK,adL⟩⟩;rw[e]at this;simpa using this
theorem WrA.app(hw:WrA tb h0 h y xs)(ho:One xs)(hoz:One zs)(hz:(U tb).sz=1)(hb:(U tb).bytes≠0)(hf:fit (U tb).zero 1)(hn:bC (U tb).zero=false)(hsrc:∀k:List AV→Prop,k zs→iL U tb h v k)
  (hlen:(xs.length+zs.length)*(U tb).bytes≤140737488355328) (hk:∀y' h',WrA tb h0 h' y' (xs++zs)→Q y' h'):apK U h y v Q (.slice tb):=by
 have hs:=hw.1;have one:Sized (U tb).sz zs:=by rw[hz];exact hoz.sized
 obtain⟨_,⟨rfl,rfl⟩|⟨id,cs,h1,rfl,h2,h3,h4⟩⟩:=hw
 ·refine(qA ..).mpr ⟨adK,hb,hsrc _ ⟨by simp[Sized],one,adK,fun hn' =>?_,fun hn' =>?_⟩⟩
  ·subst hn'
   exact hk _ _ (.nil hs)
  ·refine .oa hz hf hn hoz fun id k hid=>?_
   refine hk _ _ ⟨hs.new hid _,.inr ⟨id,_,hs.none hid,?_,ah ..,?_,?_⟩⟩
   ·simp
   ·simp
   ·simp
 ·refine⟨adK,hb,hz,hsrc _ ⟨adL,hoz,adK,?_⟩⟩
  rw[h2];refine⟨adK,?_,hf,hn,fun hle=>?_,fun id' k hid=>?_⟩
  ·rw[List.drop_zero,h4];exact ho
  ·have hsub:Sub h0 (upd h id (some (.obj (over cs (0+xs.length) zs) tb))):=fun j b hj=>by
    by_cases e:j=id
    ·grind
    ·rw[ag _ _ e];exact hs _ _ hj
   have ho' :(over cs (0+xs.length) zs).length=cs.length:=iH adK;refine hk _ _ ⟨hsub,.inr ⟨id,_,h1,adR,ah ..,adL,?_⟩⟩;rw[over,Nat.zero_add,h4,adE,List.take_append_of_le_length adR]
   grind
  ·refine hk _ _ ⟨hs.new hid _,.inr ⟨id',_,hs.none hid,adR,ah ..,?_,?_⟩⟩
   ·grind
   grind
end
end Go.Ab
namespace Go.Bf
open Go Go.Ab
abbrev Txt:=List UInt8
structure qu where
 cat:Int
 name:Txt
 must:Bool
structure bt where
 kind:Int
 n:Int
 s:Txt
structure bQ where
 attr:qu
 op:Int
 val:bt
structure aQ where
 op:Int
 val:bt
 attr:qu
structure cC where
 on:Int
 kind:Int
 arg:Txt
abbrev gj:=List (List (List bQ))
structure cR where
 id:Txt
 deny:Bool
 tgt:gj
 cond:List aQ
 obls:List cC
inductive bJ where
 |mk (id:Txt) (set:Bool) (alg:Int) (tgt:gj) (rules:List cR) (kids:List bJ) (obls:List cC)
def C9(a:qu):AV:=.agg [.i a.cat,.s a.name,.b a.must]
def aP(v:bt):AV:=.agg [.i v.kind,.i v.n,.s v.s]
def dM(m:bQ):AV:=.agg [.i m.attr.cat,.s m.attr.name,.b m.attr.must,.i m.op,.i m.val.kind,.i m.val.n,.s m.val.s]
def dI(m:aQ):AV:=.agg [.i m.op,.i m.val.kind,.i m.val.n,.s m.val.s,.i m.attr.cat,.s m.attr.name,.b m.attr.must]
def jU(b:Bool):AV:=.b b
def bu(o:cC):AV:=.agg [.i o.on,.i o.kind,.s o.arg]
def jb(l:List bQ):AV:=.sl (l.map dM) .no
def cU(l:List (List bQ)):AV:=.sl (l.map jb) .no
def aV(t:gj):AV:=.sl (t.map cU) .no
def fy(l:List aQ):AV:=.sl (l.map dI) .no
def aA(l:List cC):AV:=.sl (l.map bu) .no
def aC(r:cR):AV:=.agg [.s r.id,.b r.deny,aV r.tgt,fy r.cond,aA r.obls]
mutual
def aM:bJ→AV
 |.mk id set alg tgt rules kids obls=> .agg [.s id,.b set,.i alg,aV tgt,.sl (rules.map aC) .no,.sl (fH kids) .no,aA obls]
def fH:List bJ→List AV
 | []=>[]
 |k::r=>aM k::fH r
end
theorem aY:∀l:List bJ,fH l=l.map aM
 | []=>rfl
 |k::r=>by simp[fH,aY r]
def ltr(c:UInt8):Bool:=decide (97≤(c.toNat:Int)) && decide ((c.toNat:Int)≤122)
def dgt(c:UInt8):Bool:=decide (48≤(c.toNat:Int)) && decide ((c.toNat:Int)≤57)
def qG(c:UInt8)(i:Nat):Bool:=ltr c||(decide (i≠0) && (dgt c||(c.toNat:Int)==95))
def tF(l:Txt):Bool:=l.zipIdx.all fun p=>qG p.1 p.2
def aX(l:Txt):Bool:=tF l && decide (1≤l.length) && decide (l.length≤16)
def qC(a:qu):Bool:=decide (1≤a.cat) && decide (a.cat≤4) && aX a.name
def br(v:bt):Bool:=
 if v.kind=1 then(v.n==0||v.n==1) && v.s== []
 else if v.kind=2 then v.s== []
 else if v.kind=3 then v.n==0 && decide (v.s.length≤64)
 else if v.kind=4 then decide (0≤v.n) && decide (v.n≤1099511627776) && v.s== []
 else if v.kind=5 then v.n==0 && aX v.s
 else false
def kU(m:bQ):Bool:=qC m.attr && decide (1≤m.op) && decide (m.op≤3) && br m.val
def ku(n:Nat):Int:=if n=0 then 1 else if n>8 then 6 else 0
def iD{α:Type}(f:α→Int):List α→Int
 | []=>0
 |x::r=>if f x=0 then iD f r else f x
def xo(l:List bQ):Int:=if ku l.length=0 then(if l.all kU then 0 else 1)else ku l.length
def xp(l:List (List bQ)):Int:=if ku l.length=0 then iD xo l else ku l.length
def lP(t:gj):Int:=if t.length>8 then 6 else iD xp t
def iN(op:Int):Option (List Bool):=
 if op=1∨op=2 then some []
 else if op=3∨op=4 then some [true]
 else if op=5 then some [true,false]
 else if op=11 then some [false]
 else if 6≤op∧op≤13 then some [false,false]
 else none
def zeroV(v:bt):Bool:=v.kind==0 && (v.n==0 && v.s== [])
def zeroAt(a:qu):Bool:=a.cat==0 && (a.name== [] && a.must==false)
def jV(n:aQ):Bool:=
 if n.op=1 then br n.val && zeroAt n.attr
 else if n.op=2 then qC n.attr && zeroV n.val
 else zeroV n.val && zeroAt n.attr
def iM(st:List Bool)(n:aQ):Option (List Bool):=match iN n.op with
 |none=>none
 |some w=>if jV n=true∧w.length≤st.length∧st.drop (st.length - w.length)=w then some (st.take (st.length - w.length)++ [n.op==2])else none
def fW(st:List Bool):List aQ→Option (List Bool)
 | []=>some st
 |n::r=>match iM st n with
  |none=>none
  |some st' =>fW st' r
def kr(l:List aQ):Int:=if l.length>32 then 6 else match fW [] l with
 |none=>1
 |some st=>if l= []∨st= [false]then 0 else 1
def qX(o:cC):Bool:=decide (1≤o.on) && decide (o.on≤2) && decide (1≤o.kind) && decide (o.kind≤4) && aX o.arg
def iE(l:List cC):Int:=if l.length>8 then 6 else if l.all qX then 0 else 1
structure eu where
 met:List Txt
 rules:Nat
inductive Went where
 |bad (e:Int)
 |ok (m:eu)
def jr(m:eu)(s:Txt):Option eu:=if s∉m.met∧aX s=true then some ⟨m.met++ [s],m.rules⟩else none
def Went.err:Went→Int
 |.bad e=>e
 |.ok _=>0
def need(e:Int)(w:Went):Went:=if e=0 then w else .bad e
def gw(m:eu)(r:cR):Went:=match jr m r.id with
 |none=> .bad 1
 |some m=>if m.rules+1>64 then .bad 6 else need (lP r.tgt) (need (kr r.cond) (need (iE r.obls) (.ok ⟨m.met,m.rules+1⟩)))
def fC(m:eu):List cR→Went
 | []=> .ok m
 |r::l=>match gw m r with
  |.bad e=> .bad e
  |.ok m=>fC m l
def fk(m:eu)(id:Txt)(set:Bool)(alg:Int)(tgt:gj)(nr nk:Nat)(obls:List cC):Went:=match jr m id with
 |none=> .bad 1
 |some m=>if alg<1∨alg>6 then .bad 1
  else if set=true∧nr>0∨set=false∧(nk>0∨alg=4)then .bad 1
  else need (lP tgt) (need (iE obls) (if nr>16∨nk>16 then .bad 6 else .ok m))
mutual
def kN(m:eu)(d:Nat):bJ→Went
 |.mk id set alg tgt rules kids obls=>
  if d>4 then .bad 6 else match fk m id set alg tgt rules.length kids.length obls with
  |.bad e=> .bad e
  |.ok m=>match fC m rules with
   |.bad e=> .bad e
   |.ok m=>iW m (d+1) kids
def iW(m:eu)(d:Nat):List bJ→Went
 | []=> .ok m
 |k::r=>match kN m d k with
  |.bad e=> .bad e
  |.ok m=>iW m d r
end
def gC(p:bJ):Int:=(kN ⟨[],0⟩ 1 p).err
def tW(n:Nat):UInt8:=if n<10 then UInt8.ofNat (48+n)else UInt8.ofNat (87+n)
def sS(c:UInt8):Bool:=decide ((c.toNat:Int)<32)||decide (126<(c.toNat:Int))||(c.toNat:Int)==34||(c.toNat:Int)==92
def gA(c:UInt8):Txt:=if sS c then [92,tW (c.toNat / 16),tW (c.toNat % 16)]else [c]
def iJ(l:Txt):Txt:=[34]++(l.map gA).flatten++ [34]
def jR(v:bt):Txt:=
 if v.kind=1 then Lib.formatBool (v.n==1)else if v.kind=4 then [64]++Lib.itoa v.n else if v.kind=5 then [35]++v.s else if v.kind=3 then iJ v.s else Lib.itoa v.n
end Go.Bf
namespace Go.Ab
open Go
def hm2(i:Nat)(a:Blk)(j:Nat)(b:Blk):Heap:=upd (hm1 i a) j (some b)
theorem Sub.hm2{h:Heap}{i j:Nat}{a b:Blk}(h1:h i=some a)(h2:h j=some b):Sub (hm2 i a j b) h:=fun k c hk=>by
 unfold Ab.hm2 at hk
 by_cases e:k=j
 ·grind [ah]
 ·rw[ag _ _ e]at hk;exact Sub.hm1 h1 k c hk
theorem rO(i:Nat)(a:Blk)(j:Nat)(b:Blk):hm2 i a j b j=some b:=ah ..
theorem rN{i:Nat}(a:Blk){j:Nat}(b:Blk)(h:i≠j):hm2 i a j b i=some a:=by
 simp_all [hm2,ag,gp]
theorem aH{h:Heap}{i j:Nat}{b:Blk}(e:upd h i (some b) j=none):j≠i:=fun hh=>by
 subst hh;rw[ah]at e;cases e
theorem Sub.put{h g:Heap}(hs:Sub h g){i:Nat}(hi:h i=Option.none)(x:Option Blk):Sub h (Ab.upd g i x):=fun k c hk=>by
 by_cases e:k=i
 ·grind
 ·rw[ag _ _ e];exact hs k c hk
theorem Sub.both{h g:Heap}(hs:Sub h g)(i:Nat)(x:Option Blk):Sub (Ab.upd h i x) (Ab.upd g i x):=fun k c hk=>by
 by_cases e:k=i
 ·grind [ah]
 ·rw[ag _ _ e]at hk⊢;exact hs k c hk
theorem Acc.put{U:TypeId→TI}{e:TypeId}{h h' :Heap}{y:AV}{xs:List AV}(ha:Acc U e h h' y xs){id:Nat}(hid:h id=Option.none){cs:List AV}{t:TypeId}(hob:h' id=some (.obj cs t))(x:Option Blk):Acc U e h (Ab.upd h' id x) y xs:=by
 obtain⟨h1,rfl|⟨k,i1,rfl,i2⟩⟩:=ha
 ·exact⟨h1.put hid x,.inl rfl⟩
 ·refine⟨h1.put hid x,.inr ⟨k,i1,rfl,?_⟩⟩
  grind [ag]
theorem base_start(G:Heap)(id:Nat)(x:Option Blk):Sub (upd G id Option.none) (upd G id x):=fun k c hk=>by
 grind [ah,ag]
theorem fu{G H:Heap}{id:Nat}{b:Blk}(hs:Sub (upd G id Option.none) H)(hb:H id=some b):Sub (upd G id (some b)) H:=fun k c hk=>by
 by_cases e:k=id
 ·grind [ah]
 ·rw[ag _ _ e]at hk;exact hs k c ael
theorem BV(xs:List AV)(q:Perm)(a b:AV):Weak (.tup [.sl xs q,a,b]) (.tup [.sl xs .no,a,b]):=.tup _ _ rfl fun i h1 h2=>by
 rcases i with _|_|_|i
 ·exact agp
 ·exact ae4
 ·exact ae4
 grind
theorem WP.Nu{P:Program}{U:TypeId→TI}{n:Nat}(hU:∀t,aO P U t)(hm:P.follows .mixedOrders=true){c rest:Code}{ρ:Env}{h:Heap}{K:Exit→Env→Heap→Prop}(l:Nat)(J:Nat→Env→Heap→Prop)(hf:findLabel c l=some (.seq .skip rest))
  (pass:∀m ρ h,J m ρ h→WP P n rest ρ h (KJump l (fun ρ' h' =>∃m',m' <m∧J m' ρ' h') K))
  (first:(∀m ρ h,J m ρ h→WP P n rest ρ h (KJump l (fun ρ h=>∃m,J m ρ h) K))→WP P n c ρ h (KJump l (fun ρ h=>∃m,J m ρ h) K)):WP P n (.scope c) ρ h K:=
 WP.scope l J hf (first fun m ρ h hJ=>(pass m ρ h hJ).weaken fun e ρ h hk=>by
  cases e with
  |goto l' =>obtain⟨h1,m',_,h2⟩:=hk;exact⟨h1,m',h2⟩
  |_=>exact hk) fun m ρ h hJ=>WP.seq (dJ hU hm .skip ρ h _ (pass m ρ h hJ))
end Go.Ab
namespace Go.Ab
attribute [go_sem] Int.natCast_zero Int.ofNat_zero Int.natCast_one Int.cast_ofNat_Int bne_self_eq_false beq_self_eq_true Bool.not_true Bool.not_false
attribute [go_sem] Nat.reduceLT Nat.reduceEqDiff Nat.reduceAdd Nat.reduceLeDiff Nat.reduceMul Nat.reduceSub Int.reduceBEq Int.reduceBNe
attribute [go_sem ↓] reduceIte
end Go.Ab
namespace Go.Proofs.YtfdgemhnlennbaaGreatDoor
open Go
def nu:List Value:=Lib.pow10Tab.map fun z=>Value.int .u64 z
end Go.Proofs.YtfdgemhnlennbaaGreatDoor
namespace Go.Proofs.YtfdgemhnlennbaaGreatDoor
open Go Go.Ab Go.Bf
abbrev tu(h:Heap):Prop:=Tab h 3 nu
theorem nS(n:Int)(h:Heap)(hn: -9223372036854775808≤n∧n≤9223372036854775807)(ht:tu h):ai Tryz.prog 136 [.i n] h fun r h' =>r= .s (Lib.itoa n)∧h' =h:=by
 refine .lib ⟨_,Tryz.func136,adV,rfl⟩ fun c vs hs g h1 h2=>?_
 obtain ⟨v,rfl⟩:∃v,vs= #[v]:=Array.size_eq_one_iff.1 h1;have e:v= .int .i64 n:=(h2 0 adR).bR;subst e;have hv := ht.var (P := Tryz.prog) (name := "internal/strconv.uint64pow10") adV hs g;refine (Tryz.strconv_Itoa n hn.1 hn.2 c.w (by unfold Lib.TabIs; rw [hv]; rfl)).mono ?_
 rintro e w' ⟨rfl,k,os,rfl⟩
 refine⟨⟨_,rfl,fun c' _=> .s _ ?_⟩,rfl,rfl,rfl,?_,fun k hk=>?_⟩
 ·grind [Lib.itoa_length_le,Nat,lim]
 ·simp
 ·show(_++os)[k]? =_
  simp_all [Array.getElem?_append,if_pos]
theorem L1(b:Bool)(h:Heap):ai Tryz.prog 135 [.b b] h fun r h' =>r= .s (Lib.formatBool b)∧h' =h:=by
 refine .lib ⟨_,Tryz.func135,adV,rfl⟩ fun c vs hs g h1 h2=>?_
 obtain⟨v,rfl⟩:∃v,vs= #[v]:=Array.size_eq_one_iff.1 h1;have e:v= .bool b:=(h2 0 adR).bR;subst e;refine(Tryz.strconv_FormatBool b c.w).mono ?_
 rintro e w' ⟨rfl,rfl⟩
 exact⟨⟨_,rfl,fun c' _=> .s _ (by cases b<;>decide)⟩,.refl _ _⟩
end Go.Proofs.YtfdgemhnlennbaaGreatDoor
namespace Go.Bf
open Go Go.Ab
theorem vV{α:Type}(l:List α)(i:Nat)(h:i<l.length):(l.take (i+1)).zipIdx=(l.take i).zipIdx++ [(l[i],i)]:=by
 grind [List.take_succ_eq_append_getElem,Nat.min_eq_left,Nat.le_of_lt]
theorem FF(l:Txt)(i:Nat)(h:i<l.length):tF (l.take (i+1))=(tF (l.take i) && qG l[i] i):=by
 grind [tF,vV]
theorem I9(l:Txt)(i:Nat)(h:i<l.length)(hb:qG l[i] i=false):tF l=false:=by
 rw[tF,List.all_eq_false];exact⟨(l[i],i),adL,adL⟩
theorem Oy(c:UInt8):
  (decide (97≤(c.toNat:Int))=true∧decide ((c.toNat:Int)≤122)=true∧decide (48≤(c.toNat:Int))=true∧decide ((c.toNat:Int)≤57)=false∧((c.toNat:Int)==95)=false)∨
  (decide (97≤(c.toNat:Int))=false∧decide ((c.toNat:Int)≤122)=true∧decide (48≤(c.toNat:Int))=true∧decide ((c.toNat:Int)≤57)=true∧((c.toNat:Int)==95)=false)∨
  (decide (97≤(c.toNat:Int))=false∧decide ((c.toNat:Int)≤122)=true∧decide (48≤(c.toNat:Int))=true∧decide ((c.toNat:Int)≤57)=false∧((c.toNat:Int)==95)=true)∨
  (decide (97≤(c.toNat:Int))=false∧decide ((c.toNat:Int)≤122)=true∧decide (48≤(c.toNat:Int))=false∧decide ((c.toNat:Int)≤57)=true∧((c.toNat:Int)==95)=false)∨
  (decide (97≤(c.toNat:Int))=false∧decide ((c.toNat:Int)≤122)=true∧decide (48≤(c.toNat:Int))=true∧decide ((c.toNat:Int)≤57)=false∧((c.toNat:Int)==95)=false)∨
  (decide (97≤(c.toNat:Int))=true∧decide ((c.toNat:Int)≤122)=false∧decide (48≤(c.toNat:Int))=true∧decide ((c.toNat:Int)≤57)=false∧((c.toNat:Int)==95)=false):=by
 simp only[decide_eq_true_eq,decide_eq_false_iff_not,beq_iff_eq,beq_eq_false_iff_ne,ne_eq];omega
theorem wz{α:Type}{f:α→Int}{l:List α}{i:Nat}(h:i<l.length)(h0:iD f (l.take i)=0)(h1:f l[i]=0):iD f (l.take (i+1))=0:=by
 rw[List.take_succ_eq_append_getElem h];generalize l.take i=a at h0
 induction a with
 |nil=>grind [iD]
 |cons x r ih=>
  simp only[iD]at h0;split at h0
  ·simp_all [List.cons_append,iD,if_true]
  omega
theorem A8{α:Type}{f:α→Int}{l:List α}{i:Nat}(h:i<l.length)(h0:iD f (l.take i)=0)(h1:f l[i]≠0):iD f l=f l[i]:=by
 induction l generalizing i with
 |nil=>cases h
 |cons x r ih=>
  cases i with
  |zero=>grind [iD]
  |succ i=>
   simp only[List.take_succ_cons,iD]at h0;split at h0
   ·rename_i hx
    simp only[iD,hx,if_true,List.getElem_cons_succ]
    grind
   omega
theorem Eg{e x:Int}{w:Went}(h:need e w= .bad x)(hw:w= .bad x→x≠0):x≠0:=by
 grind [need]
theorem BI{m:eu}{r:cR}{e:Int}(h:gw m r= .bad e):e≠0:=by
 grind [gw,Eg]
theorem Bc{m:eu}{id:Txt}{set:Bool}{alg:Int}{tgt:gj}{nr nk:Nat}{obls:List cC}{e:Int}(h:fk m id set alg tgt nr nk obls= .bad e):e≠0:=by
 grind [fk,Eg]
theorem pX(m:eu):∀(l:List cR) (i:Nat),fC m l=(match fC m (l.take i)with
  |.bad e=> .bad e
  |.ok m1=>fC m1 (l.drop i))
 | [],i=>by simp[fC]
 |r::l,0=>adV
 |r::l,i+1=>by
  simp only[List.take_succ_cons,List.drop_succ_cons,fC];cases gw m r with
  |bad e=>rfl
  |ok m1=>simp only;exact pX m1 l i
theorem wY{m m1:eu}{l:List cR}{i:Nat}(hi:i<l.length)(h:fC m (l.take i)= .ok m1):fC m (l.take (i+1))=gw m1 l[i]:=by
 rw[pX m _ i,List.take_take,Nat.min_eq_left adK,h,List.take_succ_eq_append_getElem hi,List.drop_append_of_le_length adL,List.drop_of_length_le adL]
 grind [fC,gw]
theorem ES{m m1:eu}{l:List cR}{i:Nat}{e:Int}(hi:i<l.length)(h:fC m (l.take i)= .ok m1)(hr:gw m1 l[i]= .bad e):fC m l= .bad e:=by
 rw[pX m l (i+1),wY hi h,hr]
theorem qU(m:eu)(d:Nat):∀(l:List bJ) (i:Nat),iW m d l=(match iW m d (l.take i)with
  |.bad e=> .bad e
  |.ok m1=>iW m1 d (l.drop i))
 | [],i=>by simp[iW]
 |r::l,0=>adV
 |r::l,i+1=>by
  simp only[List.take_succ_cons,List.drop_succ_cons,iW];cases kN m d r with
  |bad e=>rfl
  |ok m1=>simp only;exact qU m1 d l i
theorem yO{m m1:eu}{d:Nat}{l:List bJ}{i:Nat}(hi:i<l.length)(h:iW m d (l.take i)= .ok m1):iW m d (l.take (i+1))=kN m1 d l[i]:=by
 rw[qU m d _ i,List.take_take,Nat.min_eq_left adK,h,List.take_succ_eq_append_getElem hi,List.drop_append_of_le_length adL,List.drop_of_length_le adL]
 grind [iW,kN]
theorem Gl{m m1:eu}{d:Nat}{l:List bJ}{i:Nat}{e:Int}(hi:i<l.length)(h:iW m d (l.take i)= .ok m1)(hr:kN m1 d l[i]= .bad e):iW m d l= .bad e:=by
 rw[qU m d l (i+1),yO hi h,hr]
end Go.Bf
namespace Go.Proofs.YtfdgemhnlennbaaGreatDoor
open Go Go.Ab Go.Bf
theorem adJ {f:FuncId} {fn:Func} {c:Code} {args:List AV} {h:Heap} {Q:AV→Heap→Prop} (hf:Tryz.prog.funcs[f]? =some fn) (m:Nat) (rs:List ResultVar) (hk:(∀x∈args,wfA x)→bH Tryz.prog U m c (yt args) h (vZ U rs Q)) (hb:fn.body=some c:=by exact rfl) (hn:(fn.name=="runtime.NumGoroutine")=false:=by kernel_rfl) (h1:fn.ntmps=m:=by exact rfl) (h2:fn.results.toList=rs:=by exact rfl) (hl:args.length≤m:=by exact Nat.le_of_ble_eq_true rfl):ai Tryz.prog f args h Q:=ai.body hU hm hf hb hn m h1 rs h2 hl hk
theorem pM(l:Txt)(h:Heap):ai Tryz.prog 72 [.s l] h fun r h' =>r= .b (aX l)∧h' =h:=by
 refine adJ Tryz.func72 49 [.tmp 2] fun hwf=>?_
 simp only[go_sem];refine .intro (fun m ρ h' =>h' =h∧∃i:Nat,i≤l.length∧m=l.length - i∧tF (l.take i)=true∧lk ρ 0=some (.s l)∧lk ρ 8=some (.i l.length)∧lk ρ 9=some (.i i)) l.length ?_ ?_
 ·refine⟨rfl,0,adK,rfl,rfl,?_,?_,?_⟩<;>simp only[go_sem]
 ·rintro m ρ h' ⟨rfl,i,hi,rfl,hc,r0,r8,r9⟩
  simp only[go_sem,r8,r9];refine .intro (fun e=>?_) (fun e=>?_)
  ·have hlt:i<l.length:=adH e
   have w1:IntKind.i64.wrap ((i:Int)+1)=((i+1:Nat):Int):=by rw[bh _ (by have:=hwf (.s l) adR;simp only[wfA,wf1,lim]at this;omega)];omega
   have w0:IntKind.i64.wrap (0+1)=1:=rfl;have hb:=I9 l i hlt;have hg:=FF l i hlt;rw[hc]at hg;have hcl:=Oy l[i];have h255:=l[i].toNat_lt;simp only[go_sem,r0,r9];refine .at i hlt ?_;generalize hcc:l[i]=c at hb hg hcl h255⊢
   by_cases hi0:i=0
   ·subst hi0
    rcases hcl with⟨a1,a2,a3,a4,a5⟩|⟨a1,a2,a3,a4,a5⟩|⟨a1,a2,a3,a4,a5⟩|⟨a1,a2,a3,a4,a5⟩|⟨a1,a2,a3,a4,a5⟩|⟨a1,a2,a3,a4,a5⟩
    ·simp only[go_sem,r9,a1,a2,a3,a4,a5,w0]
     refine⟨_,?_,rfl,0+1,adK,rfl,by simp[hg,qG,ltr,a1,a2],?_,?_,?_⟩
     ·omega
     all_goals simp only[go_sem,r0,r8]
    all_goals
     simp only[go_sem,a1,a2,a3,a4,a5];exact .same (.refl _) ⟨by simp[aX,hb (by simp[qG,ltr,a1,a2]),ax],rfl⟩
   ·have hin:((i:Int)==0)=false:=by simp;omega
    rcases hcl with⟨a1,a2,a3,a4,a5⟩|⟨a1,a2,a3,a4,a5⟩|⟨a1,a2,a3,a4,a5⟩|⟨a1,a2,a3,a4,a5⟩|⟨a1,a2,a3,a4,a5⟩|⟨a1,a2,a3,a4,a5⟩
    ·simp only[go_sem,r9,a1,a2,a3,a4,a5,w1]
     exact aiw
    ·simp only[go_sem,r9,a1,a3,a4,w1,hin]
     exact aiw
    ·simp only[go_sem,r9,a1,a3,a4,a5,w1,hin]
     exact aiw
    ·simp only[go_sem,a1,a3,a5,hin]
     exact .same (.refl _) ⟨afp,rfl⟩
    ·simp only[go_sem,a1,a3,a4,a5,hin]
     exact .same (.refl _) ⟨afp,rfl⟩
    ·simp only[go_sem,a1,a2,a3,a4,a5,hin]
     exact .same (.refl _) ⟨afp,rfl⟩
  ·have hge:i=l.length:=by have:=adD e;omega
   subst hge;rw[List.take_length]at hc
   by_cases h0:l= []
   ·subst h0
    have b0:((([]:Txt)== [])=true):=rfl;simp only[go_sem,r0,b0];exact adT
   ·have b0:(l== [])=false:=by simpa using h0
    have hp:1≤l.length:=List.length_pos_iff.2 h0;simp only[go_sem,r0,b0];exact .same (.refl _) ⟨by simp[aX,hc,ax,hp];omega,rfl⟩
theorem Hy(a:qu)(h:Heap):ai Tryz.prog 313 [C9 a] h fun r h' =>r= .b (qC a)∧h' =h:=by
 refine adJ Tryz.func313 16 [.tmp 2] fun hwf=>?_
 simp only[go_sem,C9];intro id hid;cases d1:decide (1≤a.cat)
 ·simp only[go_sem,d1]
  exact ajb
 cases d2:decide (a.cat≤4)
 ·simp only[go_sem,d1,d2]
  exact ajb
 simp only[go_sem,d1,d2];refine(pM _ _).pthen ?_;simp only[go_sem];exact ajb
theorem fU(v:bt)(h:Heap):ai Tryz.prog 75 [aP v] h fun r h' =>r= .b (br v)∧h' =h:=by
 refine adJ Tryz.func75 61 [.tmp 2] fun hwf=>?_
 simp only[go_sem,aP];intro id hid;cases k1:(v.kind==1)
 case true=>
  have e1:v.kind=1:=adL;cases d1:(v.n==0)<;>cases d2:(v.n==1)
  ·simp only[go_sem,k1,d1,d2]
   exact .mk _ (.refl _) (.aj hid) ⟨ag7,rfl⟩
  all_goals
   simp only[go_sem,k1,d1,d2];exact .mk _ (.refl _) (.aj hid) ⟨ag7,rfl⟩
 have n1:v.kind≠1:=adL;cases k2:(v.kind==2)
 case true=>
  have e1:v.kind=2:=adL;simp only[go_sem,k1,k2];exact .mk _ (.refl _) (.aj hid) ⟨ag7,rfl⟩
 have n2:v.kind≠2:=adL;cases k3:(v.kind==3)
 case true=>
  have e1:v.kind=3:=adL;cases d1:(v.n==0)
  all_goals
   simp only[go_sem,k1,k2,k3,d1];exact .mk _ (.refl _) (.aj hid) ⟨by simp[br,e1,d1,ax]<;>omega,rfl⟩
 have n3:v.kind≠3:=adL;cases k4:(v.kind==4)
 case true=>
  have e1:v.kind=4:=adL;cases d1:decide (0≤v.n)<;>cases d2:decide (v.n≤1099511627776)
  all_goals
   simp only[go_sem,k1,k2,k3,k4,d1,d2];exact .mk _ (.refl _) (.aj hid) ⟨ag7,rfl⟩
 have n4:v.kind≠4:=adL;cases k5:(v.kind==5)
 case true=>
  have e1:v.kind=5:=adL;cases d1:(v.n==0)
  ·simp only[go_sem,k1,k2,k3,k4,k5,d1]
   exact .mk _ (.refl _) (.aj hid) ⟨ag7,rfl⟩
  ·simp only[go_sem,k1,k2,k3,k4,k5,d1]
   refine(pM _ _).pthen ?_;simp only[go_sem];exact .mk _ (.refl _) (.aj hid) ⟨ag7,rfl⟩
 have n5:v.kind≠5:=adL;simp only[go_sem,k1,k2,k3,k4,k5];exact .mk _ (.refl _) (.aj hid) ⟨ag7,rfl⟩
theorem MD(m:bQ)(h:Heap):ai Tryz.prog 312 [dM m] h fun r h' =>r= .b (kU m)∧h' =h:=by
 refine adJ Tryz.func312 21 [.tmp 2] fun hwf=>?_
 simp only[go_sem,dM];intro id hid;simp only[go_sem];refine(Hy m.attr _).pthen ?_;cases d0:qC m.attr
 ·simp only[go_sem]
  exact aiI
 cases d1:decide (1≤m.op)
 ·simp only[go_sem,d1]
  exact aiI
 cases d2:decide (m.op≤3)
 ·simp only[go_sem,d1,d2]
  exact aiI
 simp only[go_sem,d1,d2];refine(fU m.val _).pthen ?_;simp only[go_sem];exact aiI
theorem Ib(n:Nat)(h:Heap):ai Tryz.prog 294 [.i n] h fun r h' =>r= .i (ku n)∧h' =h:=by
 refine adJ Tryz.func294 9 [.tmp 2] fun hwf=>?_
 cases d1:((n:Int)==0)
 case true=>
  simp only[go_sem,d1];exact .same (.refl _) ⟨by grind [ku,ax],rfl⟩
 cases d2:decide (8<(n:Int))
 ·have e2:¬n>8:=by grind
  exact aju
 ·have e2:n>8:=by grind
  exact aju
theorem Ec{n:Nat}(h:ku n=0):1≤n∧n≤8:=by
 grind [ku]
theorem Lj(l:List bQ)(h:Heap):ai Tryz.prog 295 [jb l] h fun r h' =>r= .i (xo l)∧h' =h:=by
 refine adJ Tryz.func295 22 [.tmp 2] fun hwf=>?_
 simp only[go_sem,jb,adA];refine(Ib _ _).pthen ?_;cases d1:(ku l.length !=0)
 case true=>
  have e1:ku l.length≠0:=adL;simp only[go_sem,d1];exact .same (.refl _) ⟨by grind [xo,ax],rfl⟩
 have e1:ku l.length=0:=adL;have hlen:=Ec e1;simp only[go_sem,d1,adA];refine .intro (fun m ρ h' =>Ab.Sub h h'∧∃i:Nat,i≤l.length∧m=l.length - i∧(l.take i).all kU=true∧lk ρ 12=some (jb l)∧lk ρ 13=some (.i l.length)∧lk ρ 14=some (.i i)) l.length ?_ ?_
 ·refine⟨.refl _,0,adK,rfl,rfl,?_,?_,?_⟩<;>simp only[go_sem,jb]
 ·rintro m ρ h' ⟨hs,i,hi,rfl,hc,r12,r13,r14⟩
  simp only[go_sem,r13,r14];refine .intro (fun e=>?_) (fun e=>?_)
  ·have hlt:i<l.length:=adH e
   have w1:IntKind.i64.wrap ((i:Int)+1)=((i+1:Nat):Int):=adY;simp only[go_sem,r12,r14,jb];refine .at i adL ad0 ?_;simp only[go_sem,adB,dM];intro id hid;simp only[go_sem];refine(MD l[i] _).pthen ?_;cases d2:kU l[i]
   ·simp only[go_sem]
    refine .mk _ (.refl _) (hs.new hid _) ⟨?_,rfl⟩;have:l.all kU=false:=List.all_eq_false.2 ⟨_,adF hlt,adL⟩;simp[xo,e1,this,ax]
   ·simp only[go_sem,r14,w1]
    refine⟨_,?_,hs.new hid _,i+1,adK,rfl,?_,?_,?_,?_⟩
    ·omega
    ·grind [List.take_succ_eq_append_getElem]
    all_goals simp only[go_sem,r12,r13,jb]
  ·have hge:i=l.length:=by grind
   subst hge;rw[List.take_length]at hc;simp only[go_sem];exact .mk _ (.refl _) hs ⟨by grind [xo,ax],rfl⟩
theorem Ll(l:List (List bQ))(h:Heap):ai Tryz.prog 268 [cU l] h fun r h' =>r= .i (xp l)∧h' =h:=by
 refine adJ Tryz.func268 25 [.tmp 2] fun hwf=>?_
 simp only[go_sem,cU,adA];refine(Ib _ _).pthen ?_;cases d1:(ku l.length !=0)
 case true=>
  have e1:ku l.length≠0:=adL;simp only[go_sem,d1];exact .same (.refl _) ⟨by grind [xp,ax],rfl⟩
 have e1:ku l.length=0:=adL;have hlen:=Ec e1;simp only[go_sem,d1,adA];refine .intro (fun m ρ h' =>Ab.Sub h h'∧∃i:Nat,i≤l.length∧m=l.length - i∧iD xo (l.take i)=0∧lk ρ 13=some (cU l)∧lk ρ 14=some (.i l.length)∧lk ρ 15=some (.i i)) l.length ?_ ?_
 ·refine⟨.refl _,0,adK,rfl,rfl,?_,?_,?_⟩<;>simp only[go_sem,cU]
 ·rintro m ρ h' ⟨hs,i,hi,rfl,hc,r12,r13,r14⟩
  simp only[go_sem,r13,r14];refine .intro (fun e=>?_) (fun e=>?_)
  ·have hlt:i<l.length:=adH e
   have w1:IntKind.i64.wrap ((i:Int)+1)=((i+1:Nat):Int):=adY;simp only[go_sem,r12,r14,cU];refine .at i adL ad0 ?_;simp only[go_sem,adB,jb];refine(Lj l[i] _).pthen ?_;cases d2:(xo l[i] !=0)
   ·have e2:xo l[i]=0:=by grind
    simp only[go_sem,r14,d2,w1];refine⟨_,?_,hs,i+1,adK,rfl,wz hlt hc e2,?_,?_,?_⟩
    ·omega
    all_goals simp only[go_sem,r12,r13,cU]
   ·have e2:xo l[i]≠0:=by grind
    simp only[go_sem,d2];refine .mk _ (.refl _) hs ⟨?_,rfl⟩
    grind [xp,A8,ax]
  ·have hge:i=l.length:=by grind
   subst hge;rw[List.take_length]at hc;simp only[go_sem];exact .mk _ (.refl _) hs ⟨by grind [xp,ax],rfl⟩
theorem vN(l:gj)(h:Heap):ai Tryz.prog 238 [aV l] h fun r h' =>r= .i (lP l)∧h' =h:=by
 refine adJ Tryz.func238 21 [.tmp 2] fun hwf=>?_
 cases d1:decide (8<(l.length:Int))
 case true=>
  have e1:8<l.length:=adL;simp only[go_sem,aV,adA,d1];exact .same (.refl _) ⟨by grind [lP,ax],rfl⟩
 have e1:¬8<l.length:=adL;simp only[go_sem,d1,aV,adA];refine .intro (fun m ρ h' =>Ab.Sub h h'∧∃i:Nat,i≤l.length∧m=l.length - i∧iD xp (l.take i)=0∧lk ρ 9=some (aV l)∧lk ρ 10=some (.i l.length)∧lk ρ 11=some (.i i)) l.length ?_ ?_
 ·refine⟨.refl _,0,adK,rfl,rfl,?_,?_,?_⟩<;>simp only[go_sem,aV]
 ·rintro m ρ h' ⟨hs,i,hi,rfl,hc,r12,r13,r14⟩
  simp only[go_sem,r13,r14];refine .intro (fun e=>?_) (fun e=>?_)
  ·have hlt:i<l.length:=adH e
   have w1:IntKind.i64.wrap ((i:Int)+1)=((i+1:Nat):Int):=adY;simp only[go_sem,r12,r14,aV];refine .at i adL ad0 ?_;simp only[go_sem,adB,cU];refine(Ll l[i] _).pthen ?_;cases d2:(xp l[i] !=0)
   ·have e2:xp l[i]=0:=by grind
    simp only[go_sem,r14,d2,w1];refine⟨_,?_,hs,i+1,adK,rfl,wz hlt hc e2,?_,?_,?_⟩
    ·omega
    all_goals simp only[go_sem,r12,r13,aV]
   ·have e2:xp l[i]≠0:=by grind
    simp only[go_sem,d2];refine .mk _ (.refl _) hs ⟨?_,rfl⟩
    grind [lP,A8,ax]
  ·have hge:i=l.length:=by grind
   subst hge;rw[List.take_length]at hc;simp only[go_sem];exact .mk _ (.refl _) hs ⟨by grind [lP,ax],rfl⟩
theorem CE(l:List cC)(h:Heap):ai Tryz.prog 239 [aA l] h fun r h' =>r= .i (iE l)∧h' =h:=by
 refine adJ Tryz.func239 39 [.tmp 2] fun hwf=>?_
 cases d1:decide (8<(l.length:Int))
 case true=>
  have e1:8<l.length:=adL;simp only[go_sem,aA,adA,d1];exact .same (.refl _) ⟨by grind [iE,ax],rfl⟩
 have e1:¬8<l.length:=adL;simp only[go_sem,d1,aA,adA];refine .intro (fun m ρ h' =>Ab.Sub h h'∧∃i:Nat,i≤l.length∧m=l.length - i∧(l.take i).all qX=true∧lk ρ 8=some (aA l)∧lk ρ 9=some (.i l.length)∧lk ρ 10=some (.i i)) l.length ?_ ?_
 ·refine⟨.refl _,0,adK,rfl,rfl,?_,?_,?_⟩<;>simp only[go_sem,aA]
 ·rintro m ρ h' ⟨hs,i,hi,rfl,hc,r12,r13,r14⟩
  simp only[go_sem,r13,r14];refine .intro (fun e=>?_) (fun e=>?_)
  ·have hlt:i<l.length:=adH e
   have w1:IntKind.i64.wrap ((i:Int)+1)=((i+1:Nat):Int):=adY;simp only[go_sem,r12,r14,aA];refine .at i adL ad0 ?_;simp only[go_sem,adB,bu];intro id hid;have bad:qX l[i]=false→iE l=1:=fun hb=>by
    have:l.all qX=false:=List.all_eq_false.2 ⟨_,adF hlt,adL⟩;simp[iE,e1,this]
   cases c1:decide (l[i].on<1)
   case true=>
    simp only[go_sem,c1];exact .mk _ (.refl _) (hs.new hid _) ⟨by rw[bad (by have:=adC c1;simp[qX];omega)];rfl,rfl⟩
   cases c2:decide (2<l[i].on)
   case true=>
    simp only[go_sem,c1,c2];exact .mk _ (.refl _) (hs.new hid _) ⟨by rw[bad (by have:=adC c2;simp[qX];omega)];rfl,rfl⟩
   cases c3:decide (l[i].kind<1)
   case true=>
    simp only[go_sem,c1,c2,c3];exact .mk _ (.refl _) (hs.new hid _) ⟨by rw[bad (by have:=adC c3;simp[qX];omega)];rfl,rfl⟩
   cases c4:decide (4<l[i].kind)
   case true=>
    simp only[go_sem,c1,c2,c3,c4];exact .mk _ (.refl _) (hs.new hid _) ⟨by rw[bad (by have:=adC c4;simp[qX];omega)];rfl,rfl⟩
   simp only[go_sem,c1,c2,c3,c4];refine(pM _ _).pthen ?_;cases d2:aX l[i].arg
   ·simp only[go_sem]
    exact .mk _ (.refl _) (hs.new hid _) ⟨by rw[bad (by grind [qX])];rfl,rfl⟩
   ·simp only[go_sem,r14,w1]
    refine⟨_,?_,hs.new hid _,i+1,adK,rfl,?_,?_,?_,?_⟩
    ·omega
    ·grind [adD,List.take_succ_eq_append_getElem,qX]
    all_goals simp only[go_sem,r12,r13,aA]
  ·have hge:i=l.length:=by grind
   subst hge;rw[List.take_length]at hc;simp only[go_sem];exact .mk _ (.refl _) hs ⟨by grind [iE,ax],rfl⟩
theorem NV(op:Int)(h:Heap):ai Tryz.prog 296 [.i op] h fun r h' =>r=(match iN op with
  |none=> .tup [.sl [] .no,.b false]
  |some w=> .tup [.sl (w.map jU) .no,.b true])∧h' =h:=by
 refine adJ Tryz.func296 35 [.tmp 2,.tmp 3] fun hwf=>?_
 cases k1:(op==1)
 case true=>
  have e1:op=1:=adL;simp only[go_sem,k1];exact .mk _ (fE _) (.refl _) ⟨ahc,rfl⟩
 have n1:op≠1:=adL;cases k2:(op==2)
 case true=>
  have e1:op=2:=adL;simp only[go_sem,k1,k2];exact .mk _ (fE _) (.refl _) ⟨ahc,rfl⟩
 have n2:op≠2:=adL;cases k3:(op==3)
 case true=>
  have e1:op=3:=adL;simp only[go_sem,k1,k2,k3];exact .mk _ (fE _) (.refl _) ⟨afX,rfl⟩
 have n3:op≠3:=adL;cases k4:(op==4)
 case true=>
  have e1:op=4:=adL;simp only[go_sem,k1,k2,k3,k4];exact .mk _ (fE _) (.refl _) ⟨afX,rfl⟩
 have n4:op≠4:=adL;cases k5:(op==5)
 case true=>
  have e1:op=5:=adL;simp only[go_sem,k1,k2,k3,k4,k5];exact .mk _ (fE _) (.refl _) ⟨afX,rfl⟩
 have n5:op≠5:=adL;cases k11:(op==11)
 case true=>
  have e1:op=11:=adL;simp only[go_sem,k1,k2,k3,k4,k5,k11];exact .mk _ (fE _) (.refl _) ⟨afX,rfl⟩
 have n11:op≠11:=adL;cases k6:decide (6≤op)
 ·have n6:=adD k6
  simp only[go_sem,k1,k2,k3,k4,k5,k11,k6];exact .mk _ (fE _) (.refl _) ⟨ahc,rfl⟩
 cases k13:decide (op≤13)
 ·have n13:=adD k13
  simp only[go_sem,k1,k2,k3,k4,k5,k11,k6,k13];exact .mk _ (fE _) (.refl _) ⟨ahc,rfl⟩
 have n6:=adC k6;have n13:=adC k13;simp only[go_sem,k1,k2,k3,k4,k5,k11,k6,k13];exact .mk _ (fE _) (.refl _) ⟨afX,rfl⟩
theorem Js(n:aQ)(h:Heap):ai Tryz.prog 297 [dI n] h fun r h' =>r= .b (jV n)∧h' =h:=by
 refine adJ Tryz.func297 37 [.tmp 2] fun hwf=>?_
 simp only[go_sem,dI];intro id hid;have fa:∀x y z:Bool,(x && (y && (z && true)))=(x && (y && (z && true))):=fun _ _ _=>rfl
 cases k1:(n.op==1)
 case true=>
  have e1:n.op=1:=adL;simp only[go_sem,k1];refine(fU n.val _).pthen ?_;cases d0:br n.val
  ·simp only[go_sem]
   exact ajc
  ·simp only[go_sem]
   exact .mk _ (.refl _) (.aj hid) ⟨by grind [jV,ax,zeroAt],rfl⟩
 have n1:n.op≠1:=adL;cases k2:(n.op==2)
 case true=>
  have e1:n.op=2:=adL;simp only[go_sem,k1,k2];refine(Hy n.attr _).pthen ?_;cases d0:qC n.attr
  ·simp only[go_sem]
   exact ajc
  ·simp only[go_sem]
   exact .mk _ (.refl _) (.aj hid) ⟨by grind [jV,ax,zeroV],rfl⟩
 have n2:n.op≠2:=adL;cases d0:zeroV n.val
 ·have d1:=d0
  unfold zeroV at d1;simp only[go_sem,k1,k2,d1];exact ajc
 ·have d1:=d0
  unfold zeroV at d1;simp only[go_sem,k1,k2,d1];exact .mk _ (.refl _) (.aj hid) ⟨by grind [jV,ax,zeroAt],rfl⟩
theorem u4:(U 4).sz=1:=adV
theorem u4a:(U 4).k.agg=false:=adV
theorem u4b:(U 4).bytes=1:=adV
theorem u4f:fit (U 4).zero 1:=adU
theorem u4n:bC (U 4).zero=false:=adV
theorem Hz(l:List Bool):One (l.map jU):=One.map (fun _=>rfl) l
theorem P6(y:AV)(st:List Bool)(n:aQ)(h0 h:Heap)(hy:WrA 4 h0 h y (st.map jU))(hl:st.length≤1000000):
  ai Tryz.prog 269 [y,dI n] h fun r h' =>∃z,r= .tup [z,.v (.bool (iM st n).isSome)]∧match iM st n with
   |none=>Ab.Sub h0 h'
   |some st' =>WrA 4 h0 h' z (st'.map jU):=by
 refine adJ Tryz.func269 60 [.tmp 4,.tmp 5] fun hwf=>?_
 simp only[go_sem,dI];intro id hid;simp only[go_sem];have hyb:=hy.base hid (some (.obj [.i n.op,.i n.val.kind,.i n.val.n,.s n.val.s,.i n.attr.cat,.s n.attr.name,.b n.attr.must] 215));have hw:=NV n.op (upd h id (some (.obj [.i n.op,.i n.val.kind,.i n.val.n,.s n.val.s,.i n.attr.cat,.s n.attr.name,.b n.attr.must] 215)));cases hwd:iN n.op with
 |none=>
  rw[hwd]at hw;have hst:iM st n=none:=by grind [iM]
  refine hw.pthen ?_;exact ajD
 |some w=>
  rw[hwd]at hw;have hwl:w.length≤2:=by
   grind [iN]
  refine hw.pthen ?_;simp only[go_sem];refine(Js n _).pthen ?_;cases d1:jV n
  ·have hst:iM st n=none:=by grind [iM]
   exact ajD
  cases d2:decide ((st.length:Int)<(w.length:Int))
  case true=>
   have e2:¬w.length≤st.length:=adL;have hst:iM st n=none:=by grind [iM]
   simp only[go_sem,hyb.len,adA,d2];exact .mk _ (.refl _) (.aj hid) ⟨_,ahL,ahv⟩
  have e2:w.length≤st.length:=adL;have w1:IntKind.i64.wrap ((st.length:Int) - (w.length:Int))=((st.length - w.length:Nat):Int):=adY;obtain⟨hb,ehb⟩:∃hb,upd h id (some (.obj [.i n.op,.i n.val.kind,.i n.val.n,.s n.val.s,.i n.attr.cat,.s n.attr.name,.b n.attr.must] 215))=hb:=⟨_,rfl⟩;have hbid:hb id=some (.obj [.i n.op,.i n.val.kind,.i n.val.n,.s n.val.s,.i n.attr.cat,.s n.attr.name,.b n.attr.must] 215):=ahd;have hsub:Ab.Sub h hb:=by rw[←ehb];exact .aj hid
  rw[ehb]at hyb⊢;simp only[go_sem,hyb.len,adA,d2,w1];refine .intro (fun m ρ h' =>h' =hb∧∃i:Nat,i≤w.length∧m=w.length - i∧(∀j,j<i→st[st.length - w.length+j]? =w[j]?)∧lk ρ 0=some y∧lk ρ 3=some (.ptr id 0)∧lk ρ 8=some (.i ((st.length - w.length:Nat):Int))∧lk ρ 36=some (.sl (w.map jU) .no)∧lk ρ 37=some (.i w.length)∧lk ρ 38=some (.i i)) w.length ?_ ?_
  ·refine⟨rfl,0,adK,rfl,fun j hj=>adK,?_,?_,?_,?_,?_,?_⟩<;>simp only[go_sem]
  ·rintro m ρ h' ⟨rfl,i,hi,rfl,hc,r0,r3,r8,r36,r37,r38⟩
   simp only[go_sem,r37,r38];refine .intro (fun e=>?_) (fun e=>?_)
   ·have hlt:i<w.length:=adH e
    have w2:IntKind.i64.wrap ((i:Int)+1)=((i+1:Nat):Int):=adY;have w3:IntKind.i64.wrap (((st.length - w.length:Nat):Int)+(i:Int))=((st.length - w.length+i:Nat):Int):=adY;have hlt2:st.length - w.length+i<st.length:=adK;simp only[go_sem,r36,r38];refine .at i adL ad0 ?_;simp only[go_sem,r0,r8,adB,jU,w3];refine hyb.idx (Hz st) (st.length - w.length+i) rfl adL u4 u4a fun p hp=>?_
    simp only[go_sem,hp _,adB,jU];cases d3:(st[st.length - w.length+i]==w[i])
    ·have hst:iM st n=none:=by
      have:st.drop (st.length - w.length)≠w:=fun hh=>by
       grind
      simp[iM,hwd,this]
     simp only[go_sem];exact .mk _ (.refl _) hsub ⟨_,ahL,ahv⟩
    ·simp only[go_sem,r38,w2]
     refine⟨_,?_,rfl,i+1,adK,rfl,fun j hj=>?_,?_,?_,?_,?_,?_,?_⟩
     ·omega
     ·grind
     all_goals simp only[go_sem,r0,r3,r8,r36,r37]
   ·have hge:i=w.length:=by grind
    subst hge;have hdrop:st.drop (st.length - w.length)=w:=by
     apply List.ext_getElem?
     grind
    have hst:iM st n=some (st.take (st.length - w.length)++ [n.op==2]):=by
     grind [iM]
    simp only[go_sem];refine .calls (hm1 id _) [0,1,2,3,4,5,6,7,8,9] (.hm1 hbid) adN rfl ?_;simp only[go_sem,r0,r8];refine hyb.cut (x:=.i64) (st.length - w.length) adV rfl adR u4 fun z hz=>?_
    rw[←List.map_take]at hz;simp only[go_sem,r3,gp];refine hz.app (zs:=[.b (n.op==2)]) (Hz _) (Hz [n.op==2]) u4 adO u4f u4n (fun k hk=>hk) (by grind [u4b]) fun z' h2 hz' =>?_
    refine⟨fun j b hj=>((Sub.hm1 (ah ..)).trans hz'.1) j b hj,?_⟩
    simp only[go_sem];have hz2:=hz'.less (Sub.aj (hy.1.none hid));refine .same (.refl _) ⟨z',ahL,?_⟩;rw[hst];simp only[List.map_append];exact hz2
theorem FK{l:List aQ}(h:l.length≤32)(hs:fW [] l=none):kr l=1:=by
 grind [kr,Nat.not_lt]
theorem j7(st:List Bool):∀(l:List aQ) (i:Nat),fW st l=(match fW st (l.take i)with
  |none=>none
  |some st' =>fW st' (l.drop i))
 | [],i=>by simp[fW]
 |n::r,0=>adV
 |n::r,i+1=>by
  simp only[List.take_succ_cons,List.drop_succ_cons,fW];cases iM st n with
  |none=>rfl
  |some st' =>simp only;exact j7 st' r i
theorem su(st st' :List Bool)(l:List aQ)(h:fW st l=some st'):st'.length≤st.length+l.length:=by
 induction l generalizing st with
 |nil=>grind [fW,Option.some.injEq]
 |cons n r ih=>
  simp only[fW]at h;cases hs:iM st n with
  |none=>grind
  |some s2=>
   grind [iM]
theorem HJ(l:List aQ)(h:Heap):ai Tryz.prog 240 [fy l] h fun r h' =>r= .i (kr l)∧h' =h:=by
 refine adJ Tryz.func240 38 [.tmp 2] fun hwf=>?_
 cases d1:decide (32<(l.length:Int))
 case true=>
  have e1:32<l.length:=adL;simp only[go_sem,fy,adA,d1];exact .same (.refl _) ⟨by grind [kr,ax],rfl⟩
 have e1:l.length≤32:=adL;simp only[go_sem,fy,adA,d1];refine .intro (fun m ρ h' =>∃(i:Nat) (y:AV) (st:List Bool),WrA 4 h h' y (st.map jU)∧fW [] (l.take i)=some st∧i≤l.length∧m=l.length - i∧
  lk ρ 0=some (fy l)∧lk ρ 3=some y∧lk ρ 10=some (fy l)∧lk ρ 11=some (.i l.length)∧lk ρ 12=some (.i i)) l.length ?_ ?_
 ·refine⟨0,_,[],.nil (.refl _),rfl,adK,rfl,?_,?_,?_,?_,?_⟩<;>simp only[go_sem,fy]
 ·rintro m ρ h' ⟨i,y,st,hy,hst,hi,rfl,r0,r3,r10,r11,r12⟩
  have hsl:=su _ _ _ hst;have hsl:st.length≤i:=adL;simp only[go_sem,r11,r12];refine .intro (fun e=>?_) (fun e=>?_)
  ·have hlt:i<l.length:=adH e
   have w1:IntKind.i64.wrap ((i:Int)+1)=((i+1:Nat):Int):=adY;have hnx:fW [] (l.take (i+1))=iM st l[i]:=by
    rw[j7 [] _ i,List.take_take,Nat.min_eq_left adK,hst,List.take_succ_eq_append_getElem hlt,List.drop_append_of_le_length adL,List.drop_of_length_le adL]
    grind [fW,iM]
   simp only[go_sem,r10,r12,fy];refine .at i adL ad0 ?_;simp only[go_sem,adB,dI];intro id hid;simp only[go_sem,r3];have hyb:=hy.sub (Sub.aj (k:=some (.obj [.i l[i].op,.i l[i].val.kind,.i l[i].val.n,.s l[i].val.s,.i l[i].attr.cat,.s l[i].attr.name,.b l[i].attr.must] 215)) hid);refine(P6 y st l[i] h _ hyb adK).mono fun r h2 ⟨z,e2,hz⟩=>?_
   subst e2;cases hsd:iM st l[i]with
   |none=>
    rw[hsd]at hz;simp only[go_sem,Option.isSome_none];refine .mk _ (.refl _) hz ⟨?_,rfl⟩;rw[FK e1 (by rw[j7 [] l (i+1),hnx,hsd])];rfl
   |some st' =>
    rw[hsd]at hz hnx;simp only[go_sem,r12,Option.isSome_some,w1];refine⟨_,?_,i+1,z,st',hz,hnx,adK,rfl,?_,?_,?_,?_,?_⟩
    ·omega
    all_goals simp only[go_sem,r0,r10,r11,fy]
  ·have hge:i=l.length:=by grind
   subst hge;rw[List.take_length]at hst;have he:kr l=if l= []∨st= [false]then 0 else 1:=by
    simp_all [kr,if_neg]
   cases d2:decide (0<(l.length:Int))
   ·have e2:l= []:=by simp_all
    simp only[go_sem,r0,fy,adA,d2];exact .mk _ (.refl _) hy.1 ⟨by rw[he,if_pos (.inl e2)];rfl,rfl⟩
   have e2:l≠ []:=adL;cases d3:((st.length:Int) !=1)
   case true=>
    have e3:st≠ [false]:=adL;simp only[go_sem,r0,r3,fy,adA,d2,hy.len,d3];exact .mk _ (.refl _) hy.1 ⟨by rw[he,if_neg adL];rfl,rfl⟩
   have e3:st.length=1:=by
    grind
   obtain⟨b,rfl⟩:=List.length_eq_one_iff.1 e3;simp only[go_sem,r0,r3,fy,adA,d2,hy.len];refine hy.idx (Hz [b]) 0 rfl adR u4 u4a fun p hp=>?_
   simp only[go_sem,hp _,jU,List.getElem_cons_zero];cases b
   ·simp only[go_sem]
    exact .mk _ (.refl _) hy.1 ⟨by rw[he,if_pos (.inr rfl)];rfl,rfl⟩
   ·simp only[go_sem]
    exact .mk _ (.refl _) hy.1 ⟨by rw[he,if_neg adL];rfl,rfl⟩
end Go.Proofs.YtfdgemhnlennbaaGreatDoor
namespace Go.Bf
open Go Go.Ab
theorem Pd(xs:List Txt)(B:Nat)(h:∀x∈xs,x.length≤B):Lib.lens xs≤xs.length*B:=by
 induction xs with
 |nil=>simp[Lib.lens]
 |cons x r ih=>
  have h1:=h x adR;have h2:=ih fun y hy=>h y adL
  simp only[Lib.lens,List.map_cons,List.sum_cons,List.length_cons,Nat.add_mul,Nat.one_mul]at h2⊢;omega
theorem F1(xs:List Txt)(n B:Nat)(hn:xs.length≤n)(h:∀x∈xs,x.length≤B):xs.flatten.length≤n*B:=by
 have h2:=Pd xs B h;have h3:xs.length*B≤n*B:=Nat.mul_le_mul_right _ hn;have h4:xs.flatten.length=Lib.lens xs:=by rw[List.length_flatten];rfl
 omega
theorem Bp{s:Txt}(h:aX s=true):s.length≤16:=by
 grind [aX]
theorem BB(l:Txt)(h:l.length≤64):(iJ l).length≤194:=by
 have:=F1 (l.map gA) 64 3 adL fun x hx=>by
  grind [gA]
 unfold iJ;exact ajh
theorem IM{v:bt}(h:br v=true)(h1: -9223372036854775808≤v.n)(h2:v.n≤9223372036854775807):(jR v).length≤194:=by
 have hi:=Lib.itoa_length_le v.n h1 h2;unfold jR;unfold br at h;split
 ·cases (v.n==1)<;>decide
 split
 ·simp only[adE,List.length_cons,List.length_nil];omega
 split
 ·rename_i k5
  simp only[k5]at h;simp at h;have:=Bp h.2;simp only[adE,List.length_cons,List.length_nil];omega
 split
 ·rename_i k3
  simp only[k3]at h;simp at h;exact BB _ h.2
 ·omega
theorem kM{l:List cC}(h:iE l=0):l.length≤8∧∀o∈l,qX o=true:=by
 grind [iE,List.all_eq_true]
theorem yZ{n:Nat}(h:ku n=0):0<n∧n≤8:=by
 grind [ku]
theorem wA{α:Type}{f:α→Int}{l:List α}(h:iD f l=0):∀x∈l,f x=0:=by
 induction l with
 |nil=>simp
 |cons y r ih=>
  simp only[iD]at h
  grind
theorem AQ{l:List bQ}(h:xo l=0):0<l.length∧l.length≤8∧∀m∈l,kU m=true:=by
 unfold xo at h;split at h
 ·simp_all [yZ,List.all_eq_true]
 omega
theorem AR{l:List (List bQ)}(h:xp l=0):0<l.length∧l.length≤8∧∀m∈l,xo m=0:=by
 unfold xp at h;split at h
 ·rename_i hm
  have:=yZ hm;exact⟨this.1,this.2,wA h⟩
 omega
theorem BO{l:gj}(h:lP l=0):l.length≤8∧∀m∈l,xp m=0:=by
 grind [lP,wA]
def inV(v:bt):Prop:= -9223372036854775808≤v.n∧v.n≤9223372036854775807
def inA(l:List bQ):Prop:=∀m∈l,inV m.val
def inY(l:List (List bQ)):Prop:=∀a∈l,inA a
def inT(t:gj):Prop:=∀a∈t,inY a
def inL(l:List aQ):Prop:=∀n∈l,inV n.val
def inR(r:cR):Prop:=inT r.tgt∧inL r.cond
mutual
def inP:bJ→Prop
 |.mk id set alg tgt rules kids obls=>inT tgt∧(∀r∈rules,inR r)∧inK kids
def inK:List bJ→Prop
 | []=>True
 |k::r=>inP k∧inK r
end
theorem Sn:∀l:List bJ,inK l↔∀k∈l,inP k
 | []=>by simp[inK]
 |k::r=>by simp[inK,Sn r]
theorem yw{l:List aQ}(h:kr l=0)(hn:l≠ []):l.length≤32∧fW [] l=some [false]:=by
 grind [kr]
def ER(r:cR):Prop:=aX r.id=true∧lP r.tgt=0∧kr r.cond=0∧iE r.obls=0
mutual
def nq(d:Nat):bJ→Prop
 |.mk id set alg tgt rules kids obls=>d≤4∧aX id=true∧1≤alg∧alg≤6∧(set=true→rules= [])∧(set=false→kids= []∧alg≠4)∧lP tgt=0∧iE obls=0∧rules.length≤16∧kids.length≤16∧(∀r∈rules,ER r)∧wL (d+1) kids
def wL(d:Nat):List bJ→Prop
 | []=>True
 |k::r=>nq d k∧wL d r
end
theorem qT(d:Nat):∀l:List bJ,wL d l↔∀k∈l,nq d k
 | []=>by simp[wL]
 |k::r=>by simp[wL,qT d r]
theorem za{m m' :eu}{s:Txt}(h:jr m s=some m'):aX s=true:=by
 grind [jr]
theorem qW{e:Int}{w:Went}{m:eu}(h:need e w= .ok m):e=0∧w= .ok m:=by
 grind [need]
theorem Nj{m m' :eu}{r:cR}(h:gw m r= .ok m'):ER r:=by
 unfold gw at h;split at h
 ·cases h
 ·rename_i m1 hm
  split at h
  ·cases h
  ·obtain⟨h1,h⟩:=qW h
   obtain⟨h2,h⟩:=qW h;obtain⟨h3,h⟩:=qW h;exact⟨za hm,h1,h2,h3⟩
theorem BJ:∀(l:List cR) (m m' :eu),fC m l= .ok m'→∀r∈l,ER r
 | [],_,_,_,r,hr=>adL
 |x::l,m,m',h,r,hr=>by
  simp only[fC]at h;cases hx:gw m x with
  |bad e=>grind
  |ok m1=>
   rw[hx]at h;rcases List.mem_cons.1 hr with rfl|hr
   ·exact Nj hx
   ·exact BJ l m1 m' h r hr
theorem JR{m m1:eu}{id:Txt}{set:Bool}{alg:Int}{tgt:gj}{nr nk:Nat}{obls:List cC}(h:fk m id set alg tgt nr nk obls= .ok m1):
  jr m id=some m1∧1≤alg∧alg≤6∧(set=true→nr=0)∧(set=false→nk=0∧alg≠4)∧lP tgt=0∧iE obls=0∧nr≤16∧nk≤16:=by
 unfold fk at h;split at h
 ·cases h
 split at h
 ·cases h
 split at h
 ·cases h
 obtain⟨h3,h⟩:=qW h;obtain⟨h4,h⟩:=qW h
 grind
mutual
theorem Is:∀(p:bJ) (d:Nat) (m m' :eu),kN m d p= .ok m'→nq d p
 |.mk id set alg tgt rules kids obls,d,m,m',h=>by
  simp only[kN]at h;split at h
  ·cases h
  rename_i hd
  split at h
  ·cases h
  rename_i m1 h1
  split at h
  ·cases h
  rename_i m2 h2
  obtain⟨g1,g2,g3,g4,g5,g6,g7,g8,g9⟩:=JR h1;simp only[nq];exact⟨adK,za g1,g2,g3,fun e=>List.length_eq_zero_iff.1 (g4 e),fun e=>⟨List.length_eq_zero_iff.1 (g5 e).1,(g5 e).2⟩,g6,g7,g8,g9,BJ _ _ _ h2,DX kids (d+1) m2 m' h⟩
theorem DX:∀(l:List bJ) (d:Nat) (m m' :eu),iW m d l= .ok m'→wL d l
 | [],_,_,_,_=>by simp[wL]
 |k::r,d,m,m',h=>by
  simp only[iW]at h;split at h
  ·cases h
  rename_i m1 h1
  simp only[wL];exact⟨Is k d m m1 h1,DX r d m1 m' h⟩
end
end Go.Bf
namespace Go.Proofs.YtfdgemhnlennbaaGreatDoor
open Go Go.Ab Go.Bf
def Quoted:Prop:=∀(s:Txt) (h:Heap),s.length≤64→ai Tryz.prog 137 [.s s] h fun r h' =>r= .s (iJ s)∧h' =h
def oW(v:bt):Txt:=if br v then Bf.jR v else []
theorem zX(Q:Quoted)(v:bt)(hi:inV v)(h:Heap)(ht:tu h):ai Tryz.prog 83 [aP v] h fun r h' =>r= .s (oW v)∧h' =h:=by
 refine adJ Tryz.func83 33 [.tmp 2] fun hwf=>?_
 simp -implicitDefEqProofs only[go_sem,aP];intro id hid;have ht2:tu (upd h id (some (.obj [.i v.kind,.i v.n,.s v.s] 33))):=ht.sub (.aj hid);simp -implicitDefEqProofs only[go_sem];refine(fU v _).pthen ?_;cases d1:br v
 ·simp -implicitDefEqProofs only[go_sem,d1]
  exact .mk _ (.refl _) (.aj hid) ⟨by grind [oW,ax],rfl⟩
 have hl:lim=9223372036854775808:=rfl;have hil:=Lib.itoa_length_le v.n hi.1 hi.2;cases k1:(v.kind==1)
 case true=>
  have e1:v.kind=1:=adL;simp -implicitDefEqProofs only[go_sem,d1,k1];refine(L1 _ _).pthen ?_;exact aiM
 have e1:v.kind≠1:=adL;cases k4:(v.kind==4)
 case true=>
  have e4:v.kind=4:=adL;simp -implicitDefEqProofs only[go_sem,d1,k1,k4];refine(nS _ _ hi ht2).pthen ?_;have c1:0+1+(Lib.itoa v.n).length<lim:=adK;simp -implicitDefEqProofs only[go_sem,c1];exact .mk _ (.refl _) (.aj hid) ⟨agT,rfl⟩
 have e4:v.kind≠4:=adL;cases k5:(v.kind==5)
 case true=>
  have e5:v.kind=5:=adL;have hn:v.s.length≤16:=by
   grind [br,Bp]
  have c1:0+1+v.s.length<lim:=adK;simp -implicitDefEqProofs only[go_sem,d1,k1,k4,k5,c1];exact .mk _ (.refl _) (.aj hid) ⟨agT,rfl⟩
 have e5:v.kind≠5:=adL;cases k3:(v.kind==3)
 case true=>
  have e3:v.kind=3:=adL;have hn:v.s.length≤64:=by
   grind [br]
  simp -implicitDefEqProofs only[go_sem,d1,k1,k4,k5,k3];refine(Q _ _ hn).pthen ?_;exact aiM
 have e3:v.kind≠3:=adL;simp -implicitDefEqProofs only[go_sem,d1,k1,k4,k5,k3];refine(nS _ _ hi ht2).pthen ?_;exact aiM
end Go.Proofs.YtfdgemhnlennbaaGreatDoor
namespace Go.Proofs
open Go.Shelf
def Tryz.wP:Go.Shelf.Ren:=⟨fun|166=>184|167=>183|169=>185|240=>228|276=>263|n=>n,fun|31=>22|72=>270|76=>221|70=>268|37=>37|75=>220|127=>310|164=>346|80=>238|n=>n,fun|n=>n⟩
theorem Tryz.O8:Go.Proofs.Lays.n167 Tryz.prog Tryz.wP:={
 mixed:=adN
 f167:=Tryz.func183.trans (congrArg some adN)
 f240:=Tryz.func228.trans (congrArg some adN)
 f276:=Tryz.func263.trans (congrArg some adN)
 t0:=Tryz.underlying0
 a0:=Tryz.isAgg0
 z0:=Tryz.sizeOf0
 v0:=Tryz.zeroValue0
 t4:=Tryz.underlying4
 a4:=Tryz.isAgg4
 z4:=Tryz.sizeOf4
 v4:=Tryz.zeroValue4
 t5:=Tryz.underlying5
 a5:=Tryz.isAgg5
 z5:=Tryz.sizeOf5
 v5:=Tryz.zeroValue5
 t9:=Tryz.underlying9
 a9:=Tryz.isAgg9
 z9:=Tryz.sizeOf9
 v9:=Tryz.zeroValue9
 t20:=Tryz.underlying20
 a20:=Tryz.isAgg20
 z20:=Tryz.sizeOf20
 v20:=Tryz.zeroValue20
 t37:=Tryz.underlying37
 a37:=Tryz.isAgg37
 z37:=Tryz.sizeOf37
 v37:=Tryz.zeroValue37
 t70:=Tryz.underlying268
 a70:=Tryz.isAgg268
 z70:=Tryz.sizeOf268
 v70:=Tryz.zeroValue268
 t72:=Tryz.underlying270
 a72:=Tryz.isAgg270
 z72:=Tryz.sizeOf270
 v72:=Tryz.zeroValue270
 t75:=Tryz.underlying220
 a75:=Tryz.isAgg220
 z75:=Tryz.sizeOf220
 v75:=Tryz.zeroValue220
 t164:=Tryz.underlying346
 a164:=Tryz.isAgg346
 z164:=Tryz.sizeOf346
 v164:=Tryz.zeroValue346
}
def Tryz.wO:Go.Shelf.Ren:=⟨fun|166=>184|167=>183|169=>185|240=>228|276=>263|n=>n,fun|31=>22|72=>270|76=>221|70=>268|37=>37|75=>220|127=>310|164=>346|80=>238|n=>n,fun|n=>n⟩
theorem Tryz.O7:Go.Proofs.Lays.n166 Tryz.prog Tryz.wO:={
 mixed:=adN
 f166:=Tryz.func184.trans (congrArg some adN)
 f240:=Tryz.func228.trans (congrArg some adN)
 f276:=Tryz.func263.trans (congrArg some adN)
 t0:=Tryz.underlying0
 a0:=Tryz.isAgg0
 z0:=Tryz.sizeOf0
 v0:=Tryz.zeroValue0
 t3:=Tryz.underlying3
 a3:=Tryz.isAgg3
 z3:=Tryz.sizeOf3
 v3:=Tryz.zeroValue3
 t4:=Tryz.underlying4
 a4:=Tryz.isAgg4
 z4:=Tryz.sizeOf4
 v4:=Tryz.zeroValue4
 t9:=Tryz.underlying9
 a9:=Tryz.isAgg9
 z9:=Tryz.sizeOf9
 v9:=Tryz.zeroValue9
 t20:=Tryz.underlying20
 a20:=Tryz.isAgg20
 z20:=Tryz.sizeOf20
 v20:=Tryz.zeroValue20
 t37:=Tryz.underlying37
 a37:=Tryz.isAgg37
 z37:=Tryz.sizeOf37
 v37:=Tryz.zeroValue37
 t70:=Tryz.underlying268
 a70:=Tryz.isAgg268
 z70:=Tryz.sizeOf268
 v70:=Tryz.zeroValue268
 t72:=Tryz.underlying270
 a72:=Tryz.isAgg270
 z72:=Tryz.sizeOf270
 v72:=Tryz.zeroValue270
 t75:=Tryz.underlying220
 a75:=Tryz.isAgg220
 z75:=Tryz.sizeOf220
 v75:=Tryz.zeroValue220
 t164:=Tryz.underlying346
 a164:=Tryz.isAgg346
 z164:=Tryz.sizeOf346
 v164:=Tryz.zeroValue346
}
def Tryz.wQ:Go.Shelf.Ren:=⟨fun|166=>184|167=>183|169=>185|240=>228|276=>263|n=>n,fun|31=>22|72=>270|76=>221|70=>268|37=>37|75=>220|127=>310|164=>346|80=>238|n=>n,fun|n=>n⟩
theorem Tryz.O9:Go.Proofs.Lays.n169 Tryz.prog Tryz.wQ:={
 mixed:=adN
 f169:=Tryz.func185.trans (congrArg some adN)
 t0:=Tryz.underlying0
 a0:=Tryz.isAgg0
 z0:=Tryz.sizeOf0
 v0:=Tryz.zeroValue0
 t3:=Tryz.underlying3
 a3:=Tryz.isAgg3
 z3:=Tryz.sizeOf3
 v3:=Tryz.zeroValue3
 t9:=Tryz.underlying9
 a9:=Tryz.isAgg9
 z9:=Tryz.sizeOf9
 v9:=Tryz.zeroValue9
 t37:=Tryz.underlying37
 a37:=Tryz.isAgg37
 z37:=Tryz.sizeOf37
 v37:=Tryz.zeroValue37
 t70:=Tryz.underlying268
 a70:=Tryz.isAgg268
 z70:=Tryz.sizeOf268
 v70:=Tryz.zeroValue268
 t72:=Tryz.underlying270
 a72:=Tryz.isAgg270
 z72:=Tryz.sizeOf270
 v72:=Tryz.zeroValue270
 t127:=Tryz.underlying310
 a127:=Tryz.isAgg310
 z127:=Tryz.sizeOf310
 v127:=Tryz.zeroValue310
}
theorem Tryz.th:Builder.Extra Tryz.prog Tryz.wP where
 sizeBuilder:=adN
 liesBuilder:=adN
 t5:=Tryz.underlying5
 a5:=Tryz.isAgg5
 z5:=Tryz.sizeOf5
 v5:=Tryz.zeroValue5
 infoByte:=adN
 cellsByte:=adN
 sizeByte:=adN
 neB5:=adO
theorem Tryz.tg:Builder.Extra Tryz.prog Tryz.wO where
 sizeBuilder:=adN
 liesBuilder:=adN
 t5:=Tryz.underlying5
 a5:=Tryz.isAgg5
 z5:=Tryz.sizeOf5
 v5:=Tryz.zeroValue5
 infoByte:=adN
 cellsByte:=adN
 sizeByte:=adN
 neB5:=adO
theorem Tryz.tj:Builder.Extra Tryz.prog Tryz.wQ where
 sizeBuilder:=adN
 liesBuilder:=adN
 t5:=Tryz.underlying5
 a5:=Tryz.isAgg5
 z5:=Tryz.sizeOf5
 v5:=Tryz.zeroValue5
 infoByte:=adN
 cellsByte:=adN
 sizeByte:=adN
 neB5:=adO
theorem Tryz.Builder_WriteByte_k(B b:Nat)(bs:List Value)(c:Int)(w:World)(h:Lib.IsBuilderF 270 5 B b bs w)(hlen:bs.length+1≤140737488355328)(hBw:B≤w.heap.size):
  Calls Tryz.prog 183 #[.pointer (some ⟨b,0,none⟩),.int .u8 c] w fun e w' =>e= .returned .nilIface∧(Lib.BuilderAtF 270 5 B b (.pointer (some ⟨b,0,none⟩)) (bs++ [.int .u8 c]) w'∧RowKit.Below B w w'∧Lib.OthersKept 5 (some b) w w'):=Any.Builder_WriteByte_k Tryz.O8 Tryz.th B b bs c w h hlen hBw
theorem Tryz.Builder_WriteString_k(B b:Nat)(bs:List Value)(s:ByteArray)(w:World)(h:Lib.IsBuilderF 270 5 B b bs w)(hlen:bs.length+s.size≤140737488355328)(hBw:B≤w.heap.size):
  Calls Tryz.prog 184 #[.pointer (some ⟨b,0,none⟩),.string s] w fun e w' =>e= .returned (.tuple #[.int .i64 s.size,.nilIface])∧(Lib.BuilderAtF 270 5 B b (.pointer (some ⟨b,0,none⟩)) (bs++Lib.strCells s) w'∧RowKit.Below B w w'∧Lib.OthersKept 5 (some b) w w'):=Any.Builder_WriteString_k Tryz.O7 Tryz.tg B b bs s w h hlen hBw
theorem Tryz.Builder_String_k(B b:Nat)(l:List UInt8)(w:World)(h:Lib.IsBuilderF 270 5 B b (Lib.byteCells l) w)(h0:l≠ []):
  Calls Tryz.prog 185 #[.pointer (some ⟨b,0,none⟩)] w fun e w' =>e= .returned (.string ⟨l.toArray⟩)∧(Lib.IsBuilderF 270 5 B b (Lib.byteCells l) w'∧RowKit.Below B w w'∧Lib.OthersKept 5 (some b) w w'):=Any.Builder_String_k Tryz.O9 Tryz.tj B b l w h h0
end Go.Proofs
namespace Go.Proofs
open Go.RowKit
def Tryz.cX(s:ByteArray)(k:Nat):List UInt8:=[34]++((s.data.toList.take k).map Bf.gA).flatten
theorem Tryz.Yh:∀c:Fin 256,bits BinOp.and IntKind.u8 (c.val:Int) 15=((c.val % 16:Nat):Int):=adO
theorem Tryz.DO(n:Nat)(hn:n<16)(w:World):(Instr.slice 9 (Value.string {data:= #[48,49,50,51,52,53,54,55,56,57,97,98,99,100,101,102]}) (some (.int .u8 (n:Int))) (some (.int .u8 (IntKind.u8.wrap ((n:Int)+1)))) none).run Tryz.prog w= .ok (.string ⟨#[Bf.tW n]⟩) w:=by
 have e:IntKind.u8.wrap ((n:Int)+1)=((n+1:Nat):Int):=by
  have:n=0∨n=1∨n=2∨n=3∨n=4∨n=5∨n=6∨n=7∨n=8∨n=9∨n=10∨n=11∨n=12∨n=13∨n=14∨n=15:=adK;rcases this with rfl|rfl|rfl|rfl|rfl|rfl|rfl|rfl|rfl|rfl|rfl|rfl|rfl|rfl|rfl|rfl<;>decide
 rw[e,run_slice_string w 9 _ .u8 .u8 (n:Int) ((n+1:Nat):Int) Tryz.underlying9 adK adK (by show((n+1:Nat):Int)≤16;omega)]
 have:n=0∨n=1∨n=2∨n=3∨n=4∨n=5∨n=6∨n=7∨n=8∨n=9∨n=10∨n=11∨n=12∨n=13∨n=14∨n=15:=adK;rcases this with rfl|rfl|rfl|rfl|rfl|rfl|rfl|rfl|rfl|rfl|rfl|rfl|rfl|rfl|rfl|rfl<;>rfl
theorem Tryz.ux(s:ByteArray)(k:Nat)(hk:k≤s.size)(hs:s.size≤64):(Tryz.cX s k).length≤193:=by
 have:∀l:List UInt8,((l.map Bf.gA).flatten).length≤3*l.length:=fun l=>by
  induction l with
  |nil=>simp
  |cons c r ih=>
   have:(Bf.gA c).length≤3:=by unfold Bf.gA;split<;>simp
   simp only[List.map_cons,List.flatten_cons,adE,List.length_cons]at ih⊢;omega
 have h1:=this (s.data.toList.take k);have h2:(s.data.toList.take k).length≤64:=by
  have:s.size=s.data.toList.length:=Array.length_toList.symm;simp;omega
 unfold Tryz.cX;exact ajh
theorem Tryz.ri(s:ByteArray)(k:Nat)(hk:k<s.size):Tryz.cX s (k+1)=Tryz.cX s k++Bf.gA s[k]:=by
 have e:s.size=s.data.toList.length:=Array.length_toList.symm;have hk2:k<s.data.toList.length:=adK;unfold Tryz.cX;rw[List.take_succ_eq_append_getElem hk2,List.map_append,List.flatten_append];simp only[List.map_cons,List.map_nil,List.flatten_cons,List.flatten_nil,List.append_nil,List.append_assoc];rfl
theorem Tryz.Au(s:ByteArray):Tryz.cX s s.size++ [34]=Bf.iJ s.data.toList:=by
 have e:s.size=s.data.toList.length:=Array.length_toList.symm;unfold Tryz.cX Bf.iJ;rw[e,List.take_length]
theorem Tryz.rR(s:ByteArray)(k:Nat)(hk:k<s.size)(ho:Bf.sS s[k]=true):
  Lib.byteCells (Tryz.cX s k)++Lib.strCells (({data:= #[92]}:ByteArray)++ {data:= #[Bf.tW (s[k].toNat / 16)]}++ {data:= #[Bf.tW (s[k].toNat % 16)]})=Lib.byteCells (Tryz.cX s (k+1)):=by
 rw[Tryz.ri s k hk,Lib.byteCells_append]
 congr 1
 rw[Bf.gA,if_pos ho];rfl
theorem Tryz.FU(s:ByteArray)(k:Nat)(hk:k<s.size)(ho:Bf.sS s[k]=false):
  Lib.byteCells (Tryz.cX s k)++ [Value.int .u8 (s[k].toNat:Int)]=Lib.byteCells (Tryz.cX s (k+1)):=by
 rw[Tryz.ri s k hk,Lib.byteCells_append]
 congr 1
 rw[Bf.gA,if_neg (by simp[ho])]
 rfl
set_option maxHeartbeats 4000000 in
theorem Tryz.EE(s:ByteArray)(w:World)(hs:s.size≤64):
  Calls Tryz.prog 137 #[.string s] w fun e w' =>e= .returned (.string ⟨(Bf.iJ s.data.toList).toArray⟩)∧Below w.heap.size w w' :=by
 go_enter Tryz.func137,Tryz.ntmps137
 go_wp2_with (go_at_call 183;refine(Tryz.Builder_WriteByte_k w.heap.size w.heap.size [] 34 _ (Lib.IsBuilderF.of (Lib.fresh_isBuilder 270 5 w)) adR adR).mono ?_)
 rintro e W0 ⟨rfl,h0,b0,_⟩
 go_wp2
 go_loopw [9] (fun v wr=>∃k:Nat,v= .int .i64 k∧k≤s.size∧Lib.IsBuilderF 270 5 w.heap.size w.heap.size (Lib.byteCells (Tryz.cX s k)) wr∧Below w.heap.size w wr) (fun v _=>s.size - (intOf v).toNat)
 case atStart=>
  refine⟨0,rfl,adK,?_,?_⟩
  ·exact Or.inr h0
  ·exact((Below.refl _ w).alloc (Nat.le_refl _) _).trans b0
 case round=>
  obtain⟨k,rfl,hk,hI,hbw⟩:=hrel
  by_cases hp:k<s.size
  ·have hx1:∀w,(Instr.slice 9 (Value.string {data:= #[48,49,50,51,52,53,54,55,56,57,97,98,99,100,101,102]}) (some (.int .u8 ((s[k].toNat:Int) / 16))) (some (.int .u8 (IntKind.u8.wrap ((s[k].toNat:Int) / 16+1)))) none).run Tryz.prog w= .ok (.string ⟨#[Bf.tW (s[k].toNat / 16)]⟩) w:=
    fun w=>Tryz.DO (s[k].toNat / 16) (by have:=s[k].toNat_lt;omega) w
   have hb:bits BinOp.and IntKind.u8 (s[k].toNat:Int) 15=((s[k].toNat % 16:Nat):Int):=Tryz.Yh ⟨s[k].toNat,s[k].toNat_lt⟩;have hx2:∀w,(Instr.slice 9 (Value.string {data:= #[48,49,50,51,52,53,54,55,56,57,97,98,99,100,101,102]}) (some (.int .u8 (bits BinOp.and IntKind.u8 (s[k].toNat:Int) 15))) (some (.int .u8 (IntKind.u8.wrap (bits BinOp.and IntKind.u8 (s[k].toNat:Int) 15+1)))) none).run Tryz.prog w= .ok (.string ⟨#[Bf.tW (s[k].toNat % 16)]⟩) w:=by
    intro w;rw[hb];exact Tryz.DO (s[k].toNat % 16) adK w
   clear hb;have hql:=Tryz.ux s k hk hs
   by_cases d1:(s[k].toNat:Int)<32
   ·go_wp2
    refine wp_region_still_tail 14 adN adN ?_;simp only[List.take_succ_cons,List.take_zero,List.drop_succ_cons,List.drop_zero]
    (repeat still_step)
    try refine wpStill_nil ?_
    have hI2:Lib.IsBuilderF 270 5 w.heap.size w.heap.size (Lib.byteCells (Tryz.cX s k)) wr.drew:=hI;have hbw2:Below w.heap.size w wr.drew:=hbw.drew
    change wpList _ _ _ _ _ wr.drew
    generalize wr.drew=w2 at hI2 hbw2⊢
    go_wp2_with (go_at_call 184;refine(Tryz.Builder_WriteString_k w.heap.size w.heap.size _ _ _ hI2 afa hbw2.size).mono ?_)
    rintro e W1 ⟨rfl,h1,b1,_⟩
    go_wp2
    go_roundw
    case rel=>
     refine⟨k+1,by go_num,adK,?_,hbw2.trans b1⟩
     rw[←Tryz.rR s k hp (by simp[Bf.sS,d1])]
     exact ahz
    case measure=>simp[intOf];omega
   by_cases d2:126<(s[k].toNat:Int)
   ·go_wp2
    refine wp_region_still_tail 14 adN adN ?_;simp only[List.take_succ_cons,List.take_zero,List.drop_succ_cons,List.drop_zero]
    (repeat still_step)
    try refine wpStill_nil ?_
    have hI2:Lib.IsBuilderF 270 5 w.heap.size w.heap.size (Lib.byteCells (Tryz.cX s k)) wr.drew:=hI;have hbw2:Below w.heap.size w wr.drew:=hbw.drew
    change wpList _ _ _ _ _ wr.drew
    generalize wr.drew=w2 at hI2 hbw2⊢
    go_wp2_with (go_at_call 184;refine(Tryz.Builder_WriteString_k w.heap.size w.heap.size _ _ _ hI2 afa hbw2.size).mono ?_)
    rintro e W1 ⟨rfl,h1,b1,_⟩
    go_wp2
    go_roundw
    case rel=>
     refine⟨k+1,by go_num,adK,?_,hbw2.trans b1⟩
     rw[←Tryz.rR s k hp (by simp[Bf.sS,d2])]
     exact ahz
    case measure=>simp[intOf];omega
   cases d3:((s[k].toNat:Int)==34)
   case true=>
    go_wp2
    refine wp_region_still_tail 14 adN adN ?_;simp only[List.take_succ_cons,List.take_zero,List.drop_succ_cons,List.drop_zero]
    (repeat still_step)
    try refine wpStill_nil ?_
    have hI2:Lib.IsBuilderF 270 5 w.heap.size w.heap.size (Lib.byteCells (Tryz.cX s k)) wr.drew:=hI;have hbw2:Below w.heap.size w wr.drew:=hbw.drew
    change wpList _ _ _ _ _ wr.drew
    generalize wr.drew=w2 at hI2 hbw2⊢
    go_wp2_with (go_at_call 184;refine(Tryz.Builder_WriteString_k w.heap.size w.heap.size _ _ _ hI2 afa hbw2.size).mono ?_)
    rintro e W1 ⟨rfl,h1,b1,_⟩
    go_wp2
    go_roundw
    case rel=>
     refine⟨k+1,by go_num,adK,?_,hbw2.trans b1⟩
     rw[←Tryz.rR s k hp (by simp[Bf.sS,d3])]
     exact ahz
    case measure=>simp[intOf];omega
   cases d4:((s[k].toNat:Int)==92)
   case true=>
    go_wp2
    refine wp_region_still_tail 14 adN adN ?_;simp only[List.take_succ_cons,List.take_zero,List.drop_succ_cons,List.drop_zero]
    (repeat still_step)
    try refine wpStill_nil ?_
    have hI2:Lib.IsBuilderF 270 5 w.heap.size w.heap.size (Lib.byteCells (Tryz.cX s k)) wr.drew:=hI;have hbw2:Below w.heap.size w wr.drew:=hbw.drew
    change wpList _ _ _ _ _ wr.drew
    generalize wr.drew=w2 at hI2 hbw2⊢
    go_wp2_with (go_at_call 184;refine(Tryz.Builder_WriteString_k w.heap.size w.heap.size _ _ _ hI2 afa hbw2.size).mono ?_)
    rintro e W1 ⟨rfl,h1,b1,_⟩
    go_wp2
    go_roundw
    case rel=>
     refine⟨k+1,by go_num,adK,?_,hbw2.trans b1⟩
     rw[←Tryz.rR s k hp (by simp[Bf.sS,d4])]
     exact ahz
    case measure=>simp[intOf];omega
   go_wp2_with (go_at_call 183;refine(Tryz.Builder_WriteByte_k w.heap.size w.heap.size _ _ _ hI (by rw[Lib.byteCells_length];omega) hbw.size).mono ?_)
   rintro e W1 rfl h1 b1 _
   go_wp2
   go_roundw
   case rel=>
    refine⟨k+1,by go_num,adK,?_,hbw.trans b1⟩
    rw[←Tryz.FU s k hp (by simp[Bf.sS,d1,d2,d3,d4])]
    exact ahz
   case measure=>simp[intOf];omega
  ·have hk2:k=s.size:=by omega
   subst hk2;have hql:=Tryz.ux s s.size hk hs
   go_wp2_with (go_at_call 183;refine(Tryz.Builder_WriteByte_k w.heap.size w.heap.size _ _ _ hI (by rw[Lib.byteCells_length];omega) hbw.size).mono ?_)
   rintro e W1 ⟨rfl,h1,b1,_⟩
   have e34:Lib.byteCells (Tryz.cX s s.size)++ [Value.int .u8 34]=Lib.byteCells (Bf.iJ s.data.toList):=by
    rw[←Tryz.Au,Lib.byteCells_append];rfl
   rw[e34]at h1
   go_wp2_with (go_at_call 185;refine(Tryz.Builder_String_k w.heap.size w.heap.size _ _ (Or.inr h1) (by simp[Bf.iJ])).mono ?_)
   rintro e W2 ⟨rfl,_,b2,_⟩
   go_wp2
   go_ret
   exact⟨rfl,(hbw.trans b1).trans b2⟩
end Go.Proofs
namespace Go.Proofs.YtfdgemhnlennbaaGreatDoor
open Go Go.Ab Go.Bf
theorem vG:Quoted:=fun s h hs=>by
 refine .lib ⟨_,Tryz.func137,adN,rfl⟩ fun c vs hs' g h1 h2=>?_
 obtain⟨v,rfl⟩:∃v,vs= #[v]:=Array.size_eq_one_iff.1 h1;have e:v= .string ⟨s.toArray⟩:=((h2 0 adR).lK).1;subst e;refine(Tryz.EE ⟨s.toArray⟩ c.w (by simpa[ByteArray.size]using hs)).mono ?_
 rintro e w' ⟨rfl,hb⟩
 have hl:=BB s hs;exact⟨⟨_,rfl,fun c' _=> .s _ (by show(iJ s).length<lim;have:(194:Nat)<lim:=adO;omega)⟩,hb⟩
end Go.Proofs.YtfdgemhnlennbaaGreatDoor
namespace Go.Ab
open Go
inductive Av (F:Nat→Prop):AV→Prop where
 |v (x:Value):Av F (.v x)
 |s (l:List UInt8):Av F (.s l)
 |agg (xs:List AV) (h:∀x∈xs,Av F x):Av F (.agg xs)
 |tup (xs:List AV) (h:∀x∈xs,Av F x):Av F (.tup xs)
 |sl (xs:List AV) (p:Perm) (h:∀x∈xs,Av F x) (hp:∀id,p= .own id→¬F id):Av F (.sl xs p)
 |pe (x:AV) (o:Nat) (h:Av F x):Av F (.pe x o)
 |ptr (id o:Nat) (h:¬F id):Av F (.ptr id o)
 |oa (id o l:Nat) (h:¬F id):Av F (.oa id o l)
 |ob (id o l c z:Nat) (h:¬F id):Av F (.ob id o l c z)
 |ifc (t:TypeId) (x:AV) (h:Av F x):Av F (.ifc t x)
 |fn (f:FuncId) (xs:List AV) (h:∀x∈xs,Av F x):Av F (.fn f xs)
 |mp (id:Nat) (h:¬F id):Av F (.mp id)
theorem Av.cells{F:Nat→Prop}{x:AV}(h:Av F x):∀y∈x.cells,Av F y:=by
 cases h with
 |agg xs hx=>exact hx
 |_=>intro y hy;rw[List.mem_singleton.1 hy];constructor<;>assumption
theorem Av.Em{F:Nat→Prop}{x:AV}(h:∀y∈x.cells,Av F y):Av F x:=by
 cases x with
 |agg xs=>exact .agg xs h
 |_=>exact h _ (List.mem_singleton.2 rfl)
theorem Rep.av{c:Cx}{F:Nat→Prop}(hF:∀id,F id→c.h id=none){x:AV}{u:Value}(h:Rep c x u):Av F x:=by
 have nf:∀ {id:Nat} {k:Blk},c.h id=some k→¬F id:=fun hk hf=>adL
 induction h with
 |v x=>exact .v x
 |s l hl=>exact .s l
 |agg xs vs hn hr ho ih=>exact .agg xs fun x hx=>afs
 |tup xs vs hn hr ih=>exact .tup xs fun x hx=>afs
 |sl xs p a cap sz val hc hm h0 hs hz hf hr ho hp ih=>
  refine .sl xs p (fun x hx=>?_) fun id e=>?_
  ·obtain⟨i,hi,rfl⟩:=List.mem_iff_getElem.1 hx
   refine .Em fun y hy=>?_
   obtain⟨j,hj,rfl⟩:=List.mem_iff_getElem.1 hy
   grind
  ·subst e
   obtain⟨m,h1,_⟩:=hp
   grind
 |pe x off b o val hb hf hr ho ih=>
  refine .pe x off (.Em fun y hy=>?_)
  obtain⟨j,hj,rfl⟩:=List.mem_iff_getElem.1 hy
  grind
 |ptr id off cs t h=>exact .ptr _ _ (nf h)
 |oa id off len cap o cs t h hc hm ho=>exact .oa _ _ _ (nf h)
 |ob id off len cap sz o cs t h hc hm ho=>exact .ob _ _ _ _ _ (nf h)
 |ifc t x u h ih=>exact .ifc t x ih
 |fn f xs vs hn hr ih=>exact .fn f xs fun x hx=>afs
 |mp id m h=>exact .mp _ (nf h)
noncomputable def Cx.back (c' :Cx) (g:Heap):Cx:={c' with h:=fun id=>if g id=none then none else c'.h id}
theorem uZ{c' :Cx}{g:Heap}{id:Nat}{k:Blk}(h:(c'.back g).h id=some k):g id≠none∧c'.h id=some k:=by
 grind [Cx.back]
theorem kS{c' :Cx}{g:Heap}{id:Nat}(h:g id≠none):(c'.back g).h id=c'.h id:=by
 simp_all [Cx.back,if_false]
theorem yc{c' :Cx}{g:Heap}{b o:Nat}(h:owned (c'.back g) b o):owned c' b o:=by
 obtain⟨id,k,h1,h2,h3⟩:=h;exact⟨id,k,(uZ h1).2,h2,h3⟩
theorem yb{c' :Cx}{g:Heap}{b o:Nat}{u:Value}(h:fix c' b o u):fix (c'.back g) b o u:=⟨h.1,fun ho=>h.2 (yc ho)⟩
theorem Rep.back{c' :Cx}{g:Heap}{x:AV}{u:Value}(h:Rep c' x u)(ha:Av (fun id=>g id=none) x):Rep (c'.back g) x u:=by
 induction h with
 |v x=>exact .v x
 |s l hl=>exact .s l hl
 |agg xs vs hn hr ho ih=>cases ha with|agg _ ha=>exact .agg xs vs hn adL ho
 |tup xs vs hn hr ih=>cases ha with|tup _ ha=>exact .tup xs vs hn adL
 |sl xs p a cap sz val hc hm h0 hs hz hf hr ho hp ih=>
  cases ha with
  |sl _ _ ha hq=>
   refine .sl xs p a cap sz val hc hm h0 hs hz (by grind [yb]) (fun i hi j hj=>ih i hi j hj ((ha _ (adF hi)).cells _ (adF hj))) ho ?_
   cases p with
   |no=>trivial
   |full=>exact hp
   |own id=>
    obtain⟨m,h1,h2,h3⟩:=hp;exact⟨m,by rw[kS (hq id rfl)];omega,h2,h3⟩
 |pe x off b o val hb hf hr ho ih=>
  cases ha with
  |pe _ _ ha=>exact .pe x off b o val hb (by grind [yb]) (fun j hj=>ih j hj (ha.cells _ (adF hj))) ho
 |ptr id off cs t h=>cases ha with|ptr _ _ ha=>exact .ptr id off cs t (by grind [kS])
 |oa id off len cap o cs t h hc hm ho=>cases ha with|oa _ _ _ ha=>exact .oa id off len cap o cs t (by grind [kS]) hc hm ho
 |ob id off len cap sz o cs t h hc hm ho=>cases ha with|ob _ _ _ _ _ ha=>exact .ob id off len cap sz o cs t (by grind [kS]) hc hm ho
 |ifc t x u h ih=>cases ha with|ifc _ _ ha=>exact .ifc t x u (ih ha)
 |fn f xs vs hn hr ih=>cases ha with|fn _ _ ha=>exact .fn f xs vs hn adL
 |mp id m h=>cases ha with|mp _ ha=>exact .mp id m (by grind [kS])
inductive Frz (g h:Heap):AV→AV→Prop where
 |keep (x:AV) (ha:Av (fun id=>g id=none) x):Frz g h x x
 |agg (xs ys:List AV) (hn:xs.length=ys.length) (hr:∀i (h1:i<xs.length) (h2:i<ys.length),Frz g h xs[i] ys[i]):Frz g h (.agg xs) (.agg ys)
 |tup (xs ys:List AV) (hn:xs.length=ys.length) (hr:∀i (h1:i<xs.length) (h2:i<ys.length),Frz g h xs[i] ys[i]):Frz g h (.tup xs) (.tup ys)
 |sl (xs ys:List AV) (p:Perm) (hn:xs.length=ys.length) (hz:∀i (h1:i<xs.length) (h2:i<ys.length),xs[i].cells.length=ys[i].cells.length)
   (hr:∀i (h1:i<xs.length) (h2:i<ys.length) j (h3:j<xs[i].cells.length) (h4:j<ys[i].cells.length),Frz g h xs[i].cells[j] ys[i].cells[j]):Frz g h (.sl xs p) (.sl ys .no)
 |ob (id off len cap sz:Nat) (cs:List AV) (t:TypeId) (ys:List AV) (hg:g id=none) (hh:h id=some (.obj cs t)) (hl:off+len*sz≤cs.length) (hn:ys.length=len) (hz:∀i (h1:i<ys.length),ys[i].cells.length=sz)
   (hr:∀i (h1:i<ys.length) j (h3:j<ys[i].cells.length) (h4:off+(i*sz+j)<cs.length),Frz g h (cs[off+(i*sz+j)]) ys[i].cells[j]):Frz g h (.ob id off len cap sz) (.sl ys .no)
 |ptr (id off:Nat) (cs:List AV) (t:TypeId) (ys:List AV) (hg:g id=none) (hh:h id=some (.obj cs t)) (hn:cs.length=ys.length) (hr:∀i (h1:i<cs.length) (h2:i<ys.length),Frz g h cs[i] ys[i]):Frz g h (.ptr id off) (.pe (.agg ys) off)
 |ifc (t:TypeId) (x y:AV) (hr:Frz g h x y):Frz g h (.ifc t x) (.ifc t y)
theorem Frz.rep{c' :Cx}{g h:Heap}(gd:Good c')(hh:Sub h c'.h){x y:AV}(hz:Frz g h x y):∀ {u:Value},Rep c' x u→Rep (c'.back g) y u:=by
 have nown:∀ {id:Nat} {k:Blk} {o:Nat},g id=none→h id=some k→¬owned (c'.back g) (c'.φ id).block o:=fun {id k o} h1 h2 ho=>by
  obtain⟨j,l,h3,h4,h5⟩:=ho;obtain⟨h6,h7⟩:=uZ h3;exact gd.inj j id l k h7 (hh _ _ h2) (fun e=>h6 adL) h4
 induction hz with
 |keep x ha=>exact fun hr=>hr.back ha
 |agg xs ys hn hr ih=>
  intro u hu;obtain⟨vs,rfl,h1,h2,h3⟩:=hu.o6;exact .agg ys vs adK (fun i hi=>ih i adK hi (h2 i adK)) fun i hi=>h3 i adK
 |tup xs ys hn hr ih=>
  intro u hu;obtain⟨vs,rfl,h1,h2⟩:=hu.CO;exact .tup ys vs adK (fun i hi=>ih i adK hi (h2 i adK))
 |sl xs ys p hn hz hr ih=>
  intro u hu;obtain⟨a,cap,sz,val,rfl,hs⟩:=hu.iK;rw[hn];have hcap:=hs.hc;refine .sl ys .no a cap sz val adK hs.hm hs.h0 hs.hs (fun i hi=>by rw[←hz i adK hi];exact hs.hz i adK) (fun q hq i j hi hj=>yb (hs.hf q hq i j adK hj)) (fun i hi j hj=>?_) (fun i j hi hj=>hs.ho i j adK hj) trivial
  exact ih i adK hi j adL hj (hs.hr i adK j adL)
 |ob id off len cap sz cs t ys hg hid hl hn hz hr ih=>
  intro u hu;obtain⟨o,rfl,h1,h2,cs',t',h3,h4⟩:=hu.jB;have hcid:=hh _ _ hid;obtain⟨vs,v1,v2,v3⟩:=gd.obj id cs t hcid;subst hn;have hbd:∀i j,i<ys.length→j<sz→i*sz+j<ys.length*sz:=fun i j hi hj=>by
   have:(i+1)*sz≤ys.length*sz:=Nat.mul_le_mul_right _ adK;rw[Nat.add_mul,Nat.one_mul]at this;omega
  refine .sl ys .no _ cap sz (fun i j=>vs.getD (off+(i*sz+j)) undef) h1 h2 (fun e=>ad8) (fun q hq _=>?_) hz (fun q hq i j hi hj=>?_) (fun i hi j hj=>?_) (fun i j hi hj=>(v3 _ adL).2) trivial
  ·cases hq
   exact⟨rfl,gd.lt hcid⟩
  ·cases hq
   obtain⟨rfl,_⟩:=h4 adK;have hb:=hbd i j hi hj;refine⟨?_,nown hg hid⟩;have:o+(i*sz+j)<vs.size:=adK;simp[World.cell?,Cx.back,v1,this]
  ·have hj' :j<sz:=by grind
   have hb:=hbd i j hi hj';exact ih i hi j hj adK (v3 _ adK).1
 |ptr id off cs t ys hg hid hn hr ih=>
  intro u hu;obtain⟨rfl,_⟩:=hu.kX;have hcid:=hh _ _ hid;obtain⟨vs,v1,v2,v3⟩:=gd.obj id cs t hcid;have:=Rep.pe (c:=c'.back g) (.agg ys) off (c'.φ id).block 0 (fun j=>vs.getD j undef) (gd.lt hcid) (fun j hj=>by
    have hj' :j<ys.length:=hj;refine⟨?_,nown hg hid⟩
    simp_all [World.cell?,Cx.back]) (fun j hj=>by
    have hj' :j<ys.length:=hj;exact ih j adK hj' (v3 j adK).1) (fun j hj=>by
    have hj' :j<ys.length:=hj;exact(v3 j adK).2)
  rw[Nat.zero_add]at this;exact aer
 |ifc t x y hr ih=>
  intro u hu;cases hu with
  |ifc _ _ u' h=>exact .ifc t y _ (ih h)
theorem ai.freeze{P:Program}{f:FuncId}{args:List AV}{h:Heap}{Q:AV→Prop}
  (hf:∀g,Sub h g→(∀x∈args,Av (fun id=>g id=none) x)→ai P f args g fun r h' =>Sub g h'∧∃y,Frz g h' r y∧Q y):ai P f args h fun r h' =>Q r∧h' =h:=by
 intro c vs hs gd h1 h2;have hav:∀x∈args,Av (fun id=>c.h id=none) x:=fun x hx=>by
  obtain⟨i,hi,rfl⟩:=List.mem_iff_getElem.1 hx;exact(h2 i hi).av fun _ e=>e
 refine(hf c.h hs hav c vs (.refl _) gd h1 h2).mono ?_
 rintro u w' ⟨c',x,h',rfl,gd',hE,hr,hsub,hgh,y,hz,hq⟩
 have hkeep:∀id k,c.h id=some k→c'.h id=some k:=fun id k hk=>hsub _ _ (hgh _ _ hk)
 have hE2:Ext c (c'.back c.h):={
  os:=hE.os,tape:=hE.tape,output:=hE.output,size:=hE.size,block:=hE.block,cell:=hE.cell,shape:=hE.shape
  steal:=fun b o hb ho=>hE.steal b o hb (yc ho)
  obj:=fun id cs t hi=>by rw[kS adL];exact hE.obj id cs t hi
  spare:=fun id n sz hi=>by rw[kS adL];exact hE.spare id n sz hi
  mp:=fun id m hi=>by rw[kS adL];exact hE.mp id m hi
  ro:=fun id b vs hi=>by rw[kS adL];exact hE.ro id b vs hi}
 have hold:∀id k,(c'.back c.h).h id=some k→c.h id=some k∧c'.h id=some k:=fun id k hk=>by
  obtain⟨a1,a2⟩:=uZ hk;cases hc:c.h id with
  |none=>grind
  |some k' =>grind
 refine⟨c'.back c.h,y,h,rfl,?_,hE2,hz.rep gd' hsub hr,fun id k hk=>?_,hq,rfl⟩
 ·refine⟨?_,fun i j k l hi hj hne=>gd'.inj i j k l (hold i k hi).2 (hold j l hj).2 hne,fun id cs t hi=>?_,fun id n sz hi=>gd'.spare id n sz (hold id _ hi).2,fun id m hi=>?_,fun id m hi=>gd'.keys id m (hold id _ hi).2,fun id b vs hi=>gd'.ro id b vs (hold id _ hi).2⟩
  ·obtain⟨N,hN⟩:=gd'.fin
   exact⟨N,fun id hid=>by grind [Cx.back]⟩
  ·obtain⟨vs,v1,v2,v3⟩:=gd'.obj id cs t (hold id _ hi).2
   obtain⟨vs0,w1,w2,w3⟩:=gd.obj id cs t (hold id _ hi).1;exact⟨vs,v1,v2,fun j hj=>⟨(v3 j hj).1.back ((w3 j hj).1.av fun _ e=>e),(v3 j hj).2⟩⟩
  ·obtain⟨es,cl,v1,v2,v3⟩:=gd'.mp id m (hold id _ hi).2
   obtain⟨es0,cl0,w1,w2,w3⟩:=gd.mp id m (hold id _ hi).1;exact⟨es,cl,v1,v2,fun i hi' hi2=>⟨(v3 i hi' hi2).1,(v3 i hi' hi2).2.back ((w3 i hi' adK).2.av fun _ e=>e)⟩⟩
 ·rw[kS (by rw[hs _ _ hk];simp)]
  exact hkeep id k (hs _ _ hk)
section
variable {P : Program} {U : TypeId → TI} {ρ : Env} {h h' : Heap} {sz : Nat} {y : AV} {xs : List AV} {e : TypeId}
def Rd(h:Heap)(sz:Nat)(y:AV)(xs:List AV):Prop:=
 Sized sz xs∧((∃q,y= .sl xs q)∨∃id off cap cs t,y= .ob id off xs.length cap sz∧h id=some (.obj cs t)∧off+xs.length*sz≤cs.length∧(cs.drop off).take (xs.length*sz)=au xs)
theorem Rd.sl(hs:Sized sz xs)(q:Perm):Rd h sz (.sl xs q) xs:=⟨hs,.inl ⟨q,rfl⟩⟩
theorem Rd.sub(hb:Rd h sz y xs)(hs:Sub h h'):Rd h' sz y xs:=by
 obtain⟨h1,hb|⟨id,off,cap,cs,t,rfl,h2,h3⟩⟩:=hb
 ·exact⟨h1,.inl hb⟩
 ·exact⟨h1,.inr ⟨id,off,cap,cs,t,rfl,hs _ _ h2,h3⟩⟩
theorem Rd.len(hb:Rd h sz y xs)(e:TypeId)(k:AV→Prop):xw y k (.slice e)=k (.i xs.length):=by
 exact aiY
theorem Rd.cells(hb:Rd h sz y xs):y.cells= [y]:=by
 exact aiY
theorem Rd.fit(hb:Rd h sz y xs)(m:Nat):fit y m=(m=1):=by
 exact aiY
theorem Rd.src(hb:Rd h sz y xs)(hz:(U e).sz=sz){f:List AV→Prop}(hf:f xs):iL U e h y f:=by
 obtain⟨_,⟨q,rfl⟩|⟨id,off,cap,cs,t,rfl,h2,h3,h4⟩⟩:=hb
 ·exact hf
 ·rw[P4,h2]
  exact⟨hz.symm,xs,rfl,h3,h4.symm,hf⟩
def At(h:Heap)(p x:AV)(o:Nat):Prop:=p= .pe x o∨∃id a cs t,p= .ptr id (a+o)∧h id=some (.obj cs t)∧a+x.cells.length≤cs.length∧(cs.drop a).take x.cells.length=x.cells
theorem At.sub{p x:AV}{o:Nat}(ha:At h p x o)(hs:Sub h h'):At h' p x o:=by
 rcases ha with rfl|⟨id,a,cs,t,rfl,h2,h3⟩
 ·exact .inl rfl
 ·exact .inr ⟨id,a,cs,t,rfl,hs _ _ h2,h3⟩
theorem GH{cs:List AV}{x:AV}{a o:Nat}{i:TI}{k:AV→Prop}(h1:a+x.cells.length≤cs.length)(h2:(cs.drop a).take x.cells.length=x.cells)(h3:i.sz≠0)(h4:o+i.sz≤x.cells.length):iI cs (a+o) i k=iI x.cells o i k:=by
 unfold iI;split
 ·have e:(cs.drop (a+o)).take i.sz=(x.cells.drop o).take i.sz:=by
   grind [List.drop_take,List.drop_drop,Nat.min_eq_left]
  apply propext
  grind
 grind
theorem At.part{p x:AV}{o:Nat}(ha:At h p x o){ty:TypeId}(hz:(U ty).sz≠0)(hl:o+(U ty).sz≤x.cells.length)(k:AV→Prop):nV U h ty p k=iI x.cells o (U ty) k:=by
 rcases ha with rfl|⟨id,a,cs,t,rfl,h2,h3,h4⟩
 ·rw[Mz]
  unfold atA;split
  ·rename_i hc
   obtain⟨rfl,hc2,hc3⟩:=hc;unfold iI;split
   ·rename_i hag
    rw[hag]at hc3;have:x= .agg x.cells:=by cases x<;>first|rfl|cases hc3
    rw[List.drop_zero,←hc2,List.take_length,Nat.zero_add,←this];simp
   simp_all [bC,false,oK]
  ·rfl
 ·rw[J5,h2]
  exact GH h3 h4 hz hl
theorem At.all{p x:AV}(ha:At h p x 0){ty:TypeId}(hz:(U ty).sz≠0)(hl:x.cells.length=(U ty).sz)(hg:bC x=(U ty).k.agg)(k:AV→Prop):nV U h ty p k=k x:=by
 rw[ha.part hz adK];unfold iI;split
 ·rename_i hag
  rw[hag]at hg;have:x= .agg x.cells:=by cases x<;>first|rfl|cases hg
  rw[List.drop_zero,←hl,List.take_length,Nat.zero_add,←this];simp
 simp_all [bC,false,oK]
theorem At.field{p x:AV}{o:Nat}(ha:At h p x o){f off:Nat}{t:TypeId}{fs:List (Nat×TypeId)}{K:AV→Prop}(hf:fs[f]? =some (off,t))(hz:(U t).sz≠0)(hk:∀p',At h p' x (o+off)→K p'):yx U f p K (.strct fs):=by
 rcases ha with rfl|⟨id,a,cs,t',rfl,h2,h3,h4⟩
 ·rw[Jo,hf]
  exact⟨hz,hk _ (.inl rfl)⟩
 ·rw[FW,hf]
  exact⟨hz,hk _ (.inr ⟨id,a,cs,t',adL,h2,h3,h4⟩)⟩
theorem Rd.idx(hb:Rd h sz y xs){m:Int}{x:IntKind}{K:AV→Prop}(j:Nat)(hm:m=j)(hj:j<xs.length)(hz:(U e).sz=sz)(h0:sz≠0)(hk:∀p,At h p xs[j] 0→K p):pI U y (.v (.int x m)) K (.slice e):=by
 subst hm;have hc:=hb.1 xs[j] (adF hj);obtain⟨hs,⟨q,rfl⟩|⟨id,off,cap,cs,t,rfl,h2,h3,h4⟩⟩:=hb
 ·refine(vj ..).mpr ⟨adK,?_⟩
  exact fo.at j hj adK (hk _ (.inl rfl))
 ·refine(Bg ..).mpr ⟨adK,hz.symm,adK,adK,hk _ (.inr ⟨id,off+j*sz,cs,t,adR,h2,?_,?_⟩)⟩
  ·have:(j+1)*sz≤xs.length*sz:=Nat.mul_le_mul_right _ adK
   rw[Nat.add_mul,Nat.one_mul]at this;rw[hc];omega
  ·have e1:=pn hs j hj
   rw[←h4,List.drop_take,List.take_take,List.drop_drop]at e1;rw[hc];have:(j+1)*sz≤xs.length*sz:=adL;rw[Nat.add_mul,Nat.one_mul]at this;rw[Nat.min_eq_left adK]at e1;exact e1
def Ow(tb:TypeId)(h:Heap)(sz id:Nat)(y:AV)(xs:List AV):Prop:=
 ∃cap rest,y= .ob id 0 xs.length cap sz∧h id=some (.obj (au xs++rest) tb)∧rest.length=(cap - xs.length)*sz∧xs.length≤cap∧Sized sz xs
variable {tb : TypeId} {id : Nat}
theorem Ow.rd(hw:Ow tb h sz id y xs):Rd h sz y xs:=by
 obtain⟨cap,rest,rfl,h1,h2,h3,h4⟩:=hw;have hl:=aZ h4;exact⟨h4,.inr ⟨id,0,cap,_,tb,rfl,h1,adL,adL⟩⟩
theorem Ow.sub(hw:Ow tb h sz id y xs)(hs:Sub h h'):Ow tb h' sz id y xs:=by
 obtain⟨cap,rest,e1,h1,h2⟩:=hw;exact⟨cap,rest,e1,hs _ _ h1,h2⟩
theorem Ow.same(hw:Ow tb h sz id y xs)(hs:h' id=h id):Ow tb h' sz id y xs:=by
 obtain⟨cap,rest,e1,h1,h2⟩:=hw;exact⟨cap,rest,e1,hs.trans h1,h2⟩
theorem Ow.none(hw:Ow tb h sz id y xs):h id≠Option.none:=by
 obtain⟨cap,rest,e1,h1,h2⟩:=hw
 grind
theorem Ow.make{cs:List AV}{cap:Nat}{rest:List AV}(hs:Sized sz xs)(hcs:cs=au xs){n:Nat}(hn:n=xs.length)(hc:n≤cap)(hr:rest.length=(cap - n)*sz):Ow tb (upd h id (some (.obj (cs++rest) tb))) sz id (.ob id 0 n cap sz) xs:=by
 subst hcs;subst hn
 exact⟨cap,rest,rfl,ah ..,hr,hc,hs⟩
theorem kC.ow{cs:List AV}{n:Nat}{Q:AV→Heap→Prop}(hs:Sized sz xs)(hcs:cs=au xs)(hn:n=xs.length)(hk:∀id y h',h id=Option.none→Ow tb h' sz id y xs→(∀j,j≠id→h' j=h j)→Q y h'):kC h cs n sz tb Q:=
 fun id cap rest hid hc hr=>hk id _ _ hid (Ow.make hs hcs hn hc hr) fun j hj=>ag _ _ hj
theorem Kj{us vs:List AV}{o:Nat}{c:List AV}:over (us++vs) (us.length+o) c=us++over vs o c:=by
 simp[Ab.over,Nat.add_assoc,List.take_length_add_append,List.drop_length_add_append,List.append_assoc]
theorem Jy{xs:List AV}(hs:Sized sz xs)(j:Nat)(hj:j<xs.length)(x:AV)(hx:x.cells.length=sz):au (xs.set j x)=over (au xs) (j*sz) x.cells:=by
 induction xs generalizing j with
 |nil=>grind
 |cons a r ih=>
  have h1:=hs a adR;have h2:Sized sz r:=fun z hz=>hs z adL
  cases j with
  |zero=>
   simp only[List.set_cons_zero,kJ,Ab.over,Nat.zero_mul,List.take_zero,List.nil_append,Nat.zero_add];rw[hx,←h1,List.drop_left]
  |succ j=>
   have hj' :j<r.length:=adL;have e1:(j+1)*sz=a.cells.length+j*sz:=adL;rw[List.set_cons_succ,kJ,kJ,ih h2 j hj',e1,Kj]
theorem Jx{xs:List AV}(hs:Sized sz xs)(j:Nat)(hj:j<xs.length)(o:Nat)(c:List AV)(ho:o+c.length≤sz):over (au xs) (j*sz+o) c=au (xs.set j (.agg (over xs[j].cells o c))):=by
 have hc:=hs xs[j] (adF hj);have hl:(over xs[j].cells o c).length=sz:=by grind [iH]
 rw[Jy hs j hj (.agg (over xs[j].cells o c)) hl];have hp:=pn hs j hj;have e1:(au xs).take (j*sz+o)=(au xs).take (j*sz)++xs[j].cells.take o:=by
  rw[←hp,List.take_take,Nat.min_eq_left adK,List.take_add]
 have e2:(au xs).drop (j*sz+o+c.length)=xs[j].cells.drop (o+c.length)++(au xs).drop (j*sz+sz):=by
  have e3:(au xs).drop (j*sz)=xs[j].cells++(au xs).drop (j*sz+sz):=by
   grind [List.drop_drop,List.take_append_drop]
  rw[Nat.add_assoc,←List.drop_drop,e3,List.drop_append_of_le_length adK]
 show over (au xs) (j*sz+o) c=over (au xs) (j*sz) (over xs[j].cells o c)
 grind [over,Ab.over,List.append_assoc]
theorem MU{us vs:List AV}{o:Nat}{c:List AV}(h1:o+c.length≤us.length):over (us++vs) o c=over us o c++vs:=by
 grind [Ab.over,List.append_assoc]
theorem Ow.idx(hw:Ow tb h sz id y xs){m:Int}{x:IntKind}{K:AV→Prop}(j:Nat)(hm:m=j)(hj:j<xs.length)(hz:(U e).sz=sz)(h0:sz≠0)(hk:K (.ptr id (j*sz))):pI U y (.v (.int x m)) K (.slice e):=by
 obtain⟨cap,rest,rfl,h1,h2,h3,h4⟩:=hw
 simp_all [Bg,Nat.zero_add,Int.toNat_natCast]
def OwE(tb:TypeId)(h0 h:Heap)(sz:Nat)(y:AV)(xs:List AV):Prop:=(xs= []∧y= .sl [] .full)∨∃id,h0 id=Option.none∧Ow tb h sz id y xs
variable {h0 : Heap}
theorem OwE.rd(hw:OwE tb h0 h sz y xs):Rd h sz y xs:=by
 rcases hw with⟨rfl,rfl⟩|⟨id,_,hw⟩
 ·exact .sl (fun z hz=>adL) _
 ·exact hw.rd
theorem OwE.sub(hw:OwE tb h0 h sz y xs)(hs:Sub h h'):OwE tb h0 h' sz y xs:=by
 rcases hw with hw|⟨id,h1,hw⟩
 ·exact ahJ
 ·exact .inr ⟨id,h1,hw.sub hs⟩
theorem OwE.ow(hw:OwE tb h0 h sz y xs)(hn:xs≠ []):∃id,h0 id=Option.none∧Ow tb h sz id y xs:=by
 rcases hw with hw|hw
 ·grind
 omega
theorem OwE.app{v:AV}{zs:List AV}{Q:AV→Heap→Prop}(hw:OwE tb h0 h sz y xs)(hs0:Sub h0 h)(hb:Rd h sz v zs)(hz:(U tb).sz=sz)(h1:sz≠0)(hby:(U tb).bytes≠0)(hf:Ab.fit (U tb).zero sz)(hne:zs≠ [])(hlen:(xs.length+zs.length)*(U tb).bytes≤140737488355328)
  (hk:∀id y' h',h0 id=Option.none→(h id=Option.none∨∃l c,y= .ob id 0 l c sz)→Ow tb h' sz id y' (xs++zs)→(∀j,j≠id→h' j=h j)→Q y' h'):apK U h y v Q (.slice tb):=by
 subst hz;rcases hw with⟨rfl,rfl⟩|⟨id,h2,cap,rest,rfl,h3,h4,h5,h6⟩
 ·refine(qA ..).mpr ⟨h1,hby,hb.src rfl ⟨by simp[Sized],hb.1,adK,fun hn=>(hne hn).elim,fun _=>?_⟩⟩
  refine .ob hf (kC.ow (by simpa using hb.1) adV adR fun id y' h' hid hw ho=>?_)
  exact hk id _ _ (hs0.none hid) (.inl hid) adL ho
 ·have hl:=aZ h6
  refine⟨h1,hby,rfl,hb.src rfl ⟨hb.1,hlen,?_⟩⟩;rw[h3];have hsz:Sized (U tb).sz (xs++zs):=fun z hz=>(List.mem_append.1 hz).elim (h6 z) (hb.1 z)
  refine⟨adL,hf,fun hle=>?_,fun hgt=>?_⟩
  ·have hlz:=aZ hb.1
   have hmul:(cap - xs.length)*(U tb).sz=zs.length*(U tb).sz+(cap - (xs.length+zs.length))*(U tb).sz:=by rw[←Nat.add_mul];grind
   refine hk id _ _ h2 (.inr ⟨_,_,rfl⟩) ⟨cap,rest.drop (zs.length*(U tb).sz),adR,?_,?_,adL,hsz⟩ fun j hj=>ag _ _ hj
   ·simp_all [ah,mF,Nat.zero_add,Ab.over,List.take_left,List.drop_append,List.drop_of_length_le]
   grind
  ·refine kC.ow hsz ?_ adR fun id' y' h' hid hw ho=>?_
   ·grind [mF,List.take_left]
   ·exact hk id' _ _ (hs0.none hid) (.inl hid) hw ho
theorem wU {f : FuncId} {fn : Func} {tS tR : TypeId} (hU : ∀ t, aO P U t) (hfn : P.funcs[f]? = some fn) (hname : (fn.name == "runtime.NumGoroutine") = false) (hb : fn.body.isNone = true) (hn : Extern.findNext fn = Option.none)
  (he:Extern.find fn=some (Extern.SlicesOverlaps.overlaps #[tS,tS] #[tR])) (hty:(U tS).k= .slice e) (hz:(U e).sz≠0) {q:Perm} (hx:Sized (U e).sz xs) (hne:xs≠ []) {id off len cap sz:Nat} {cs:List AV} {t:TypeId} (hid:h id=some (.obj cs t)) (hcs:cs≠ []):
  ai P f [.sl xs q,.ob id off len cap sz] h fun r h' =>r= .b false∧h' =h:=by
 intro c vs hs g h1 h2;obtain⟨a,cap0,sz0,val,hu,sl⟩:=(h2 0 adR).iK;obtain⟨o,hv,_⟩:=(h2 1 adR).jB;have hd:=(hU tS).desc;rw[hty]at hd;have hpos:0<xs.length:=List.length_pos_iff.2 hne;have hcap:=sl.hc;obtain⟨qa,rfl⟩:∃qa,a=some qa:=by
  cases a with
  |none=>have:=sl.h0 rfl;omega
  |some qa=>simp
 have hs0:sz0=(U e).sz:=by rw[←sl.hz 0 hpos];exact hx _ (adF hpos)
 have hf:=sl.hf qa rfl 0 0 hpos adK;have hq:=(sl.hs qa rfl adK).1;have hcid:=hs _ _ hid;obtain⟨us,u1,u2,u3⟩:=g.obj id cs t hcid;have hnb:qa.block≠(c.φ id).block:=fun hh=>hf.2 ⟨id,_,hcid,hh.symm,Nat.zero_le _⟩
 obtain⟨ws,tw,fr,hws,hwlt⟩:∃ws tw fr,c.w.heap[qa.block]? =some (.cells ws tw fr)∧0<ws.size:=by
  have:=hf.1;simp only[World.cell?]at this;split at this
  ·rename_i ws tw fr hh
   refine⟨ws,tw,fr,hh,?_⟩
   grind
  all_goals cases this
 have hvs:vs= #[.slice (some qa) xs.length cap0,.slice (some ⟨(c.φ id).block,o,Option.none⟩) len cap]:=by
  apply Array.ext
  ·omega
  ·intro i hi hi2
   have hi3:i<2:=adK;rcases i with _|_|i
   ·simpa[Array.getD,hi]using hu
   ·simpa[Array.getD,hi]using hv
   ·omega
 subst hvs;refine .inr ⟨.bool false,c.w,?_,c,_,h,rfl,g,.refl c,.v _,hs,rfl,rfl⟩;rw[Go.run_callFunc_extern hfn hname hb hn he];have key:(Extern.SlicesOverlaps.overlaps #[tS,tS] #[tR] #[.slice (some qa) xs.length cap0,.slice (some ⟨(c.φ id).block,o,Option.none⟩) len cap]).run P c.w= .ok (.bool false) c.w:=by
  have hnb1:(qa.block !=(c.φ id).block)=true:=adL;have hnb2:(qa.block==(c.φ id).block)=false:=adL;have hws2:∃m,ws.size=m+1:=⟨ws.size - 1,adK⟩;obtain⟨m,hm⟩:=hws2
  change Sem.run P (α:=Value) (do
   let some t := (#[tS, tS] : Array TypeId)[0]? | stuck "slices.overlaps: no parameter types"
   let .slice elem ← underlying t | stuck "slices.overlaps: slice type expected"
   let size←sizeOf elem
   match (some qa:Option Addr),(some ⟨(c.φ id).block,o,Option.none⟩:Option Addr)with
   |some a,some b=>
    if xs.length=0∨len=0∨size=0 then pure (Value.bool false)
    else if a.block !=b.block && (←frozen a) && (←frozen b)then unsupported .addressObserved
    else do
     if a.block !=b.block then do
      noView a;noView b
      if ← mayBeOne a b then return Value.bool ((← choose (.extern "sameAddr.stringBytes" 2)) == 1)
     pure (Value.bool (a.block==b.block && a.off<b.off+len*size && b.off<a.off+xs.length*size))
   |_,_=>pure (Value.bool false)) c.w=_
  have hfb:∀x,c.w.frozen? ⟨(c.φ id).block,x,Option.none⟩=false:=fun x=>by grind [World.frozen?]
  have hsb:c.w.shape? (c.φ id).block=some (t,us.size):=by grind [World.shape?]
  have hsa:c.w.shape? qa.block=some (tw,m+1):=by grind [World.shape?]
  by_cases hl:len=0
  ·simp[run_underlying hd,bE hU hz,hl]
  ·have hus:us.size≠0:=by grind
   obtain⟨n,hn'⟩:∃n,us.size=n+1:=⟨us.size - 1,adK⟩;rw[hn']at hsb;cases hfa:c.w.frozen? qa<;>cases hfa2:c.w.frozen? {block:=qa.block,off:=m+1}<;>
    simp[run_underlying hd,bE hU hz,hl,hne,hz,hnb1,hnb2,frozen,noView,viewAt,mayBeOne,stringish,shape,Sem.run,hsa,hsb,hfb,hfa,hfa2]
 rw[key];rfl
end
end Go.Ab
namespace Go.Bf
open Go Go.Ab
structure OpD where
 kind:Int
 subj:Txt
 case:Txt
 field:Txt
 to:Txt
 val:bt
 review:Int
 text:Txt
 reason:Txt
 glass:Bool
structure xR where
 tick:Int
 actor:Txt
 what:Txt
structure di where
 name:Txt
 val:bt
structure aL where
 id:Txt
 owner:Txt
 state:Txt
 fields:List di
 log:List xR
structure qw where
 id:Int
 tick:Int
 subj:Txt
 case:Txt
 action:Txt
 reason:Txt
 isOpen:Bool
structure IX where
 tick:Int
 case:Txt
 arg:Txt
structure ij where
 subj:Txt
 role:Txt
structure aq where
 tick:Int
 cases:List aL
 reviews:List qw
 notices:List IX
 roles:List ij
 policy:bJ
 version:Int
structure bp where
 cat:Int
 name:Txt
 bag:List bt
def opC(o:OpD):List AV:=[.i o.kind,.s o.subj,.s o.case,.s o.field,.s o.to,.i o.val.kind,.i o.val.n,.s o.val.s,.i o.review,.s o.text,.s o.reason,.b o.glass]
def opA(o:OpD):AV:=.agg (opC o)
def iQ(x:xR):AV:=.agg [.i x.tick,.s x.actor,.s x.what]
def bO(f:di):AV:=.agg [.s f.name,.i f.val.kind,.i f.val.n,.s f.val.s]
def gy(l:List di):AV:=.sl (l.map bO) .no
def sQ(l:List xR):AV:=.sl (l.map iQ) .no
def nO(c:aL):List AV:=[.s c.id,.s c.owner,.s c.state,gy c.fields,sQ c.log]
def cr(c:aL):AV:=.agg (nO c)
def gm(l:List aL):AV:=.sl (l.map cr) .no
def iU(r:qw):AV:=.agg [.i r.id,.i r.tick,.s r.subj,.s r.case,.s r.action,.s r.reason,.b r.isOpen]
def kE(l:List qw):AV:=.sl (l.map iU) .no
def nH(n:IX):AV:=.agg [.i n.tick,.s n.case,.s n.arg]
def lH(l:List IX):AV:=.sl (l.map nH) .no
def eJ(r:ij):AV:=.agg [.s r.subj,.s r.role]
def dZ(l:List ij):AV:=.sl (l.map eJ) .no
def gb:bJ→List AV
 |.mk id set alg tgt rules kids obls=>[.s id,.b set,.i alg,aV tgt,.sl (rules.map aC) .no,.sl (fH kids) .no,aA obls]
theorem PE(p:bJ):aM p= .agg (gb p):=by cases p;rfl
def cO(s:aq):AV:=.agg ([.i s.tick,gm s.cases,kE s.reviews,lH s.notices,dZ s.roles]++gb s.policy++ [.i s.version])
def lB(g:bp):AV:=.agg [.i g.cat,.s g.name,.sl (g.bag.map aP) .no]
def bL(l:List bp):AV:=.sl (l.map lB) .no
def geB(a b:Txt):Bool:= !(Op.bytesLess a b)
def findD(cs:List aL)(id:Txt):Nat:=cs.findIdx fun c=>geB c.id id
def bY(cs:List aL)(id:Txt):Bool:=match cs[findD cs id]? with
 |some c=>c.id==id
 |none=>false
def an:bt:=⟨0,0,[]⟩
def oY:aL:=⟨[],[],[],[],[]⟩
def bz(cs:List aL)(id:Txt):aL:=if bY cs id then cs.getD (findD cs id) oY else oY
def eO(fs:List di)(name:Txt):bt:=match fs.find? fun f=>f.name==name with
 |some f=>f.val
 |none=>an
def vb(a b:ij):Bool:=a.subj==b.subj && a.role==b.role
def yG(l:List ij)(r:ij):Bool:=l.any (vb r)
def jN:Txt:=[111,112,101,110]
def xl:Txt:=[119,111,114,107]
def A2:Txt:=[100,111,110,101]
def hY:Txt:=[99,108,111,115,101,100]
def mV(a b:Txt):Bool:=
 if a==jN then b==xl else if a==xl then b==A2 else if a==A2 then b==xl||b==hY else false
def Qx:List Txt:=[[110,101,119],[114,101,97,100],[119,114,105,116,101],[109,111,118,101],[99,108,111,115,101],[114,111,108,101],[112,111,108,105,99,121]]
def cy(k:Int):Txt:=if k<1∨k>7 then [116,105,99,107]else Qx.getD (k - 1).toNat []
def vw(k:Int):Bool:=decide (1≤k) && decide (k≤4)
def gQ(s:Txt):Bool:=s== []||aX s
def kY(o:OpD):Bool:=if o.glass then vw o.kind && (!(o.reason== [])) && decide (o.reason.length≤64)else o.reason== []
def iF(o:OpD):OpD:=
 let z:OpD:=⟨o.kind,[],[],[],[],an,0,[],[],false⟩
 if o.kind=1 then {z with case:=o.case}
 else if o.kind=2∨o.kind=6 then {z with case:=o.case,field:=o.field}
 else if o.kind=3 then {z with case:=o.case,field:=o.field,val:=o.val}
 else if o.kind=4 then {z with case:=o.case,to:=o.to}
 else if o.kind=5∨o.kind=8 then {z with review:=o.review}
 else {z with text:=o.text}
def eqV(a b:bt):Bool:=a.kind==b.kind && (a.n==b.n && a.s==b.s)
def mS(a b:OpD):Bool:=a.kind==b.kind && (a.subj==b.subj && (a.case==b.case && (a.field==b.field && (a.to==b.to && (a.val.kind==b.val.kind && (a.val.n==b.val.n && (a.val.s==b.val.s && (a.review==b.review && (a.text==b.text && (a.reason==b.reason && a.glass==b.glass))))))))))
def okD(o:OpD):Bool:=
 if o.kind=1 then !(o.case== [])
 else if o.kind=2∨o.kind=6 then !(o.case== []) && !(o.field== [])
 else if o.kind=3 then !(o.case== []) && !(o.field== []) && !(eqV o.val an)
 else if o.kind=4 then !(o.case== []) && !(o.to== [])
 else if o.kind=5 then decide (0<o.review)
 else if o.kind=8 then decide (0<o.review) && decide (o.review≤1099511627776)
 else true
def gF(o:OpD):OpD:={o with subj:=[],reason:=[],glass:=false}
def dj(o:OpD):Bool:=decide (1≤o.kind) && decide (o.kind≤8) && okD o && mS (gF o) (iF o)
def cB(o:OpD):Bool:=aX o.subj && kY o && decide (o.text.length≤4096) && gQ o.case && gQ o.field && gQ o.to && (eqV o.val an||br o.val) && dj o
def bX(s:aq)(o:OpD):Int:=
 let c:=bz s.cases o.case
 if bY s.cases o.case=false then 10
 else if o.kind=3∧c.fields.length≥16∧eqV (eO c.fields o.field) an=true then 6
 else if o.kind≠2∧c.log.length≥256 then 6
 else if o.kind=3∧c.state=hY∨o.kind=4∧mV c.state o.to=false then 13
 else 0
def wX(l:List qw)(n:Int):Option qw:=if 1≤n then l[(n - 1).toNat]? else none
def fS(s:aq)(o:OpD):Int:=match wX s.reviews o.review with
 |none=>10
 |some r=>if r.isOpen=false then 10 else if r.subj=o.subj then 12 else 0
def bN(s:aq)(o:OpD):Int:=
 if cB o=false then 1
 else if o.kind=1 then(if bY s.cases o.case then 11 else if s.cases.length≥64 then 6 else 0)
 else if 2≤o.kind∧o.kind≤4 then bX s o
 else if o.kind=5 then fS s o
 else if o.kind=6 then(if s.roles.length≥64∧yG s.roles ⟨o.case,o.field⟩=false then 6 else 0)
 else if o.kind=8 then(if s.tick>1099511627776 - o.review then 6 else 0)
 else 0
def idV(s:Txt):bt:=⟨5,0,s⟩
def uJ(l:List xR)(subj:Txt):bt:=⟨1,if l.any (fun x=>x.actor==subj)then 1 else 0,[]⟩
def idT:Txt:=[105,100]
def cE(c:aL)(subj:Txt):List bp:=
 [⟨3,idT,[idV c.id]⟩,⟨3,[111,119,110,101,114],[idV c.owner]⟩,⟨3,[115,116,97,116,101],[idV c.state]⟩,⟨3,[101,118,101,110,116,115],[⟨2,c.log.length,[]⟩]⟩,⟨3,[116,111,111,107],[uJ c.log subj]⟩]++
 (match c.log.getLast? with
  |some x=>[⟨3,[108,97,115,116],[idV x.actor]⟩]
  |none=>[])++
 (c.fields.filter fun f=>decide (f.name.length≤14)).map fun f=>⟨3,[102,95]++f.name,[f.val]⟩
def cZ(l:List ij)(subj:Txt):List bt:=((l.filter fun r=>r.subj==subj).map fun r=>idV r.role).take 16
def fI(s:aq)(o:OpD):List bp:=
 [⟨1,idT,[idV o.subj]⟩,⟨1,[114,111,108,101],cZ s.roles o.subj⟩,⟨2,[110,97,109,101],[idV (cy o.kind)]⟩]++
 (if o.field= []then []else [⟨2,[102,105,101,108,100],[idV o.field]⟩])++
 (if o.to= []then []else [⟨2,[116,111],[idV o.to]⟩])++
 [⟨4,[110,111,119],[⟨4,s.tick,[]⟩]⟩]++
 (if bY s.cases o.case=true∧o.kind≠6 then cE (bz s.cases o.case) o.subj else [])
def fj(fs:List di)(name:Txt)(v:bt):List di:=
 let i:=fs.findIdx fun f=>geB f.name name
 match fs[i]? with
 |none=>fs++ [⟨name,v⟩]
 |some f=>if f.name=name then fs.set i ⟨f.name,v⟩else fs.take i++ [⟨name,v⟩]++fs.drop i
def jA(s:aq)(c:aL)(actor what:Txt):aL:={c with log:=c.log++ [⟨s.tick,actor,what⟩]}
def doD(par:Txt→bJ×Int×Int)(s:aq)(o:OpD):aq:=
 let i:=findD s.cases o.case
 if o.kind=1 then {s with cases:=s.cases.take i++ [jA s ⟨o.case,o.subj,jN,[],[]⟩ o.subj [110,101,119]]++s.cases.drop i}
 else if o.kind=3 then {s with cases:=s.cases.modify i fun c=>jA s {c with fields:=fj c.fields o.field o.val} o.subj [119,114,105,116,101]}
 else if o.kind=4 then {s with cases:=s.cases.modify i fun c=>jA s {c with state:=o.to} o.subj o.to}
 else if o.kind=5 then {s with reviews:=s.reviews.modify (o.review - 1).toNat fun r=> {r with isOpen:=false}}
 else if o.kind=6 then(if yG s.roles ⟨o.case,o.field⟩then s else {s with roles:=s.roles++ [⟨o.case,o.field⟩]})
 else if o.kind=7 then(if(par o.text).2.1=0 then {s with policy:=(par o.text).1,version:=s.version+1} else s)
 else if o.kind=8 then {s with tick:=s.tick+o.review}
 else s
def dR(par:Txt→bJ×Int×Int)(s:aq)(o:OpD):aq:=if bN s o=0 then doD par s o else s
def i64(n:Int):Prop:= -9223372036854775808≤n∧n≤9223372036854775807
end Go.Bf
namespace Go.Proofs.YtfdgemhnlennbaaGreatDoor
open Go Go.Ab Go.Bf
theorem aB{h:Heap}{i j:Nat}{b:Blk}(e:upd h i (some b) j=none):h j=none:=by grind [ag,aH]
theorem NS{v:bt}(h:(v.kind==(0:Int) && (v.n==(0:Int) && v.s==([]:Txt)))=false):¬v.kind=0∨¬v.n=0∨¬v.s= []:=by
 grind
theorem NR{v:bt}(h:(v.kind==(0:Int) && (v.n==(0:Int) && v.s==([]:Txt)))=true):v.kind=0∧v.n=0∧v.s= []:=by
 grind
theorem Kg(k:Int)(h:Heap):ai Tryz.prog 130 [.i k] h fun r h' =>r= .b (vw k)∧h' =h:=by
 refine adJ Tryz.func130 9 [.tmp 2] fun hwf=>?_
 cases d1:decide (1≤k)
 ·simp only[go_sem,d1]
  exact .same (.refl _) ⟨by simp only[vw,d1,ax,Bool.false_and],rfl⟩
 ·simp only[go_sem,d1]
  exact .same (.refl _) ⟨by simp_all [vw,ax,Bool.true_and],rfl⟩
theorem yp(s:Txt)(h:Heap):ai Tryz.prog 74 [.s s] h fun r h' =>r= .b (gQ s)∧h' =h:=by
 refine adJ Tryz.func74 9 [.tmp 2] fun hwf=>?_
 cases d1:(s==([]:Txt))
 ·simp only[go_sem,d1]
  refine(pM s h).pthen ?_;simp only[go_sem];exact .same (.refl _) ⟨by simp_all [gQ,ax,Bool.false_or],rfl⟩
 ·simp only[go_sem,d1]
  exact .same (.refl _) ⟨by simp_all [gQ,ax,Bool.true_or],rfl⟩
theorem F6(a b:Txt)(h:Heap):ai Tryz.prog 161 [.s a,.s b] h fun r h' =>r= .b (mV a b)∧h' =h:=by
 refine adJ Tryz.func161 22 [.tmp 4] fun hwf=>?_
 cases d1:(a==jN)<;>cases d2:(a==xl)<;>cases d3:(a==A2)<;>cases d4:(b==xl)<;>simp only[jN,xl,A2]at d1 d2 d3 d4<;>simp only[go_sem,d1,d2,d3,d4]<;>
  exact .same (.refl _) ⟨by simp only[mV,d1,d2,d3,d4,ax,jN,xl,A2,hY,if_true,Bool.false_eq_true,if_false,Bool.true_or,Bool.false_or],rfl⟩
theorem rJ(k:Int)(hk:i64 k)(h:Heap):ai Tryz.prog 82 [.i k] h fun r h' =>r= .s (cy k)∧h' =h:=by
 refine adJ Tryz.func82 18 [.tmp 2] fun hwf=>?_
 simp only[go_sem];cases d1:decide (k<1)
 case true=>
  simp only[go_sem];exact .same (.refl _) ⟨by simp_all [cy,adC,true_or,if_true,ax],rfl⟩
 cases d2:decide ((7:Int)<k)
 case true=>
  simp only[go_sem,d2];exact .same (.refl _) ⟨by simp_all [cy,adC,or_true,if_true,ax],rfl⟩
 have h1:=adD d1;have h2:=adD d2;obtain⟨j,rfl⟩:∃j:Nat,k=(j:Int)+1:=⟨(k - 1).toNat,adK⟩;have hj:j<7:=adK;have w1:IntKind.i64.wrap ((j:Int)+1 - 1)=(j:Int):=adY;simp only[go_sem,d2,w1];refine .at j adK (by rcases j with _|_|_|_|_|_|_|j<;>first|rfl|omega) ?_
 rcases j with _|_|_|_|_|_|_|j
 all_goals first|omega|skip
 all_goals
  simp only[go_sem,List.getElem_cons_zero,List.getElem_cons_succ];exact .same (.refl _) ⟨adV,rfl⟩
theorem Ks(o:OpD)(h:Heap):ai Tryz.prog 73 [opA o] h fun r h' =>r= .v (.bool (kY o))∧h' =h:=by
 refine adJ Tryz.func73 23 [.tmp 2] fun hwf=>?_
 simp only[go_sem,opA,opC];intro id hid;cases d1:o.glass
 ·simp only[go_sem]
  exact ajd
 simp only[go_sem];refine(Kg _ _).pthen ?_;cases d2:vw o.kind
 ·simp only[go_sem]
  exact ajd
 cases d3:(o.reason==([]:Txt))
 ·simp only[go_sem,d3]
  exact .mk _ (.refl _) (.aj hid) ⟨by
   simp only[kY,d1,d2,d3,ax,if_true,Bool.not_false,Bool.true_and]
   congr 2
   grind,rfl⟩
 ·simp only[go_sem,d3]
  exact ajd
theorem Oq(o:OpD)(h:Heap):ai Tryz.prog 131 [opA o] h fun r h' =>r=opA (gF o)∧h' =h:=by
 refine adJ Tryz.func131 7 [.cell 2 39] fun hwf=>?_
 simp only[go_sem,opA,opC];intro i1 h1;simp only[go_sem];intro i2 h2;have hne:=aH h2;simp only[go_sem,ak,hne,hne.symm];have n2:=aB h2;exact .mk _ (.refl _) (((((Sub.refl h).put h1 _).put n2 _).put h1 _).put n2 _) ⟨rfl,rfl⟩
theorem NG(o:OpD)(h:Heap):ai Tryz.prog 76 [opA o] h fun r h' =>r= .b (dj o)∧h' =h:=by
 have hb:=fun hh=>Oq o hh
 simp only[gF,opA,opC]at hb;refine adJ Tryz.func76 111 [.tmp 2] fun hwf=>?_
 simp -implicitDefEqProofs only[go_sem,opA,opC];intro i1 h1;simp -implicitDefEqProofs only[go_sem];refine(hb _).pthen ?_;simp -implicitDefEqProofs only[go_sem];intro i3 h3;have n31:=aH h3;have n3:=aB h3;simp -implicitDefEqProofs only[go_sem,ak,n31.symm];intro i4 h4;have n43:=aH h4;have h4' :=aB h4;have n41:=aH h4';have n4:=aB h4';have bnd:o.kind≠1→o.kind≠2→o.kind≠3→o.kind≠4→o.kind≠5→o.kind≠6→o.kind≠7→o.kind≠8→(decide (1≤o.kind) && decide (o.kind≤8))=false:=by
  intro a1 a2 a3 a4 a5 a6 a7 a8;simp only[Bool.and_eq_false_iff,decide_eq_false_iff_not];omega
 by_cases k1:o.kind=1
 ·simp -implicitDefEqProofs only[go_sem,ak,n31.symm,n41.symm,k1]
  cases dcase:(o.case==([]:Txt))
  ·simp -implicitDefEqProofs only[go_sem,ak,n43.symm]
   exact .mk _ (.refl _) adQ ⟨by simp[dj,okD,iF,gF,mS,an,ax,k1,decide_true,dcase,Bool.and_true,Bool.true_and,Bool.not_false],rfl⟩
  ·simp -implicitDefEqProofs only[go_sem]
   exact .mk _ (.refl _) adQ ⟨by simp[dj,okD,iF,gF,mS,an,ax,k1,decide_true,dcase,Bool.and_true,Bool.true_and,Bool.false_and,Bool.and_false,Bool.not_true],rfl⟩
 by_cases k2:o.kind=2
 ·simp -implicitDefEqProofs only[go_sem,ak,n31.symm,n41.symm,k2,Int.reduceBEq]
  refine .calls (hm1 i1 _) [0,1,2,3,4,5,6,7] (.hm1 afr) adN rfl ?_;simp -implicitDefEqProofs only[go_sem,ak,n31.symm,n41.symm];refine⟨(.hm1 ad7),(.hm1 ad7),?_⟩;cases dcase:(o.case==([]:Txt))
  ·simp -implicitDefEqProofs only[go_sem,ak,n31.symm,n41.symm]
   cases dfield:(o.field==([]:Txt))
   ·simp -implicitDefEqProofs only[go_sem,ak,n43.symm]
    exact .mk _ (.refl _) adQ ⟨by simp[dj,okD,iF,gF,mS,an,ax,k2,decide_true,dcase,dfield,Bool.and_true,Bool.true_and,Bool.not_false],rfl⟩
   ·simp -implicitDefEqProofs only[go_sem]
    exact .mk _ (.refl _) adQ ⟨by simp[dj,okD,iF,gF,mS,an,ax,k2,decide_true,dcase,dfield,Bool.and_true,Bool.true_and,Bool.false_and,Bool.and_false,Bool.not_true,Bool.not_false],rfl⟩
  ·simp -implicitDefEqProofs only[go_sem]
   exact .mk _ (.refl _) adQ ⟨by simp[dj,okD,iF,gF,mS,an,ax,k2,decide_true,dcase,Bool.and_true,Bool.true_and,Bool.false_and,Bool.and_false,Bool.not_true],rfl⟩
 by_cases k6:o.kind=6
 ·simp -implicitDefEqProofs only[go_sem,ak,n31.symm,n41.symm,k6,Int.reduceBEq]
  refine .calls (hm1 i1 _) [0,1,2,3,4,5,6,7] (.hm1 afr) adN rfl ?_;simp -implicitDefEqProofs only[go_sem,ak,n31.symm,n41.symm];refine⟨(.hm1 ad7),(.hm1 ad7),?_⟩;cases dcase:(o.case==([]:Txt))
  ·simp -implicitDefEqProofs only[go_sem,ak,n31.symm,n41.symm]
   cases dfield:(o.field==([]:Txt))
   ·simp -implicitDefEqProofs only[go_sem,ak,n43.symm]
    exact .mk _ (.refl _) adQ ⟨by simp[dj,okD,iF,gF,mS,an,ax,k6,decide_true,dcase,dfield,Bool.and_true,Bool.true_and,Bool.not_false],rfl⟩
   ·simp -implicitDefEqProofs only[go_sem]
    exact .mk _ (.refl _) adQ ⟨by simp[dj,okD,iF,gF,mS,an,ax,k6,decide_true,dcase,dfield,Bool.and_true,Bool.true_and,Bool.false_and,Bool.and_false,Bool.not_true,Bool.not_false],rfl⟩
  ·simp -implicitDefEqProofs only[go_sem]
   exact .mk _ (.refl _) adQ ⟨by simp[dj,okD,iF,gF,mS,an,ax,k6,decide_true,dcase,Bool.and_true,Bool.true_and,Bool.false_and,Bool.and_false,Bool.not_true],rfl⟩
 by_cases k3:o.kind=3
 ·simp -implicitDefEqProofs only[go_sem,ak,n31.symm,n41.symm,k3,Int.reduceBEq]
  refine .calls (hm1 i1 _) [0,1,2,3,4,5,6,7,8,9,10,11] (.hm1 afr) adN rfl ?_;simp -implicitDefEqProofs only[go_sem,ak,n31.symm,n41.symm];refine⟨(.hm1 ad7),(.hm1 ad7),(.hm1 ad7),?_⟩;cases dcase:(o.case==([]:Txt))
  ·simp -implicitDefEqProofs only[go_sem,ak,n31.symm,n41.symm]
   cases dfield:(o.field==([]:Txt))
   ·simp -implicitDefEqProofs only[go_sem,ak,n31.symm,n41.symm]
    cases dval:(o.val.kind==(0:Int) && (o.val.n==(0:Int) && o.val.s==([]:Txt)))
    ·simp -implicitDefEqProofs only[go_sem,ak,n43.symm]
     exact .mk _ (.refl _) adQ ⟨aef,rfl⟩
    ·simp -implicitDefEqProofs only[go_sem]
     exact .mk _ (.refl _) adQ ⟨aef,rfl⟩
   ·simp -implicitDefEqProofs only[go_sem]
    exact .mk _ (.refl _) adQ ⟨by simp[dj,okD,iF,gF,mS,eqV,an,ax,k3,decide_true,dcase,dfield,Bool.and_true,Bool.true_and,Bool.false_and,Bool.and_false,Bool.not_true,Bool.not_false],rfl⟩
  ·simp -implicitDefEqProofs only[go_sem]
   exact .mk _ (.refl _) adQ ⟨by simp[dj,okD,iF,gF,mS,eqV,an,ax,k3,decide_true,dcase,Bool.and_true,Bool.true_and,Bool.false_and,Bool.and_false,Bool.not_true],rfl⟩
 by_cases k4:o.kind=4
 ·simp -implicitDefEqProofs only[go_sem,ak,n31.symm,n41.symm,k4,Int.reduceBEq]
  refine .calls (hm1 i1 _) [0,1,2,3,4,5,6,7] (.hm1 afr) adN rfl ?_;simp -implicitDefEqProofs only[go_sem,ak,n31.symm,n41.symm];refine⟨(.hm1 ad7),(.hm1 ad7),?_⟩;cases dcase:(o.case==([]:Txt))
  ·simp -implicitDefEqProofs only[go_sem,ak,n31.symm,n41.symm]
   cases dto:(o.to==([]:Txt))
   ·simp -implicitDefEqProofs only[go_sem,ak,n43.symm]
    exact .mk _ (.refl _) adQ ⟨by simp[dj,okD,iF,gF,mS,an,ax,k4,decide_true,dcase,dto,Bool.and_true,Bool.true_and,Bool.not_false],rfl⟩
   ·simp -implicitDefEqProofs only[go_sem]
    exact .mk _ (.refl _) adQ ⟨by simp[dj,okD,iF,gF,mS,an,ax,k4,decide_true,dcase,dto,Bool.and_true,Bool.true_and,Bool.false_and,Bool.and_false,Bool.not_true,Bool.not_false],rfl⟩
  ·simp -implicitDefEqProofs only[go_sem]
   exact .mk _ (.refl _) adQ ⟨by simp[dj,okD,iF,gF,mS,an,ax,k4,decide_true,dcase,Bool.and_true,Bool.true_and,Bool.false_and,Bool.and_false,Bool.not_true],rfl⟩
 by_cases k5:o.kind=5
 ·simp -implicitDefEqProofs only[go_sem,ak,n31.symm,n41.symm,k5,Int.reduceBEq]
  cases drev0:decide ((0:Int)<o.review)
  ·simp -implicitDefEqProofs only[go_sem]
   exact .mk _ (.refl _) adQ ⟨by simp[dj,okD,iF,gF,mS,an,ax,k5,decide_true,drev0,Bool.and_true,Bool.true_and,Bool.false_and,Bool.and_false],rfl⟩
  ·simp -implicitDefEqProofs only[go_sem,ak,n43.symm]
   exact .mk _ (.refl _) adQ ⟨by simp[dj,okD,iF,gF,mS,an,ax,k5,decide_true,drev0,Bool.and_true,Bool.true_and],rfl⟩
 by_cases k7:o.kind=7
 ·simp -implicitDefEqProofs only[go_sem,ak,n31.symm,n43.symm,n41.symm,k7,Int.reduceBEq]
  exact .mk _ (.refl _) adQ ⟨by simp[dj,okD,iF,gF,mS,an,ax,k7,decide_true,Bool.and_true,Bool.true_and],rfl⟩
 by_cases k8:o.kind=8
 ·simp -implicitDefEqProofs only[go_sem,ak,n31.symm,n41.symm,k8,Int.reduceBEq]
  cases drev0:decide ((0:Int)<o.review)
  ·simp -implicitDefEqProofs only[go_sem]
   exact .mk _ (.refl _) adQ ⟨by simp[dj,okD,iF,gF,mS,an,ax,k8,decide_true,drev0,Bool.and_true,Bool.true_and,Bool.false_and,Bool.and_false],rfl⟩
  ·simp -implicitDefEqProofs only[go_sem,ak,n31.symm,n41.symm]
   cases drev1:decide (o.review≤(1099511627776:Int))
   ·simp -implicitDefEqProofs only[go_sem]
    exact .mk _ (.refl _) adQ ⟨by simp[dj,okD,iF,gF,mS,an,ax,k8,decide_true,drev0,drev1,Bool.and_true,Bool.true_and,Bool.false_and,Bool.and_false],rfl⟩
   ·simp -implicitDefEqProofs only[go_sem,ak,n43.symm]
    exact .mk _ (.refl _) adQ ⟨by simp[dj,okD,iF,gF,mS,an,ax,k8,decide_true,drev0,drev1,Bool.and_true,Bool.true_and],rfl⟩
 simp -implicitDefEqProofs only[go_sem,ak,n31.symm,n41.symm,beq_eq_false_iff_ne.2 k1,beq_eq_false_iff_ne.2 k2,beq_eq_false_iff_ne.2 k6,beq_eq_false_iff_ne.2 k3,beq_eq_false_iff_ne.2 k4,beq_eq_false_iff_ne.2 k5,beq_eq_false_iff_ne.2 k7,beq_eq_false_iff_ne.2 k8];exact .mk _ (.refl _) adQ ⟨by simp only[dj,bnd k1 k2 k3 k4 k5 k6 k7 k8,Bool.false_and,ax],rfl⟩
theorem tQ(o:OpD)(h:Heap):ai Tryz.prog 29 [opA o] h fun r h' =>r= .b (cB o)∧h' =h:=by
 have hr:=fun hh=>Ks o hh
 have ht:=fun hh=>NG o hh
 have hv:=fun hh=>fU o.val hh
 simp only[opA,opC,aP]at hr ht hv;refine adJ Tryz.func29 48 [.tmp 2] fun hwf=>?_
 simp -implicitDefEqProofs only[go_sem,opA,opC];intro i1 h1;simp -implicitDefEqProofs only[go_sem];refine(pM o.subj _).pthen ?_;cases d1:aX o.subj
 ·simp -implicitDefEqProofs only[go_sem]
  exact .mk _ (.refl _) (.aj h1) ⟨by simp_all [cB,Bool.false_and,ax],rfl⟩
 simp -implicitDefEqProofs only[go_sem];refine(hr _).pthen ?_;cases d2:kY o
 ·exact air
 cases d3:decide ((4096:Int)<(o.text.length:Int))
 case true=>
  have e3:decide (o.text.length≤4096)=false:=decide_eq_false adL;simp -implicitDefEqProofs only[go_sem,d3];exact .mk _ (.refl _) (.aj h1) ⟨by simp only[cB,d1,d2,e3,Bool.false_and,Bool.true_and,ax],rfl⟩
 have e3:decide (o.text.length≤4096)=true:=decide_eq_true adL;simp -implicitDefEqProofs only[go_sem,d3];refine(yp o.case _).pthen ?_;cases d4:gQ o.case
 ·exact air
 simp -implicitDefEqProofs only[go_sem];refine(yp o.field _).pthen ?_;cases d5:gQ o.field
 ·exact air
 simp -implicitDefEqProofs only[go_sem];refine(yp o.to _).pthen ?_;cases d6:gQ o.to
 ·exact air
 cases d7:(o.val.kind==(0:Int) && (o.val.n==(0:Int) && o.val.s==([]:Txt)))
 ·simp -implicitDefEqProofs only[go_sem,d7]
  refine(hv _).pthen ?_;have e7:eqV o.val an=false:=d7;cases d8:br o.val
  ·simp -implicitDefEqProofs only[go_sem]
   exact .mk _ (.refl _) (.aj h1) ⟨by simp_all [cB,Bool.or_self,Bool.false_and,Bool.true_and,ax],rfl⟩
  simp -implicitDefEqProofs only[go_sem];refine(ht _).pthen ?_;simp -implicitDefEqProofs only[go_sem];exact .mk _ (.refl _) (.aj h1) ⟨by simp_all [cB,Bool.false_or,Bool.true_and,ax],rfl⟩
 ·simp -implicitDefEqProofs only[go_sem,d7]
  have e7:eqV o.val an=true:=d7;refine(ht _).pthen ?_;simp -implicitDefEqProofs only[go_sem];exact .mk _ (.refl _) (.aj h1) ⟨by simp_all [cB,Bool.true_or,Bool.true_and,ax],rfl⟩
end Go.Proofs.YtfdgemhnlennbaaGreatDoor
namespace Go.Bf
open Go Go.Ab
def ixD{α:Type}(q:α→Bool)(l:List α):Int:=if l.findIdx q<l.length then(l.findIdx q:Nat)else -1
theorem ov{α:Type}{q:α→Bool}{l:List α}{i:Nat}(hi:i<l.length)(h1:q l[i]=true)(h2:∀j (hj:j<i),q (l[j]'adK)=false):ixD q l=(i:Nat):=by
 have e:l.findIdx q=i:=by grind [List.findIdx_eq]
 rw[ixD,e,if_pos hi]
theorem jn{α:Type}{q:α→Bool}{l:List α}(h:∀j (hj:j<l.length),q l[j]=false):ixD q l= -1:=by
 have e:l.findIdx q=l.length:=adL;rw[ixD,e,if_neg (Nat.lt_irrefl _)]
end Go.Bf
namespace Go.Proofs.YtfdgemhnlennbaaGreatDoor
open Go Go.Ab Go.Bf
theorem vn{α:Type}(y:AV)(xs:List AV)(ds:List α)(q:α→Bool)(g:FuncId)(cap:List AV)(h:Heap)(hb:Rd h 5 y xs)(hn:xs.length=ds.length)(hl:xs.length≤1000000000)(hx:∀x∈xs,bC x=true)
  (hp:∀i (h1:i<xs.length) (h2:i<ds.length),ai Tryz.prog g (xs[i]::cap) h fun r h' =>r= .b (q ds[i])∧h' =h):
  ai Tryz.prog 159 [y,.fn g cap] h fun r h' =>r= .i (ixD q ds)∧h' =h:=by
 refine adJ Tryz.func159 19 [.tmp 4] fun hwf=>?_
 simp only[go_sem,hb.len];refine .intro (fun m ρ h' =>h' =h∧∃i:Nat,i≤xs.length∧m=xs.length - i∧(∀j (hj:j<i) (h2:j<ds.length),q ds[j]=false)∧lk ρ 0=some y∧lk ρ 1=some (.fn g cap)∧lk ρ 7=some (.i xs.length)∧lk ρ 8=some (.i i)) xs.length ?_ ?_
 ·refine⟨rfl,0,adK,rfl,fun j hj=>adK,?_,?_,?_,?_⟩<;>simp only[go_sem]
 ·rintro m ρ h' ⟨rfl,i,hi,rfl,hc,r0,r1,r7,r8⟩
  simp only[go_sem,r7,r8];refine .intro (fun e=>?_) (fun e=>?_)
  ·have hlt:i<xs.length:=adH e
   have hlt2:i<ds.length:=adK;have w1:IntKind.i64.wrap ((i:Int)+1)=((i+1:Nat):Int):=adY;simp only[go_sem,r0,r1,r8];refine hb.idx (e:=122) i rfl hlt adV adO fun p hp1=>?_
   have hld:=hp1.all (U:=U) (ty:=122) adO aeE afz;simp only[go_sem,hld];refine(show ai Tryz.prog g (xs[i]::cap) _ _ from hp i hlt hlt2).pthen ?_
   cases d1:q ds[i]
   ·simp only[go_sem,r8,w1]
    refine⟨_,?_,rfl,i+1,adK,rfl,fun j hj h2=>?_,?_,?_,?_,?_⟩
    ·omega
    ·grind
    all_goals simp only[go_sem,r0,r1,r7]
   ·simp only[go_sem]
    exact .same (.refl _) ⟨aet,rfl⟩
  ·have hge:i=xs.length:=by grind
   simp only[go_sem];exact .same (.refl _) ⟨aee,rfl⟩
theorem yN{α:Type}(y:AV)(xs:List AV)(ds:List α)(q:α→Bool)(g:FuncId)(cap:List AV)(h:Heap)(hb:Rd h 4 y xs)(hn:xs.length=ds.length)(hl:xs.length≤1000000000)(hx:∀x∈xs,bC x=true)
  (hp:∀i (h1:i<xs.length) (h2:i<ds.length),ai Tryz.prog g (xs[i]::cap) h fun r h' =>r= .b (q ds[i])∧h' =h):
  ai Tryz.prog 121 [y,.fn g cap] h fun r h' =>r= .i (ixD q ds)∧h' =h:=by
 refine adJ Tryz.func121 19 [.tmp 4] fun hwf=>?_
 simp only[go_sem,hb.len];refine .intro (fun m ρ h' =>h' =h∧∃i:Nat,i≤xs.length∧m=xs.length - i∧(∀j (hj:j<i) (h2:j<ds.length),q ds[j]=false)∧lk ρ 0=some y∧lk ρ 1=some (.fn g cap)∧lk ρ 7=some (.i xs.length)∧lk ρ 8=some (.i i)) xs.length ?_ ?_
 ·refine⟨rfl,0,adK,rfl,fun j hj=>adK,?_,?_,?_,?_⟩<;>simp only[go_sem]
 ·rintro m ρ h' ⟨rfl,i,hi,rfl,hc,r0,r1,r7,r8⟩
  simp only[go_sem,r7,r8];refine .intro (fun e=>?_) (fun e=>?_)
  ·have hlt:i<xs.length:=adH e
   have hlt2:i<ds.length:=adK;have w1:IntKind.i64.wrap ((i:Int)+1)=((i+1:Nat):Int):=adY;simp only[go_sem,r0,r1,r8];refine hb.idx (e:=201) i rfl hlt adV adO fun p hp1=>?_
   have hld:=hp1.all (U:=U) (ty:=201) adO aeE afz;simp only[go_sem,hld];refine(show ai Tryz.prog g (xs[i]::cap) _ _ from hp i hlt hlt2).pthen ?_
   cases d1:q ds[i]
   ·simp only[go_sem,r8,w1]
    refine⟨_,?_,rfl,i+1,adK,rfl,fun j hj h2=>?_,?_,?_,?_,?_⟩
    ·omega
    ·grind
    all_goals simp only[go_sem,r0,r1,r7]
   ·simp only[go_sem]
    exact .same (.refl _) ⟨aet,rfl⟩
  ·have hge:i=xs.length:=by grind
   simp only[go_sem];exact .same (.refl _) ⟨aee,rfl⟩
def RdC(h:Heap)(x:AV)(c:aL):Prop:=∃f l,x= .agg [.s c.id,.s c.owner,.s c.state,f,l]∧Rd h 4 f (c.fields.map bO)∧Rd h 3 l (c.log.map iQ)
def Ae(h:Heap)(y:AV)(cs:List aL):Prop:=∃xs,Rd h 5 y xs∧xs.length=cs.length∧∀i (h1:i<xs.length) (h2:i<cs.length),RdC h xs[i] cs[i]
def RdS(h:Heap)(x:AV)(s:aq):Prop:=∃y1 y2 y3 y4,x= .agg ([.i s.tick,y1,y2,y3,y4]++gb s.policy++ [.i s.version])∧Ae h y1 s.cases∧Rd h 7 y2 (s.reviews.map iU)∧Rd h 3 y3 (s.notices.map nH)∧Rd h 2 y4 (s.roles.map eJ)
theorem RdC.sub{h h' :Heap}{x:AV}{c:aL}(hb:RdC h x c)(hs:Ab.Sub h h'):RdC h' x c:=by
 obtain⟨f,l,e,h1,h2⟩:=hb;exact⟨f,l,e,h1.sub hs,h2.sub hs⟩
theorem Ae.sub{h h' :Heap}{y:AV}{cs:List aL}(hb:Ae h y cs)(hs:Ab.Sub h h'):Ae h' y cs:=by
 obtain⟨xs,h1,h2,h3⟩:=hb;exact⟨xs,h1.sub hs,h2,fun i a b=>(h3 i a b).sub hs⟩
theorem RdS.sub{h h' :Heap}{x:AV}{s:aq}(hb:RdS h x s)(hs:Ab.Sub h h'):RdS h' x s:=by
 obtain⟨y1,y2,y3,y4,e,h1,h2,h3,h4⟩:=hb;exact⟨y1,y2,y3,y4,e,h1.sub hs,h2.sub hs,h3.sub hs,h4.sub hs⟩
theorem bx{α:Type}{f:α→AV}{n:Nat}(hf:∀a,(f a).cells.length=n)(l:List α):Sized n (l.map f):=fun z hz=>by
 grind
theorem o7{α:Type}{f:α→AV}(hf:∀a,bC (f a)=true)(l:List α):∀x∈l.map f,bC x=true:=fun z hz=>by
 obtain⟨a,_,rfl⟩:=List.mem_map.1 hz;exact hf a
theorem eS{α:Type}(f:α→AV)(n:Nat)(hf:∀a,(f a).cells.length=n)(h:Heap)(l:List α):Rd h n (.sl (l.map f) .no) (l.map f):=.sl (bx hf l) _
theorem rdC(h:Heap)(c:aL):RdC h (cr c) c:=⟨_,_,rfl,eS bO 4 (fun _=>rfl) h _,eS iQ 3 (fun _=>rfl) h _⟩
theorem YB(h:Heap)(cs:List aL):Ae h (gm cs) cs:=⟨_,eS cr 5 (fun _=>rfl) h cs,adR,fun i h1 h2=>by grind [rdC]⟩
theorem rdS(h:Heap)(s:aq):RdS h (cO s) s:=⟨_,_,_,_,rfl,YB h _,eS iU 7 (fun _=>rfl) h _,eS nH 3 (fun _=>rfl) h _,eS eJ 2 (fun _=>rfl) h _⟩
theorem RdC.agg{h:Heap}{x:AV}{c:aL}(hb:RdC h x c):bC x=true:=by
 obtain⟨f,l,rfl,_⟩:=hb;rfl
theorem Ae.agg{h:Heap}{xs:List AV}{cs:List aL}(hn:xs.length=cs.length)(hb:∀i (h1:i<xs.length) (h2:i<cs.length),RdC h xs[i] cs[i]):∀x∈xs,bC x=true:=fun x hx=>by
 obtain⟨i,hi,rfl⟩:=List.mem_iff_getElem.1 hx;exact(hb i hi adK).agg
theorem oe:(U 122).sz=5:=adV
theorem Hh:(U 201).sz=4:=adV
theorem KO:(U 9).sz≠0:=adO
theorem NP:(U 9).sz=1:=adV
theorem L2{h:Heap}{x:AV}{c:aL}(hb:RdC h x c){k:Nat}{id:Txt}(hk:h k=some (.obj [.s id] 9)):ai Tryz.prog 160 [x,.ptr k 0] h fun r h' =>r= .b (geB c.id id)∧h' =h:=by
 obtain⟨f,l,rfl,hf,hl⟩:=hb;refine adJ Tryz.func160 8 [.tmp 3] fun hwf=>?_
 simp only[go_sem];exact aia
structure Few (s:aq):Prop where
 cases:s.cases.length≤1000000
 fields:∀c∈s.cases,c.fields.length≤1000000
 log:∀c∈s.cases,c.log.length≤1000000
 reviews:s.reviews.length≤1000000
 notices:s.notices.length≤1000000
 roles:s.roles.length≤1000000
theorem jP{cs:List aL}{id:Txt}(h:bY cs id=true):findD cs id<cs.length:=by
 grind [bY,List.getElem?_eq_some_iff]
theorem KI{cs:List aL}{id:Txt}(h:findD cs id<cs.length):bY cs id=(cs[findD cs id].id==id):=by
 grind [bY,List.getElem?_eq_getElem]
theorem KJ{cs:List aL}{id:Txt}(h:¬findD cs id<cs.length):bY cs id=false:=by
 grind [bY,List.getElem?_eq_none]
theorem Cm{h:Heap}{x:AV}{s:aq}(hb:RdS h x s)(id:Txt)(hl:s.cases.length≤1000000):ai Tryz.prog 100 [x,.s id] h fun r h' =>r= .tup [.i (findD s.cases id:Nat),.b (bY s.cases id)]∧h' =h:=by
 obtain⟨y1,y2,y3,y4,rfl,⟨xs,hc,hn,hcs⟩,h2,h3,h4⟩:=hb;cases hp:s.policy with
 |mk pid pset palg ptgt prules pkids pobls=>
 refine adJ Tryz.func100 25 [.tmp 4,.tmp 5] fun hwf=>?_
 simp only[go_sem,gb,List.cons_append,List.nil_append];intro i1 h1;simp only[go_sem];intro i2 h2;have n21:=aH h2;have n2:=aB h2;have hs:∀a b,Ab.Sub h (upd (upd h i1 a) i2 b):=fun a b=>((Sub.refl h).put h1 a).put n2 b
 simp only[go_sem,ak,n21.symm];refine(vn y1 xs s.cases (fun c=>geB c.id id) _ [.ptr i2 0] _ (hc.sub (hs _ _)) hn adK (Ae.agg hn hcs) fun i a b=>L2 ((hcs i a b).sub (hs _ _)) (ah ..)).pthen ?_
 by_cases hf:findD s.cases id<s.cases.length
 ·have e1:ixD (fun c=>geB c.id id) s.cases=(findD s.cases id:Nat):=by rw[ixD];exact if_pos hf
  have d1:decide (((findD s.cases id:Nat):Int)<0)=false:=decide_eq_false adK;rw[e1];simp only[go_sem,ak,n21.symm,d1];refine⟨.of adN,?_⟩;obtain⟨f,l,ex,hfl,hlg⟩:=hcs (findD s.cases id) adK hf;refine hc.idx (e:=122) (findD s.cases id) rfl adK oe adO fun p hp1=>?_
  simp only[go_sem];refine hp1.field (f:=0) (off:=0) (t:=9) rfl KO fun p2 hp2=>?_
  have hld:=fun a b=>(hp2.sub (hs a b)).part (U:=U) (ty:=9) KO (by rw[ex,NP];exact adz rfl)
  simp only[go_sem,hld,ex];exact .mk _ (.refl _) (hs _ _) ⟨by rw[KI hf];rfl,rfl⟩
 ·have e1:ixD (fun c=>geB c.id id) s.cases= -1:=by rw[ixD];exact if_neg hf
  have e2:findD s.cases id=s.cases.length:=by
   grind [findD,List.findIdx_le_length]
  have d1:decide ((-1:Int)<0)=true:=rfl;rw[e1];simp only[go_sem,ak,n21.symm,d1];simp only[go_sem,hc.len];exact .mk _ (.refl _) (hs _ _) ⟨by rw[KJ hf,e2,hn];rfl,rfl⟩
theorem IL:(U 141).sz=2:=adV
theorem JZ(y:AV)(ds:List ij)(r:ij)(h:Heap)(hb:Rd h 2 y (ds.map eJ))(hl:ds.length≤1000000000):
  ai Tryz.prog 205 [y,eJ r] h fun x h' =>x= .i (ixD (vb r) ds)∧h' =h:=by
 refine adJ Tryz.func205 19 [.tmp 4] fun hwf=>?_
 simp only[go_sem,eJ];intro i1 h1;have hs:∀a,Ab.Sub h (upd h i1 a):=fun a=>(Sub.refl h).put h1 a
 simp only[go_sem,hb.len,adA];refine .intro (fun m ρ h' =>h' =upd h i1 (some (.obj [.s r.subj,.s r.role] 141))∧∃i:Nat,i≤ds.length∧m=ds.length - i∧(∀j (hj:j<i) (h2:j<ds.length),vb r ds[j]=false)∧lk ρ 0=some y∧lk ρ 3=some (.ptr i1 0)∧lk ρ 7=some (.i ds.length)∧lk ρ 8=some (.i i)) ds.length ?_ ?_
 ·refine⟨rfl,0,adK,rfl,fun j hj=>adK,?_,?_,?_,?_⟩<;>simp only[go_sem]
 ·rintro m ρ h' ⟨rfl,i,hi,rfl,hc,r0,r3,r7,r8⟩
  simp only[go_sem,r7,r8];refine .intro (fun e=>?_) (fun e=>?_)
  ·have hlt:i<ds.length:=adH e
   have w1:IntKind.i64.wrap ((i:Int)+1)=((i+1:Nat):Int):=adY;simp only[go_sem,r0,r3,r8];refine⟨.of adN,?_⟩;refine hb.idx (e:=141) i rfl adL IL adO fun p hp1=>?_
   have hld:=fun a=>(hp1.sub (hs a)).all (U:=U) (ty:=141) adO (by rw[IL,adB];rfl) aeo
   cases d1:vb r ds[i]
   ·have d2:=d1
    simp only[vb]at d2;simp only[go_sem,r8,hld,adB,eJ,d2,w1];refine⟨_,?_,rfl,i+1,adK,rfl,fun j hj h2=>?_,?_,?_,?_,?_⟩
    ·omega
    ·grind
    all_goals simp only[go_sem,r0,r3,r7]
   ·have d2:=d1
    simp only[vb]at d2;simp only[go_sem,hld,adB,eJ,d2];exact .mk _ (.refl _) (hs _) ⟨by rw[ov hlt d1 fun j hj=>hc j hj adK];rfl,rfl⟩
  ·have hge:i=ds.length:=by grind
   simp only[go_sem];exact .mk _ (.refl _) (hs _) ⟨aee,rfl⟩
theorem Gc(y:AV)(ds:List ij)(r:ij)(h:Heap)(hb:Rd h 2 y (ds.map eJ))(hl:ds.length≤1000000000):
  ai Tryz.prog 162 [y,eJ r] h fun x h' =>x= .b (yG ds r)∧h' =h:=by
 have hq:=fun H (hH:Ab.Sub h H)=>JZ y ds r H (hb.sub hH) hl
 refine adJ Tryz.func162 9 [.tmp 4] fun hwf=>?_
 simp only[go_sem,eJ];intro i1 h1;simp only[go_sem];refine(hq _ (.aj h1)).pthen ?_;simp only[go_sem];refine .mk _ (.refl _) (.aj h1) ⟨?_,rfl⟩
 grind [ax,yG,ixD,decide_eq_true,List.any_eq_true,adF,List.findIdx_getElem,decide_eq_false,List.any_eq_false]
theorem Gd{h:Heap}{x:AV}{s:aq}(hb:RdS h x s)(subj role:Txt)(hl:s.roles.length≤1000000000):ai Tryz.prog 103 [x,.s subj,.s role] h fun r h' =>r= .b (yG s.roles ⟨subj,role⟩)∧h' =h:=by
 obtain⟨y1,y2,y3,y4,rfl,hc,h2,h3,h4⟩:=hb;have hq:=fun H (hH:Ab.Sub h H)=>Gc y4 s.roles ⟨subj,role⟩ H (h4.sub hH) hl
 cases hp:s.policy with
 |mk pid pset palg ptgt prules pkids pobls=>
 refine adJ Tryz.func103 13 [.tmp 6] fun hwf=>?_
 simp only[go_sem,gb,List.cons_append,List.nil_append];intro i1 h1;simp only[go_sem];refine(hq _ (.aj h1)).pthen ?_;simp only[go_sem];exact ad1
theorem Jp{h:Heap}(f:di){k:Nat}{name:Txt}(hk:h k=some (.obj [.s name] 9)):ai Tryz.prog 122 [bO f,.ptr k 0] h fun r h' =>r= .b (f.name==name)∧h' =h:=by
 refine adJ Tryz.func122 8 [.tmp 3] fun hwf=>?_
 simp only[go_sem,bO];exact aia
theorem Jq{fs:List di}{name:Txt}(h:fs.findIdx (fun f=>f.name==name)<fs.length):eO fs name=fs[fs.findIdx fun f=>f.name==name].val:=by
 unfold eO;rw[show fs.find? (fun f=>f.name==name)=some fs[fs.findIdx fun f=>f.name==name]from List.find?_eq_some_iff_getElem.2 ⟨List.findIdx_getElem (w:=h),_,h,rfl,fun j hj=>adL⟩]
theorem Jr{fs:List di}{name:Txt}(h:¬fs.findIdx (fun f=>f.name==name)<fs.length):eO fs name=an:=by
 grind [eO,List.findIdx_le_length,List.find?_eq_none,List.findIdx_eq_length]
theorem Dy{h:Heap}{x:AV}{c:aL}(hb:RdC h x c)(name:Txt)(hl:c.fields.length≤1000000000):ai Tryz.prog 60 [x,.s name] h fun r h' =>r=aP (eO c.fields name)∧h' =h:=by
 obtain⟨f,l,rfl,hf,hlg⟩:=hb;refine adJ Tryz.func60 19 [.cell 4 33] fun hwf=>?_
 simp only[go_sem];intro i1 h1;simp only[go_sem];intro i2 h2;have n21:=aH h2;have n2:=aB h2;simp only[go_sem];intro i3 h3;have h3' :=aB h3;have n31:=aH h3';have n3:=aB h3';have hs:∀a b d,Ab.Sub h (upd (upd (upd h i1 a) i2 b) i3 d):=fun a b d=>(((Sub.refl h).put h1 a).put n2 b).put n3 d
 simp only[go_sem,ak,n21.symm,n31.symm];refine(yN f _ c.fields (fun f=>f.name==name) _ [.ptr i2 0] _ (hf.sub (hs _ _ _)) adR adL (o7 (fun _=>rfl) _) fun i a b=>by
  rw[adB];exact Jp _ (by grind [ak,gq,not_false_eq_true])).pthen ?_
 by_cases hx:c.fields.findIdx (fun f=>f.name==name)<c.fields.length
 ·have e1:ixD (fun f=>f.name==name) c.fields=(c.fields.findIdx (fun f=>f.name==name):Nat):=by simp_all [ixD,if_pos]
  have d1:decide ((0:Int)≤((c.fields.findIdx (fun f=>f.name==name):Nat):Int))=true:=decide_eq_true adK
  rw[e1];simp only[go_sem,ak,n21.symm,n31.symm,d1];refine hf.idx (e:=201) (c.fields.findIdx fun f=>f.name==name) rfl adL Hh adO fun p hp1=>?_
  simp only[go_sem];refine hp1.field (f:=1) (off:=1) (t:=33) rfl adO fun p2 hp2=>?_
  have hld:=fun a b d=>(hp2.sub (hs a b d)).part (U:=U) (ty:=33) adO (by rw[adB,show(U 33).sz=3 by rfl];exact adz rfl)
  simp only[go_sem,hld,adB,bO];exact .mk _ (.refl _) adL ⟨by rw[Jq hx];rfl,rfl⟩
 ·have e1:ixD (fun f=>f.name==name) c.fields= -1:=by simp_all [ixD,if_neg]
  have d1:decide ((0:Int)≤ -1)=false:=rfl;rw[e1];simp only[go_sem,d1];exact .mk _ (.refl _) adL ⟨by rw[Jr hx];rfl,rfl⟩
end Go.Proofs.YtfdgemhnlennbaaGreatDoor
namespace Go.Ab
open Go
mutual
def cN:AV→Bool
 |.v _=>true
 |.s _=>true
 |.agg xs=>ic xs
 |.tup xs=>ic xs
 |.sl xs (.own _)=>false
 |.sl xs _=>ic xs
 |.pe x _=>cN x
 |.ifc _ x=>cN x
 |_=>false
def ic:List AV→Bool
 | []=>true
 |x::r=>cN x && ic r
end
mutual
theorem uw{F:Nat→Prop}:∀x:AV,cN x=true→Av F x
 |.v x,_=> .v x
 |.s l,_=> .s l
 |.agg xs,h=> .agg xs (rf xs agk)
 |.tup xs,h=> .tup xs (rf xs agk)
 |.sl xs .no,h=> .sl xs .no (rf xs agk) fun _ e=>ad8
 |.sl xs .full,h=> .sl xs .full (rf xs agk) fun _ e=>ad8
 |.sl xs (.own _),h=>ahj
 |.pe x o,h=> .pe x o (uw x agk)
 |.ptr i o,h=>ahj
 |.oa i o l,h=>ahj
 |.ifc t x,h=> .ifc t x (uw x agk)
 |.fn f c,h=>ahj
 |.mp i,h=>ahj
 |.ob i o l c z,h=>ahj
theorem rf{F:Nat→Prop}:∀xs:List AV,ic xs=true→∀x∈xs,Av F x
 | [],_,x,hx=>by cases hx
 |y::r,h,x,hx=>by
  simp only[ic,Bool.and_eq_true]at h;rcases List.mem_cons.1 hx with e|e
  ·rw[e];exact uw y h.1
  ·exact rf r h.2 x e
end
theorem bw{α:Type}{f:α→AV}(hf:∀a,cN (f a)=true):∀l:List α,ic (l.map f)=true
 | []=>rfl
 |a::r=>by simp[ic,hf a,bw hf r]
theorem Bz{xs:List AV}(h:ic xs=true):∀x∈xs,cN x=true:=by
 induction xs with
 |nil=>simp
 |cons y r ih=>
  simp_all [ic,Bool.and_eq_true,List.mem_cons]
theorem nZ{x:AV}(h:cN x=true):∀c∈x.cells,cN c=true:=by
 cases x with
 |agg cs=>exact Bz (show ic cs=true by grind [cN])
 |_=>intro c hc;rw[List.mem_singleton.1 hc];exact h
theorem Frz.pure{g h:Heap}{x:AV}(hx:cN x=true):Frz g h x x:=.keep x (uw x hx)
theorem Ow.frz{g h:Heap}{tb:TypeId}{sz id:Nat}{y:AV}{xs ys:List AV}(hw:Ow tb h sz id y xs)(hg:g id=Option.none)(hn:xs.length=ys.length)(hz:∀i (h1:i<xs.length) (h2:i<ys.length),xs[i].cells.length=ys[i].cells.length)
  (hr:∀i (h1:i<xs.length) (h2:i<ys.length) j (h3:j<xs[i].cells.length) (h4:j<ys[i].cells.length),Frz g h xs[i].cells[j] ys[i].cells[j]):Frz g h y (.sl ys .no):=by
 obtain⟨cap,rest,rfl,h1,h2,h3,h4⟩:=hw;have hl:=aZ h4;refine .ob id 0 _ cap sz _ tb ys hg h1 adL hn.symm (fun i hi=>by rw[←hz i adK hi];exact h4 _ adR) fun i hi j hj hb=>?_
 have hj' :j<sz:=by rw[←h4 xs[i] adR,hz i adK hi];omega
 have hbd:i*sz+j<xs.length*sz:=by
  have:(i+1)*sz≤xs.length*sz:=Nat.mul_le_mul_right _ adK;rw[Nat.add_mul,Nat.one_mul]at this;omega
 have hjx:j<xs[i].cells.length:=adL;have e:(au xs++rest)[0+(i*sz+j)]? =some (xs[i].cells[j]):=by
  rw[Nat.zero_add,List.getElem?_append_left adK,vf h4 adK hj',List.getElem?_eq_getElem hjx]
 rw[List.getElem?_eq_getElem hb,Option.some.injEq]at e;rw[e];exact hr i adK hi j hjx hj
theorem OwE.frz{g h:Heap}{tb:TypeId}{sz:Nat}{y:AV}{xs:List AV}(hw:OwE tb g h sz y xs)(hp:ic xs=true):Frz g h y (.sl xs .no):=by
 rcases hw with⟨rfl,rfl⟩|⟨id,hg,hw⟩
 ·exact .sl [] [] .full rfl adK adR
 ·exact hw.frz hg rfl adK fun i h1 h2 j h3 h4=> .pure (nZ (Bz hp _ (adF h1)) _ adR)
theorem OwE.lX{U:TypeId→TI}{h:Heap}{sz:Nat}{tb:TypeId}{xs:List AV}{Q:AV→Heap→Prop}(hz:(U tb).sz=sz)(hf:Ab.fit (U tb).zero sz)(hb:Sized sz xs)(hk:∀y' h',OwE tb h h' sz y' xs→Sub h h'→Q y' h'):sA U h [] xs tb Q:=by
 subst hz;refine⟨fun hn=>?_,fun hn=>?_⟩
 ·subst hn
  exact hk _ _ (.inl ⟨rfl,rfl⟩) (.refl _)
 ·refine .ob hf (kC.ow hb adV adR fun id y' h' hid hw ho=>?_)
  exact hk _ _ (.inr ⟨id,hid,hw⟩) fun j b hj=>adL
theorem Rd.nil{h:Heap}{sz:Nat}{y:AV}{xs:List AV}{e:TypeId}{Q:AV→Heap→Prop}(hb:Rd h sz y xs)(hk:∀b:Bool,(xs≠ []→b=false)→Q (.b b) h):SH h .eql y Q (.slice e):=by
 obtain⟨_,⟨q,rfl⟩|⟨id,off,cap,cs,t,rfl,_⟩⟩:=hb
 ·exact hk
 ·exact hk false fun _=>rfl
def nid:AV→Option Nat
 |.ob id _ _ _ _=>some id
 |_=>none
theorem OwE.nid{tb:TypeId}{h0 h:Heap}{sz:Nat}{y:AV}{xs:List AV}(hw:OwE tb h0 h sz y xs){id:Nat}(e:Ab.nid y=some id):h0 id=Option.none∧h id≠Option.none∧Ow tb h sz id y xs:=by
 rcases hw with⟨rfl,rfl⟩|⟨id',h1,hw⟩
 ·cases e
 ·obtain⟨cap,rest,rfl,h2,h3⟩:=hw
  cases e;exact⟨h1,adL,cap,rest,rfl,h2,h3⟩
theorem Ow.nid{tb:TypeId}{h:Heap}{sz id:Nat}{y:AV}{xs:List AV}(hw:Ow tb h sz id y xs):Ab.nid y=some id:=by
 obtain⟨cap,rest,rfl,h2,h3⟩:=hw;rfl
theorem OwE.keep{tb:TypeId}{h0 h h' :Heap}{sz:Nat}{y:AV}{xs:List AV}(hw:OwE tb h0 h sz y xs)(hs:∀id,Ab.nid y=some id→h' id=h id):OwE tb h0 h' sz y xs:=by
 rcases hw with hw|⟨id,h1,hw⟩
 ·exact ahJ
 ·exact .inr ⟨id,h1,hw.same (hs id hw.nid)⟩
theorem OwE.less{tb:TypeId}{h0 h1 h:Heap}{sz:Nat}{y:AV}{xs:List AV}(hw:OwE tb h1 h sz y xs)(hs:Sub h0 h1):OwE tb h0 h sz y xs:=by
 rcases hw with hw|⟨id,a,hw⟩
 ·exact ahJ
 ·exact .inr ⟨id,hs.none a,hw⟩
end Go.Ab
namespace Go.Proofs.YtfdgemhnlennbaaGreatDoor
open Go Go.Ab Go.Bf
theorem AS(y:AV)(xs:List AV)(h:Heap)(hb:Rd h 5 y xs)(hl:xs.length≤1000000):ai Tryz.prog 112 [y] h fun r h' =>OwE 122 h h' 5 r xs∧Ab.Sub h h' :=by
 refine adJ Tryz.func112 8 [.tmp 2] fun hwf=>?_
 simp only[go_sem];refine hb.nil fun b hxs=>?_
 cases b
 ·simp only[go_sem]
  refine hb.src (U:=U) (e:=122) adV ⟨hb.1,adK,OwE.lX (U:=U) (sz:=5) adV adV hb.1 fun y' h' hw hs=>?_⟩
  exact ah5
 ·exact ah1
theorem wh(y:AV)(xs:List AV)(h:Heap)(hb:Rd h 7 y xs)(hl:xs.length≤1000000):ai Tryz.prog 110 [y] h fun r h' =>OwE 135 h h' 7 r xs∧Ab.Sub h h' :=by
 refine adJ Tryz.func110 8 [.tmp 2] fun hwf=>?_
 simp only[go_sem];refine hb.nil fun b hxs=>?_
 cases b
 ·simp only[go_sem]
  refine hb.src (U:=U) (e:=135) adV ⟨hb.1,adK,OwE.lX (U:=U) (sz:=7) adV adV hb.1 fun y' h' hw hs=>?_⟩
  exact ah5
 ·exact ah1
theorem wg(y:AV)(xs:List AV)(h:Heap)(hb:Rd h 3 y xs)(hl:xs.length≤1000000):ai Tryz.prog 111 [y] h fun r h' =>OwE 138 h h' 3 r xs∧Ab.Sub h h' :=by
 refine adJ Tryz.func111 8 [.tmp 2] fun hwf=>?_
 simp only[go_sem];refine hb.nil fun b hxs=>?_
 cases b
 ·simp only[go_sem]
  refine hb.src (U:=U) (e:=138) adV ⟨hb.1,adK,OwE.lX (U:=U) (sz:=3) adV adV hb.1 fun y' h' hw hs=>?_⟩
  exact ah5
 ·exact ah1
theorem Jb(y:AV)(xs:List AV)(h:Heap)(hb:Rd h 2 y xs)(hl:xs.length≤1000000):ai Tryz.prog 168 [y] h fun r h' =>OwE 141 h h' 2 r xs∧Ab.Sub h h' :=by
 refine adJ Tryz.func168 8 [.tmp 2] fun hwf=>?_
 simp only[go_sem];refine hb.nil fun b hxs=>?_
 cases b
 ·simp only[go_sem]
  refine hb.src (U:=U) (e:=141) adV ⟨hb.1,adK,OwE.lX (U:=U) (sz:=2) adV adV hb.1 fun y' h' hw hs=>?_⟩
  exact ah5
 ·exact ah1
theorem FG(y:AV)(xs:List AV)(h:Heap)(hb:Rd h 4 y xs)(hl:xs.length≤1000000):ai Tryz.prog 175 [y] h fun r h' =>OwE 201 h h' 4 r xs∧Ab.Sub h h' :=by
 refine adJ Tryz.func175 8 [.tmp 2] fun hwf=>?_
 simp only[go_sem];refine hb.nil fun b hxs=>?_
 cases b
 ·simp only[go_sem]
  refine hb.src (U:=U) (e:=201) adV ⟨hb.1,adK,OwE.lX (U:=U) (sz:=4) adV adV hb.1 fun y' h' hw hs=>?_⟩
  exact ah5
 ·exact ah1
theorem qH(y:AV)(xs:List AV)(h:Heap)(hb:Rd h 3 y xs)(hl:xs.length≤1000000):ai Tryz.prog 113 [y] h fun r h' =>OwE 191 h h' 3 r xs∧Ab.Sub h h' :=by
 refine adJ Tryz.func113 8 [.tmp 2] fun hwf=>?_
 simp only[go_sem];refine hb.nil fun b hxs=>?_
 cases b
 ·simp only[go_sem]
  refine hb.src (U:=U) (e:=191) adV ⟨hb.1,adK,OwE.lX (U:=U) (sz:=3) adV adV hb.1 fun y' h' hw hs=>?_⟩
  exact ah5
 ·exact ah1
theorem xq(y:AV)(xs:List AV)(h:Heap)(hb:Rd h 3 y xs)(hl:xs.length≤1000000)(hp:ic xs=true):ai Tryz.prog 113 [y] h fun r h' =>r= .sl xs .no∧h' =h:=
 ai.freeze fun g hg _=>(qH y xs g (hb.sub hg) hl).mono fun r h' ⟨h1,h2⟩=>⟨h2,_,h1.frz hp,rfl⟩
theorem LI(y:AV)(xs:List AV)(h:Heap)(hb:Rd h 3 y xs)(hl:xs.length≤1000000):ai Tryz.prog 64 [y] h fun r h' =>OwE 131 h h' 3 r xs∧Ab.Sub h h' :=by
 refine adJ Tryz.func64 8 [.tmp 2] fun hwf=>?_
 simp only[go_sem];refine hb.nil fun b hxs=>?_
 cases b
 ·simp only[go_sem]
  refine hb.src (U:=U) (e:=131) adV ⟨hb.1,adK,OwE.lX (U:=U) (sz:=3) adV adV hb.1 fun y' h' hw hs=>?_⟩
  exact ah5
 ·exact ah1
theorem AU(y:AV)(xs:List AV)(h:Heap)(hb:Rd h 3 y xs)(hl:xs.length≤1000000)(hp:ic xs=true):ai Tryz.prog 64 [y] h fun r h' =>r= .sl xs .no∧h' =h:=
 ai.freeze fun g hg _=>(LI y xs g (hb.sub hg) hl).mono fun r h' ⟨h1,h2⟩=>⟨h2,_,h1.frz hp,rfl⟩
theorem Jc(y:AV)(xs:List AV)(h:Heap)(hb:Rd h 5 y xs)(hl:xs.length≤1000000):ai Tryz.prog 215 [y] h fun r h' =>OwE 210 h h' 5 r xs∧Ab.Sub h h' :=by
 refine adJ Tryz.func215 8 [.tmp 2] fun hwf=>?_
 simp only[go_sem];refine hb.nil fun b hxs=>?_
 cases b
 ·simp only[go_sem]
  refine hb.src (U:=U) (e:=210) adV ⟨hb.1,adK,OwE.lX (U:=U) (sz:=5) adV adV hb.1 fun y' h' hw hs=>?_⟩
  exact ah5
 ·exact ah1
theorem De(y:AV)(xs:List AV)(h:Heap)(hb:Rd h 7 y xs)(hl:xs.length≤1000000):ai Tryz.prog 216 [y] h fun r h' =>OwE 61 h h' 7 r xs∧Ab.Sub h h' :=by
 refine adJ Tryz.func216 8 [.tmp 2] fun hwf=>?_
 simp only[go_sem];refine hb.nil fun b hxs=>?_
 cases b
 ·simp only[go_sem]
  refine hb.src (U:=U) (e:=61) adV ⟨hb.1,adK,OwE.lX (U:=U) (sz:=7) adV adV hb.1 fun y' h' hw hs=>?_⟩
  exact ah5
 ·exact ah1
theorem Ja(y:AV)(xs:List AV)(h:Heap)(hb:Rd h 7 y xs)(hl:xs.length≤1000000):ai Tryz.prog 217 [y] h fun r h' =>OwE 215 h h' 7 r xs∧Ab.Sub h h' :=by
 refine adJ Tryz.func217 8 [.tmp 2] fun hwf=>?_
 simp only[go_sem];refine hb.nil fun b hxs=>?_
 cases b
 ·simp only[go_sem]
  refine hb.src (U:=U) (e:=215) adV ⟨hb.1,adK,OwE.lX (U:=U) (sz:=7) adV adV hb.1 fun y' h' hw hs=>?_⟩
  exact ah5
 ·exact ah1
theorem FJ(y:AV)(xs:List AV)(h:Heap)(hb:Rd h 7 y xs)(hl:xs.length≤1000000)(hp:ic xs=true):ai Tryz.prog 217 [y] h fun r h' =>r= .sl xs .no∧h' =h:=
 ai.freeze fun g hg _=>(Ja y xs g (hb.sub hg) hl).mono fun r h' ⟨h1,h2⟩=>⟨h2,_,h1.frz hp,rfl⟩
theorem FH(y:AV)(xs:List AV)(h:Heap)(hb:Rd h 7 y xs)(hl:xs.length≤1000000):ai Tryz.prog 250 [y] h fun r h' =>OwE 265 h h' 7 r xs∧Ab.Sub h h' :=by
 refine adJ Tryz.func250 8 [.tmp 2] fun hwf=>?_
 simp only[go_sem];refine hb.nil fun b hxs=>?_
 cases b
 ·simp only[go_sem]
  refine hb.src (U:=U) (e:=265) adV ⟨hb.1,adK,OwE.lX (U:=U) (sz:=7) adV adV hb.1 fun y' h' hw hs=>?_⟩
  exact ah5
 ·exact ah1
theorem Dg(y:AV)(xs:List AV)(h:Heap)(hb:Rd h 7 y xs)(hl:xs.length≤1000000)(hp:ic xs=true):ai Tryz.prog 250 [y] h fun r h' =>r= .sl xs .no∧h' =h:=
 ai.freeze fun g hg _=>(FH y xs g (hb.sub hg) hl).mono fun r h' ⟨h1,h2⟩=>⟨h2,_,h1.frz hp,rfl⟩
theorem FI(y:AV)(xs:List AV)(h:Heap)(hb:Rd h 3 y xs)(hl:xs.length≤1000000):ai Tryz.prog 280 [y] h fun r h' =>OwE 33 h h' 3 r xs∧Ab.Sub h h' :=by
 refine adJ Tryz.func280 8 [.tmp 2] fun hwf=>?_
 simp only[go_sem];refine hb.nil fun b hxs=>?_
 cases b
 ·simp only[go_sem]
  refine hb.src (U:=U) (e:=33) adV ⟨hb.1,adK,OwE.lX (U:=U) (sz:=3) adV adV hb.1 fun y' h' hw hs=>?_⟩
  exact ah5
 ·exact ah1
theorem Dh(y:AV)(xs:List AV)(h:Heap)(hb:Rd h 3 y xs)(hl:xs.length≤1000000)(hp:ic xs=true):ai Tryz.prog 280 [y] h fun r h' =>r= .sl xs .no∧h' =h:=
 ai.freeze fun g hg _=>(FI y xs g (hb.sub hg) hl).mono fun r h' ⟨h1,h2⟩=>⟨h2,_,h1.frz hp,rfl⟩
def Rh(h0 h:Heap)(x:AV)(c:aL):Prop:=∃f l,x= .agg [.s c.id,.s c.owner,.s c.state,f,l]∧OwE 201 h0 h 4 f (c.fields.map bO)∧OwE 191 h0 h 3 l (c.log.map iQ)∧∀i,nid f=some i→nid l≠some i
theorem cK{h:Heap}{i j:Nat}{b:Blk}(h1:h i=none)(h2:h j=some b):i≠j:=fun e=>by subst e;rw[h2]at h1;cases h1
theorem zj{h:Heap}{x:AV}{c:aL}(hb:RdC h x c)(hl:c.fields.length≤1000000)(hl2:c.log.length≤1000000):ai Tryz.prog 120 [x] h fun r h' =>Rh h h' r c∧Ab.Sub h h' :=by
 obtain⟨f,l,rfl,hf,hlg⟩:=hb;refine adJ Tryz.func120 12 [.cell 2 122] fun hwf=>?_
 simp only[go_sem];intro i1 h1;simp only[go_sem];intro i2 h2;have n21:=aH h2;have n2:=aB h2;simp only[go_sem];obtain⟨H,eH⟩:∃H,upd (upd h i1 (some (.obj [.s c.id,.s c.owner,.s c.state,f,l] 122))) i2 (some (.obj [.s [],.s [],.s [],.sl [] .full,.sl [] .full] 122))=H:=⟨_,rfl⟩;have hH:Ab.Sub h H:=aeJ;have g1:H i1=some (.obj [.s c.id,.s c.owner,.s c.state,f,l] 122):=afk;have g2:H i2=some (.obj [.s [],.s [],.s [],.sl [] .full,.sl [] .full] 122):=afc;rw[eH];refine .stage (hm1 i1 _) [0,1,3,4,2,6,5] [7,8,9] (.hm1 g1) adN ?_;simp only[go_sem,gp];refine(FG f _ H (hf.sub hH) adL).mono fun f' H1 ⟨hf',s1⟩=>?_
 refine⟨.hm1 (s1 _ _ g1),?_⟩;simp only[go_sem];refine(qH l _ H1 ((hlg.sub hH).sub s1) adL).mono fun l' H2 ⟨hl',s2⟩=>?_
 refine⟨.hm1 (s2 _ _ (s1 _ _ g1)),cH,(fun _ _ e=>ad8),?_⟩
 have g1' :=s2 _ _ (s1 _ _ g1);have g2' :=s2 _ _ (s1 _ _ g2);simp only[go_sem,g1',hf'.rd.fit,hf'.rd.cells,hl'.rd.fit,hl'.rd.cells];have n1:∀b,upd H2 i1 b i2=some (.obj [.s [],.s [],.s [],.sl [] .full,.sl [] .full] 122):=fun b=>ael
 refine⟨fun _ _ e=>ad8,fun _ _ e=>ad8,?_⟩
 simp only[go_sem,n1];have hid:∀ {y:AV} {xs:List AV} {G:Heap} {tb:TypeId} {z:Nat},Ab.Sub H G→OwE tb G H2 z y xs→∀a b,OwE tb h (upd (upd H2 i1 a) i2 b) z y xs:=fun hG hw a b=>(hw.less (hH.trans hG)).keep fun id e=>by
  have h0:=hG.none (hw.nid e).1;rw[ag _ _ (cK h0 g2),ag _ _ (cK h0 g1)]
 refine .mk _ (.refl _) (.refl _) ⟨⟨f',l',rfl,hid (.refl _) (hf'.sub s2) _ _,hid s1 hl' _ _,fun i ef el=>?_⟩,((hH.trans (s1.trans s2)).put h1 _).put n2 _⟩
 exact(hf'.nid ef).2.1 ((hl'.nid el).1)
theorem wV{h:Heap}{x:AV}{c:aL}(hb:RdC h x c)(hl:c.fields.length≤1000000)(hl2:c.log.length≤1000000):ai Tryz.prog 120 [x] h fun r h' =>r=cr c∧h' =h:=
 ai.freeze fun g hg _=>(zj (hb.sub hg) hl hl2).mono fun r h' ⟨⟨f,l,e,hf,hlg,_⟩,h2⟩=>⟨h2,cr c,by
  subst e;refine .agg _ _ rfl fun i h1 h2=>?_
  rcases i with _|_|_|_|_|i
  ·exact ad4
  ·exact ad4
  ·exact ad4
  ·exact hf.frz (bw (fun _=>rfl) _)
  ·exact hlg.frz (bw (fun _=>rfl) _)
  ·simp at h1;omega,rfl⟩
theorem M7(l:List bQ):ic (l.map dM)=true:=bw (fun _=>rfl) l
theorem Wc:(U 266).sz=1:=adV
theorem Wd:(U 262).sz=1:=adV
theorem uj(t:gj)(ht:lP t=0)(h:Heap):ai Tryz.prog 214 [aV t] h fun r h' =>r=aV t∧h' =h:=by
 obtain⟨hl,he⟩:=BO ht;refine adJ Tryz.func214 33 [.tmp 2] fun hwf=>?_
 simp only[go_sem,aV,adA];refine .intro (fun m ρ h' =>∃(i:Nat) (y:AV) (ys:List AV),Acc U 262 h h' y ys∧ys.length=i∧(∀j (h1:j<ys.length) (h2:j<t.length),∃q,ys[j]= .sl (t[j].map jb) q)∧i≤t.length∧m=t.length - i∧lk ρ 3=some y∧lk ρ 9=some (.sl (t.map cU) .no)∧lk ρ 10=some (.i t.length)∧lk ρ 11=some (.i i)) t.length ?_ ?_
 ·refine⟨0,_,[],.full (.refl _),rfl,fun j h1=>adL,adK,rfl,?_,?_,?_,?_⟩<;>simp only[go_sem]
 ·rintro m ρ h' ⟨i,y,ys,hy,hn,hys,hi,rfl,r3,r9,r10,r11⟩
  simp only[go_sem,r10,r11];refine .intro (fun e=>?_) (fun e=>?_)
  ·have hlt:i<t.length:=adH e
   have w1:IntKind.i64.wrap ((i:Int)+1)=((i+1:Nat):Int):=adY;obtain⟨ha0,hal,hae⟩:=AR (he _ (adF hlt));simp only[go_sem,r9,r11];refine .at i adL ad0 ?_;simp only[go_sem,adB,cU,adA];refine .intro (fun m ρ H=>∃(j:Nat) (z:AV) (zs:List AV),Acc U 266 h' H z zs∧zs=(t[i].take j).map jb∧j≤t[i].length∧m=t[i].length - j∧lk ρ 3=some y∧lk ρ 9=some (.sl (t.map cU) .no)∧lk ρ 10=some (.i t.length)∧lk ρ 11=some (.i i)∧lk ρ 6=some z∧lk ρ 15=some (.sl (t[i].map jb) .no)∧lk ρ 16=some (.i t[i].length)∧lk ρ 17=some (.i j)) t[i].length ?_ ?_
   ·refine⟨0,_,[],.full (.refl _),rfl,adK,rfl,?_,?_,?_,?_,?_,?_,?_,?_⟩<;>simp only[go_sem,r3,r9,r10,r11]
   ·rintro m ρ H ⟨j,z,zs,hz,rfl,hj,rfl,r3,r9,r10,r11,r6,r15,r16,r17⟩
    simp only[go_sem,r16,r17];refine .intro (fun e=>?_) (fun e=>?_)
    ·have hlt2:j<t[i].length:=adH e
     have w2:IntKind.i64.wrap ((j:Int)+1)=((j+1:Nat):Int):=adY;have hml:=(AQ (hae _ (adF hlt2))).2.1;simp only[go_sem,r15,r17];refine .at j adL ad0 ?_;simp only[go_sem,r6,adB,jb];refine(Dg _ (t[i][j].map dM) _ (eS dM 7 (fun _=>rfl) _ _) adL (M7 _)).pthen ?_
     simp only[go_sem];refine hz.app (zs:=[jb t[i][j]]) adO adO (fun k hk=>hk) (by rw[Wc];exact bx (f:=jb) (fun _=>rfl) _) (by rw[Wc];exact bx (f:=jb) (fun _=>rfl) [t[i][j]]) (by simp only[go_sem,adA,List.length_cons,List.length_nil,List.length_take];omega) fun z' H' hz' _=>?_
     simp only[go_sem,r17,w2];refine⟨_,?_,j+1,z',_,hz',?_,adK,rfl,?_,?_,?_,?_,?_,?_,?_,?_⟩
     ·omega
     ·grind [List.take_succ_eq_append_getElem]
     all_goals simp only[go_sem,r3,r9,r10,r11,r15,r16]
    ·have hge:j=t[i].length:=by grind
     subst hge;rw[List.take_length]at hz;have hyH:=hy.sub hz.1;obtain⟨q,rfl⟩:=hz.row;simp only[go_sem,r3,r6];refine hyH.app (zs:=[.sl (t[i].map jb) q]) adO adO (fun k hk=>hk) (by rw[Wd];intro w hw;obtain⟨k,hk,rfl⟩:=List.mem_iff_getElem.1 hw;obtain⟨q',e'⟩:=hys k hk adK;rw[e'];rfl) (by rw[Wd];intro w hw;rw[List.mem_singleton.1 hw];rfl) (by simp only[go_sem,hn,List.length_cons,List.length_nil];omega) fun y' H' hy' _=>?_
     simp only[go_sem,r11,w1];refine⟨_,?_,i+1,y',_,hy',adL,fun k h1 h2=>?_,adK,rfl,?_,?_,?_,?_⟩
     ·omega
     ·grind
     all_goals simp only[go_sem,r9,r10]
  ·have hge:i=t.length:=by grind
   simp only[go_sem,r3];obtain⟨q,rfl⟩:=hy.row;refine .mk (aV t) ?_ hy.1 ⟨rfl,rfl⟩;refine .deep _ _ q adL (fun k h1 h2=>?_) fun k h1 h2 j h3 h4=>?_
   ·obtain⟨q',e'⟩:=hys k h1 adK
    rw[e',adB];rfl
   ·obtain⟨q',e'⟩:=hys k h1 adK
    simp only[e',AV.cells,List.length_singleton]at h3;obtain rfl:j=0:=adK;simp only[e',adB,cU,AV.cells,List.getElem_singleton];exact agp
theorem zv(t:gj):cN (aV t)=true:=by
 refine bw (fun a=>?_) t
 refine bw (fun b=>?_) a
 exact bw (fun _=>rfl) b
theorem Kp(l:List aQ):cN (fy l)=true:=by simp only[fy,cN];exact bw (fun _=>rfl) l
theorem vF(l:List cC):cN (aA l)=true:=by simp only[aA,cN];exact bw (fun _=>rfl) l
theorem BA(r:cR):cN (aC r)=true:=by simp[aC,cN,ic,zv,Kp,vF]
mutual
theorem EC:∀p:bJ,cN (aM p)=true
 |.mk id set alg tgt rules kids obls=>by simp[aM,cN,ic,zv,vF,bw BA rules,vE kids]
theorem vE:∀l:List bJ,ic (fH l)=true
 | []=>rfl
 |k::r=>by simp[fH,ic,EC k,vE r]
end
theorem jD(p:bJ):(aM p).cells.length=7:=by cases p;rfl
theorem Oz{l:List aQ}(h:kr l=0):l.length≤32:=by
 grind [yw]
theorem Im{l:List cC}(h:iE l=0):l.length≤8:=(kM h).1
theorem vQ{H:Heap}{i:Nat}{x:Option Blk}(h:H i=x):upd H i x=H:=by
 grind [ah,ag]
theorem mg{tb:TypeId}{h:Heap}{sz id i:Nat}{y:AV}{xs cs:List AV}{t:TypeId}(hw:Ow tb h sz id y xs)(hi:h i=some (.obj cs t))(ht:t≠tb):id≠i:=by
 obtain⟨cap,rest,rfl,h1,_⟩:=hw
 grind
theorem lJ{sz:Nat}{xs:List AV}(hs:Sized sz xs)(j:Nat)(hj:j<xs.length)(o:Nat)(c:List AV)(ho:o+c.length≤sz){rest:List AV}:
  (au xs++rest).take (j*sz+o)++c++(au xs++rest).drop (j*sz+o+c.length)=au (xs.set j (.agg (Ab.over xs[j].cells o c)))++rest:=by
 have hl:=aZ hs;have hb:(j+1)*sz≤xs.length*sz:=Nat.mul_le_mul_right _ adK;rw[Nat.add_mul,Nat.one_mul]at hb;have:=MU (us:=au xs) (vs:=rest) (o:=j*sz+o) (c:=c) adK;rw[Ab.over]at this;rw[this,Jx hs j hj o c ho]
theorem ry{α:Type}{xs:List α}{i:Nat}{x:α}(h:xs[i]? =some x):xs.set i x=xs:=by
 obtain⟨hi,rfl⟩:=List.getElem?_eq_some_iff.1 h;simp
theorem nY(id:Txt)(set:Bool)(alg:Int)(tgt:gj)(rules:List cR)(kids:List bJ)(obls:List cC):aM (.mk id set alg tgt rules kids obls)= .agg [.s id,.b set,.i alg,aV tgt,.sl (rules.map aC) .no,.sl (kids.map aM) .no,aA obls]:=by simp[aM,aY]
theorem uh:∀(p:bJ) (d:Nat),nq d p→∀h,ai Tryz.prog 169 [aM p] h fun r h' =>r=aM p∧h' =h
 |.mk pid pset palg ptgt prules pkids pobls,d,hp,h=>by
  obtain⟨_,_,_,_,_,_,ht,ho,hr16,hk16,hre,hke⟩:=hp;rw[qT]at hke;have ih:∀(j:Nat) (hj:j<pkids.length) (h:Heap),ai Tryz.prog 169 [aM pkids[j]] h fun r h' =>r=aM pkids[j]∧h' =h:=fun j hj h=>uh pkids[j] (d+1) (hke _ (adF hj)) h
  have hob:=Im ho;refine ai.freeze fun g hg _=>?_
  rw[nY];refine adJ Tryz.func169 72 [.cell 2 61] fun hwf=>?_
  simp only[go_sem];intro i1 h1;simp only[go_sem];intro i2 h2;have n21:=aH h2;have n2:=aB h2;simp only[go_sem];obtain⟨H,eH⟩:∃H,upd (upd g i1 (some (.obj [.s pid,.b pset,.i palg,aV ptgt,.sl (prules.map aC) .no,.sl (pkids.map aM) .no,aA pobls] 61))) i2 (some (.obj [.s [],.b false,.i 0,.sl [] .full,.sl [] .full,.sl [] .full,.sl [] .full] 61))=H:=⟨_,rfl⟩;have hH:Ab.Sub g H:=by rw[←eH];exact((Sub.refl g).put h1 _).put n2 _
  have g1:H i1=some (.obj [.s pid,.b pset,.i palg,aV ptgt,.sl (prules.map aC) .no,.sl (pkids.map aM) .no,aA pobls] 61):=afk;have g2:H i2=some (.obj [.s [],.b false,.i 0,.sl [] .full,.sl [] .full,.sl [] .full,.sl [] .full] 61):=afc;rw[eH];refine .stage (hm1 i1 _) [0,1,3,4,2,6,5] [7,8,9] (.hm1 g1) adN ?_;simp only[go_sem,gp];refine(uj ptgt ht H).pthen ?_;refine⟨.hm1 g1,?_⟩;simp only[go_sem];refine(AU _ (pobls.map bu) H (eS bu 3 (fun _=>rfl) _ _) aep (bw (fun _=>rfl) _)).pthen ?_
  refine⟨.hm1 g1,cH,(fun _ _ e=>ad8),?_⟩
  have cT:(aV ptgt).cells= [aV ptgt]:=rfl;simp only[go_sem,g1,show fit (aV ptgt) 1=(1=1)from rfl,cT]
  have eo:(.sl (pobls.map bu) .no:AV)=aA pobls:=rfl;rw[eo];refine⟨fun _ _ e=>ad8,fun _ _ e=>ad8,?_⟩
  rw[vQ g1];refine .stage (hm1 i1 _) [0,1,3,4,2,6,5] [7,8,9] (.hm1 g1) adN ?_;simp only[go_sem,gp];refine(Jc _ (prules.map aC) H (eS aC 5 (fun _=>rfl) _ _) aep).mono fun y4 H1 ⟨w4,s1⟩=>?_
  refine⟨.hm1 (s1 _ _ g1),?_⟩;simp only[go_sem];refine(De _ (pkids.map aM) H1 (eS aM 7 jD _ _) aep).mono fun y5 H2 ⟨w5,s2⟩=>?_
  have g1' :=s2 _ _ (s1 _ _ g1);have g2' :=s2 _ _ (s1 _ _ g2);refine⟨.hm1 g1',cH,(fun _ _ e=>ad8),?_⟩
  simp only[go_sem,g1',w4.rd.fit,w4.rd.cells,w5.rd.fit,w5.rd.cells];refine⟨fun _ _ e=>ad8,fun _ _ e=>ad8,?_⟩
  have hn4:∀id,nid y4=some id→id≠i2:=fun id e=>cK (w4.nid e).1 g2
  have hn5:∀id,nid y5=some id→id≠i2:=fun id e=>cK (w5.nid e).1 (s1 _ _ g2)
  have hnd:∀i,nid y4=some i→nid y5≠some i:=fun i e4 e5=>(w4.nid e4).2.1 (w5.nid e5).1
  have v4:∀b,OwE 210 g (upd H2 i1 b) 5 y4 (prules.map aC):=fun b=>((w4.sub s2).less hH).keep fun id e=>ag _ _ (cK (w4.nid e).1 g1)
  have v5:∀b,OwE 61 g (upd H2 i1 b) 7 y5 (pkids.map aM):=fun b=>(w5.less (hH.trans s1)).keep fun id e=>ag _ _ (cK (s1.none (w5.nid e).1) g1)
  have vs:∀b,Ab.Sub g (upd H2 i1 b):=fun b=>(hH.trans (s1.trans s2)).put h1 b
  have vz:∀b,upd H2 i1 b i2=some (.obj [.s [],.b false,.i 0,.sl [] .full,.sl [] .full,.sl [] .full,.sl [] .full] 61):=fun b=>by rw[ag _ _ n21];exact g2'
  obtain⟨H3,eH3⟩:∃H3,upd H2 i1 (some (.obj [.s pid,.b pset,.i palg,aV ptgt,y4,y5,aA pobls] 61))=H3:=⟨_,rfl⟩;have q1:H3 i1=some (.obj [.s pid,.b pset,.i palg,aV ptgt,y4,y5,aA pobls] 61):=by rw[←eH3,ah]
  replace v4:=v4 (some (.obj [.s pid,.b pset,.i palg,aV ptgt,y4,y5,aA pobls] 61));replace v5:=v5 (some (.obj [.s pid,.b pset,.i palg,aV ptgt,y4,y5,aA pobls] 61));replace vs:=vs (some (.obj [.s pid,.b pset,.i palg,aV ptgt,y4,y5,aA pobls] 61));replace vz:=vz (some (.obj [.s pid,.b pset,.i palg,aV ptgt,y4,y5,aA pobls] 61));rw[eH3]at v4 v5 vs vz;rw[eH3];clear eH3;have hi1:∀id,g id=none→∀ {K:Heap} {b:Blk},K id=some b→K id≠none:=fun id _ K b e=>by rw[e];simp
  simp only[go_sem,v4.rd.len,adA];refine .intro (fun m ρ G=>∃i:Nat,G i1=some (.obj [.s pid,.b pset,.i palg,aV ptgt,y4,y5,aA pobls] 61)∧G i2=some (.obj [.s [],.b false,.i 0,.sl [] .full,.sl [] .full,.sl [] .full,.sl [] .full] 61)∧Ab.Sub g G∧OwE 210 g G 5 y4 (prules.map aC)∧OwE 61 g G 7 y5 (pkids.map aM)∧i≤prules.length∧m=prules.length - i∧
   lk ρ 1=some (.ptr i1 0)∧lk ρ 2=some (.ptr i2 0)∧lk ρ 24=some y4∧lk ρ 25=some (.i prules.length)∧lk ρ 26=some (.i i)) prules.length ?_ ?_
  ·refine⟨0,q1,vz,vs,v4,v5,adK,rfl,?_,?_,?_,?_,?_⟩<;>simp only[go_sem]
  ·rintro m ρ G ⟨i,q1,vz,vs,v4,v5,hi,rfl,r1,r2,r24,r25,r26⟩
   simp only[go_sem,r25,r26];refine .intro (fun e=>?_) (fun e=>?_)
   ·have hlt:i<prules.length:=adH e
    have w1:=adG i adK;obtain⟨_,rt,rc,ro⟩:=hre _ (adF hlt);have hrc:=Oz rc;have hro:=Im ro;simp only[go_sem,r24,r26];refine v4.rd.idx (e:=210) i rfl aeb adU adO fun p hp1=>?_
    have hld:=hp1.all (U:=U) (ty:=210) adU aeo aeo;simp only[go_sem,hld,adB,aC];intro i4 h4;have n41:i4≠i1:=cK h4 q1;simp only[go_sem];obtain⟨G4,eG4⟩:∃G4,upd G i4 (some (.obj [.s prules[i].id,.b prules[i].deny,aV prules[i].tgt,fy prules[i].cond,aA prules[i].obls] 210))=G4:=⟨_,rfl⟩;rw[eG4];have p1:G4 i1=some (.obj [.s pid,.b pset,.i palg,aV ptgt,y4,y5,aA pobls] 61):=ago;have p4:G4 i4=some (.obj [.s prules[i].id,.b prules[i].deny,aV prules[i].tgt,fy prules[i].cond,aA prules[i].obls] 210):=by rw[←eG4,ah]
    have sG:Ab.Sub G G4:=ag5;refine .calls (hm2 i1 (.obj [.s pid,.b pset,.i palg,aV ptgt,y4,y5,aA pobls] 61) i4 (.obj [.s prules[i].id,.b prules[i].deny,aV prules[i].tgt,fy prules[i].cond,aA prules[i].obls] 210)) [0,1,2,3,4,5,6,7,8,9,10,12,13,15,16,11,14,17,18,19,20,21,22,23,24,25,26] (.hm2 p1 p4) adN rfl ?_;simp only[go_sem,r1,rN _ _ n41.symm,rO];refine(uj prules[i].tgt rt G4).pthen ?_;refine⟨.hm2 p1 p4,?_⟩;simp only[go_sem];refine(FJ _ (prules[i].cond.map dI) G4 (eS dI 7 (fun _=>rfl) _ _) aep (bw (fun _=>rfl) _)).pthen ?_
    refine⟨.hm2 p1 p4,?_⟩;simp only[go_sem];refine(AU _ (prules[i].obls.map bu) G4 (eS bu 3 (fun _=>rfl) _ _) aep (bw (fun _=>rfl) _)).pthen ?_
    refine⟨.hm2 p1 p4,?_⟩;simp only[go_sem];obtain⟨id4,hg4,o4⟩:=(v4.sub sG).ow afS;have m1:id4≠i1:=mg o4 p1 adO;have m4:id4≠i4:=fun e=>(v4.nid o4.nid).2.1 (by rw[e];exact h4)
    refine o4.idx (U:=U) (e:=210) i rfl aeb adU adO ?_;simp only[go_sem];have o4' :=o4;obtain⟨cap,rest,ey,hid,hr,hc,hsz⟩:=o4';have hbd:i*5+5≤(au (prules.map aC)++rest).length:=by
     rw[adE,aZ hsz,adA];omega
    have e2:List.take (i*5+2) (au (prules.map aC)++rest)++(aV prules[i].tgt).cells++List.drop (i*5+2+(aV prules[i].tgt).cells.length) (au (prules.map aC)++rest)=au (prules.map aC)++rest:=by
     refine(lJ hsz i aeb 2 ((aV prules[i].tgt).cells) (adz rfl)).trans ?_;exact ajp
    have e3:List.take (i*5+3) (au (prules.map aC)++rest)++ [.sl (prules[i].cond.map dI) .no]++List.drop (i*5+3+1) (au (prules.map aC)++rest)=au (prules.map aC)++rest:=by
     refine(lJ hsz i aeb 3 ([.sl (prules[i].cond.map dI) .no]) (adz rfl)).trans ?_;exact ajp
    have e4:List.take (i*5+4) (au (prules.map aC)++rest)++ [.sl (prules[i].obls.map bu) .no]++List.drop (i*5+4+1) (au (prules.map aC)++rest)=au (prules.map aC)++rest:=by
     refine(lJ hsz i aeb 4 ([.sl (prules[i].obls.map bu) .no]) (adz rfl)).trans ?_;exact ajp
    simp only[go_sem,hid];rw[e2,vQ hid];refine⟨rfl,adK,.hm2 p1 p4,?_⟩;refine o4.idx (U:=U) (e:=210) i rfl aeb adU adO ?_;simp only[go_sem,hid];rw[e3,vQ hid];refine⟨adK,.hm2 p1 p4,?_⟩;refine o4.idx (U:=U) (e:=210) i rfl aeb adU adO ?_;simp only[go_sem,hid];rw[e4,vQ hid];refine⟨adK,.hm2 p1 p4,?_⟩;simp only[go_sem,r26,w1];refine⟨_,?_,i+1,p1,sG _ _ vz,vs.trans sG,v4.sub sG,v5.sub sG,adK,rfl,?_,?_,?_,?_,?_⟩
    ·omega
    all_goals simp only[go_sem,r1,r2,r24,r25]
   ·have hge:i=prules.length:=by have:=adD e;omega
    clear hge;simp only[go_sem,r1,q1,v5.rd.len,adA];refine .intro (fun m ρ G=>∃i:Nat,G i1=some (.obj [.s pid,.b pset,.i palg,aV ptgt,y4,y5,aA pobls] 61)∧G i2=some (.obj [.s [],.b false,.i 0,.sl [] .full,.sl [] .full,.sl [] .full,.sl [] .full] 61)∧Ab.Sub g G∧OwE 210 g G 5 y4 (prules.map aC)∧OwE 61 g G 7 y5 (pkids.map aM)∧i≤pkids.length∧m=pkids.length - i∧
     lk ρ 1=some (.ptr i1 0)∧lk ρ 2=some (.ptr i2 0)∧lk ρ 57=some y5∧lk ρ 58=some (.i pkids.length)∧lk ρ 59=some (.i i)) pkids.length ?_ ?_
    ·refine⟨0,q1,vz,vs,v4,v5,adK,rfl,?_,?_,?_,?_,?_⟩<;>simp only[go_sem,r1,r2]
    ·clear r1 r2 r24 r25 r26 q1 vz vs v4 v5 e hi
     rintro m ρ G ⟨i,q1,vz,vs,v4,v5,hi,rfl,r1,r2,r57,r58,r59⟩
     simp only[go_sem,r58,r59];refine .intro (fun e=>?_) (fun e=>?_)
     ·have hlt:i<pkids.length:=adH e
      have w1:=adG i adK;have ihi:=ih i hlt;have hci:=jD pkids[i];cases hpk:pkids[i]with
      |mk kid kset kalg ktgt krules kkids kobls=>
      rw[hpk,nY]at ihi;simp only[go_sem,r57,r59];refine v5.rd.idx (e:=61) i rfl aeb adU adO fun p hp1=>?_
      have hld:=hp1.all (U:=U) (ty:=61) adU (by simp only[go_sem];rw[adB];exact hci) (by simp only[go_sem];rw[adB,hpk,nY];rfl)
      simp only[go_sem,hld,adB,hpk,nY];intro i4 h4;have n41:i4≠i1:=cK h4 q1;simp only[go_sem];obtain⟨G4,eG4⟩:∃G4,upd G i4 (some (.obj [.s kid,.b kset,.i kalg,aV ktgt,.sl (krules.map aC) .no,.sl (kkids.map aM) .no,aA kobls] 61))=G4:=⟨_,rfl⟩;rw[eG4];have p1:G4 i1=some (.obj [.s pid,.b pset,.i palg,aV ptgt,y4,y5,aA pobls] 61):=ago;have p4:G4 i4=some (.obj [.s kid,.b kset,.i kalg,aV ktgt,.sl (krules.map aC) .no,.sl (kkids.map aM) .no,aA kobls] 61):=by rw[←eG4,ah]
      have sG:Ab.Sub G G4:=ag5;refine .calls (hm2 i1 (.obj [.s pid,.b pset,.i palg,aV ptgt,y4,y5,aA pobls] 61) i4 (.obj [.s kid,.b kset,.i kalg,aV ktgt,.sl (krules.map aC) .no,.sl (kkids.map aM) .no,aA kobls] 61)) [0,1,2,3,4,5,6] (.hm2 p1 p4) adN rfl ?_;simp only[go_sem,r1,rN _ _ n41.symm,rO];refine(ihi G4).pthen ?_;refine⟨.hm2 p1 p4,?_⟩;simp only[go_sem];obtain⟨id4,hg4,o4⟩:=(v5.sub sG).ow afS;have o4' :=o4;obtain⟨cap,rest,ey,hid,hr,hc,hsz⟩:=o4';have hbd:i*7+7≤(au (pkids.map aM)++rest).length:=by
       rw[adE,aZ hsz,adA];omega
      have e2:List.take (i*7) (au (pkids.map aM)++rest)++ [.s kid,.b kset,.i kalg,aV ktgt,.sl (krules.map aC) .no,.sl (kkids.map aM) .no,aA kobls]++List.drop (i*7+7) (au (pkids.map aM)++rest)=au (pkids.map aM)++rest:=by
       refine(lJ hsz i aeb 0 [.s kid,.b kset,.i kalg,aV ktgt,.sl (krules.map aC) .no,.sl (kkids.map aM) .no,aA kobls] (adz rfl)).trans ?_;rw[ry];rw[List.getElem?_eq_getElem aeb,adB,hpk,nY];rfl
      refine o4.idx (U:=U) (e:=61) i rfl aeb adU adO ?_;simp only[go_sem,hid];rw[e2,vQ hid];refine⟨adK,.hm2 p1 p4,?_⟩;simp only[go_sem,r59,w1];refine⟨_,?_,i+1,p1,sG _ _ vz,vs.trans sG,v4.sub sG,v5.sub sG,adK,rfl,?_,?_,?_,?_,?_⟩
      ·omega
      all_goals simp only[go_sem,r1,r2,r57,r58]
     ·simp only[go_sem,r1,r2,q1,vz]
      refine .mk _ (.refl _) (.refl _) ⟨vs.put n2 _,aM (.mk pid pset palg ptgt prules pkids pobls),?_,nY ..⟩;rw[nY];have z4:∀b,Frz g (upd G i2 b) y4 (.sl (prules.map aC) .no):=fun b=>(v4.keep fun id e=>ag _ _ (hn4 id e)).frz (bw BA prules)
      have z5:∀b,Frz g (upd G i2 b) y5 (.sl (pkids.map aM) .no):=fun b=>(v5.keep fun id e=>ag _ _ (hn5 id e)).frz (by rw[←aY];exact vE pkids)
      refine .agg _ _ rfl fun k k1 k2=>?_
      rcases k with _|_|_|_|_|_|_|k
      ·exact ad4
      ·exact ad4
      ·exact ad4
      ·exact .pure (zv _)
      ·exact z4 _
      ·exact z5 _
      ·exact .pure (vF _)
      ·simp at k1;omega
termination_by p=>SizeOf.sizeOf p
decreasing_by
 have:=List.sizeOf_lt_of_mem (adF hj);simp only[bJ.mk.sizeOf_spec];omega
end Go.Proofs.YtfdgemhnlennbaaGreatDoor
namespace Go.Ab
open Go
def apart(a b:AV):Prop:=∀i,nid a=some i→nid b≠some i
theorem apart.symm{a b:AV}(h:apart a b):apart b a:=fun i e1 e2=>h i e2 e1
theorem dX{a y:AV}{tb:TypeId}{g h:Heap}{sz:Nat}{xs:List AV}(hw:OwE tb g h sz y xs)(ha:∀i,nid a=some i→g i≠none):apart a y:=fun i e1 e2=>ha i e1 (hw.nid e2).1
theorem OwE.there{tb:TypeId}{h0 h h' :Heap}{sz:Nat}{y:AV}{xs:List AV}(hw:OwE tb h0 h sz y xs)(hs:∀i,h i≠Option.none→h' i≠Option.none):∀i,Ab.nid y=some i→h' i≠Option.none:=fun i e=>hs i (hw.nid e).2.1
theorem Sub.some{h h' :Heap}(hs:Sub h h'):∀i,h i≠Option.none→h' i≠Option.none:=fun i e e' =>e (hs.none e')
end Go.Ab
namespace Go.Proofs.YtfdgemhnlennbaaGreatDoor
open Go Go.Ab Go.Bf
def fq(h0 h:Heap)(ys:List AV)(x:AV)(c:aL):Prop:=∃f l,x= .agg [.s c.id,.s c.owner,.s c.state,f,l]∧OwE 201 h0 h 4 f (c.fields.map bO)∧OwE 191 h0 h 3 l (c.log.map iQ)∧apart f l∧∀y∈ys,apart f y∧apart l y
def mq(h0 h:Heap)(ys:List AV)(y1:AV)(cs:List aL)(i0:Nat):Prop:=∃xs,OwE 122 h0 h 5 y1 xs∧xs.length=cs.length∧(∀j (h1:j<xs.length) (h2:j<cs.length),j≠i0→xs[j]=cr cs[j])∧∀(h1:i0<xs.length) (h2:i0<cs.length),fq h0 h ys xs[i0] cs[i0]
def tr(h0 h:Heap)(x:AV)(s:aq)(i0:Nat):Prop:=∃y1 y2 y3 y4,x= .agg ([.i s.tick,y1,y2,y3,y4]++gb s.policy++ [.i s.version])∧mq h0 h [y1,y2,y3,y4] y1 s.cases i0∧
 OwE 135 h0 h 7 y2 (s.reviews.map iU)∧OwE 138 h0 h 3 y3 (s.notices.map nH)∧OwE 141 h0 h 2 y4 (s.roles.map eJ)∧apart y1 y2∧apart y1 y3∧apart y1 y4∧apart y2 y3∧apart y2 y4∧apart y3 y4
theorem Kk{cs L:List AV}(h:L.length=cs.length):Ab.over cs 0 L=L:=by
 simp_all [Ab.over,List.take_zero,List.nil_append,Nat.zero_add,List.drop_of_length_le,List.append_nil]
theorem Es{h:Heap}{x:AV}{c:aL}(i i0:Nat)(hb:RdC h x c)(hl:c.fields.length≤1000000)(hl2:c.log.length≤1000000):ai Tryz.prog 120 [x] h fun r h' =>
  ∃f l,r= .agg [.s c.id,.s c.owner,.s c.state,f,l]∧Ab.Sub h h'∧f.cells= [f]∧l.cells= [l]∧(i≠i0→f=gy c.fields∧l=sQ c.log)∧(i=i0→OwE 201 h h' 4 f (c.fields.map bO)∧OwE 191 h h' 3 l (c.log.map iQ)∧apart f l):=by
 by_cases e:i=i0
 ·exact(zj hb hl hl2).mono fun r h' ⟨⟨f,l,e1,a,b,c⟩,d⟩=>⟨f,l,e1,d,a.rd.cells,b.rd.cells,fun hh=>(hh e).elim,fun _=>⟨a,b,c⟩⟩
 ·exact(wV hb hl hl2).mono fun r h' ⟨e1,e2⟩=>⟨_,_,e1,by rw[e2];exact .refl _,rfl,rfl,fun _=>⟨rfl,rfl⟩,fun hh=>(e hh).elim⟩
theorem fq.sub{h0 h h' :Heap}{ys:List AV}{x:AV}{c:aL}(hm:fq h0 h ys x c)(hs:Ab.Sub h h'):fq h0 h' ys x c:=by
 obtain⟨f,l,e,a,b,c,d⟩:=hm;exact⟨f,l,e,a.sub hs,b.sub hs,c,d⟩
theorem fq.keep{h0 h h' :Heap}{ys:List AV}{x:AV}{c:aL}(hm:fq h0 h ys x c)(hs:∀f l,x= .agg [.s c.id,.s c.owner,.s c.state,f,l]→(∀y∈ys,apart f y∧apart l y)→∀i,(nid f=some i∨nid l=some i)→h' i=h i):fq h0 h' ys x c:=by
 obtain⟨f,l,e,a,b,c,d⟩:=hm;exact⟨f,l,e,a.keep fun i hi=>hs f l e d i (.inl hi),b.keep fun i hi=>hs f l e d i (.inr hi),c,d⟩
theorem SQ{h:Heap}{x:AV}{s:aq}(hb:RdS h x s)(i0:Nat)(hf:Few s)(hp:nq 1 s.policy):ai Tryz.prog 114 [x] h fun r h' =>tr h h' r s i0∧Ab.Sub h h' :=by
 obtain⟨y1,y2,y3,y4,rfl,⟨xs0,hc,hn,hcs⟩,h2,h3,h4⟩:=hb;have hpo:=uh s.policy 1 hp;cases hpp:s.policy with
 |mk pid pset palg ptgt prules pkids pobls=>
 rw[hpp,nY]at hpo;have hcC:gb (.mk pid pset palg ptgt prules pkids pobls)= [.s pid,.b pset,.i palg,aV ptgt,.sl (prules.map aC) .no,.sl (pkids.map aM) .no,aA pobls]:=agO;have hfc:=hf.cases;refine adJ Tryz.func114 41 [.cell 2 63] fun hwf=>?_
 simp only[go_sem,hcC,List.cons_append,List.nil_append];intro i1 h1;simp only[go_sem];intro i2 h2';have n21:=aH h2';have n2:=aB h2';simp only[go_sem,ak,n21.symm];obtain⟨H,eH⟩:∃H,upd (upd h i1 (some (.obj [.i s.tick,y1,y2,y3,y4,.s pid,.b pset,.i palg,aV ptgt,.sl (prules.map aC) .no,.sl (pkids.map aM) .no,aA pobls,.i s.version] 63))) i2 (some (.obj [.i 0,.sl [] .full,.sl [] .full,.sl [] .full,.sl [] .full,.s [],.b false,.i 0,.sl [] .full,.sl [] .full,.sl [] .full,.sl [] .full,.i 0] 63))=H:=⟨_,rfl⟩;have hH:Ab.Sub h H:=aeJ;have g1:H i1=some (.obj [.i s.tick,y1,y2,y3,y4,.s pid,.b pset,.i palg,aV ptgt,.sl (prules.map aC) .no,.sl (pkids.map aM) .no,aA pobls,.i s.version] 63):=afk;have g2:H i2=some (.obj [.i 0,.sl [] .full,.sl [] .full,.sl [] .full,.sl [] .full,.s [],.b false,.i 0,.sl [] .full,.sl [] .full,.sl [] .full,.sl [] .full,.i 0] 63):=afc;rw[eH];clear eH;refine(AS y1 xs0 H (hc.sub hH) adK).mono fun z1 H1 ⟨w1,s1⟩=>?_
 simp only[go_sem,s1 _ _ g1,w1.rd.fit,w1.rd.cells];have v1:∀b,OwE 122 h (upd H1 i1 b) 5 z1 xs0:=fun b=>(w1.less hH).keep fun id e=>ag _ _ (cK (w1.nid e).1 g1)
 have vs:∀b,Ab.Sub h (upd H1 i1 b):=fun b=>(hH.trans s1).put h1 b
 have vz:∀b,upd H1 i1 b i2=some (.obj [.i 0,.sl [] .full,.sl [] .full,.sl [] .full,.sl [] .full,.s [],.b false,.i 0,.sl [] .full,.sl [] .full,.sl [] .full,.sl [] .full,.i 0] 63):=fun b=>by rw[ag _ _ n21];exact s1 _ _ g2
 have hz1:∀id,nid z1=some id→id≠i1:=fun id e=>cK (w1.nid e).1 g1
 have hz2:∀id,nid z1=some id→id≠i2:=fun id e=>cK (w1.nid e).1 g2
 obtain⟨H2,eH2⟩:∃H2,upd H1 i1 (some (.obj [.i s.tick,z1,y2,y3,y4,.s pid,.b pset,.i palg,aV ptgt,.sl (prules.map aC) .no,.sl (pkids.map aM) .no,aA pobls,.i s.version] 63))=H2:=⟨_,rfl⟩;replace v1:=v1 (some (.obj [.i s.tick,z1,y2,y3,y4,.s pid,.b pset,.i palg,aV ptgt,.sl (prules.map aC) .no,.sl (pkids.map aM) .no,aA pobls,.i s.version] 63));replace vs:=vs (some (.obj [.i s.tick,z1,y2,y3,y4,.s pid,.b pset,.i palg,aV ptgt,.sl (prules.map aC) .no,.sl (pkids.map aM) .no,aA pobls,.i s.version] 63));replace vz:=vz (some (.obj [.i s.tick,z1,y2,y3,y4,.s pid,.b pset,.i palg,aV ptgt,.sl (prules.map aC) .no,.sl (pkids.map aM) .no,aA pobls,.i s.version] 63));have q1:H2 i1=some (.obj [.i s.tick,z1,y2,y3,y4,.s pid,.b pset,.i palg,aV ptgt,.sl (prules.map aC) .no,.sl (pkids.map aM) .no,aA pobls,.i s.version] 63):=by rw[←eH2,ah]
 rw[eH2]at v1 vs vz;rw[eH2];clear eH2;simp only[go_sem,v1.rd.len,hn];refine .intro (fun m ρ G=>∃(i:Nat) (xs:List AV),G i1=some (.obj [.i s.tick,z1,y2,y3,y4,.s pid,.b pset,.i palg,aV ptgt,.sl (prules.map aC) .no,.sl (pkids.map aM) .no,aA pobls,.i s.version] 63)∧G i2=some (.obj [.i 0,.sl [] .full,.sl [] .full,.sl [] .full,.sl [] .full,.s [],.b false,.i 0,.sl [] .full,.sl [] .full,.sl [] .full,.sl [] .full,.i 0] 63)∧Ab.Sub h G∧OwE 122 h G 5 z1 xs∧xs.length=s.cases.length∧(∀j (h1:j<xs.length) (h2:j<s.cases.length),j<i→j≠i0→xs[j]=cr s.cases[j])∧(∀(h1:i0<xs.length) (h2:i0<s.cases.length),i0<i→fq h G [z1] xs[i0] s.cases[i0])∧(∀j (h1:j<xs.length) (h2:j<s.cases.length),i≤j→RdC h xs[j] s.cases[j])∧i≤s.cases.length∧m=s.cases.length - i∧
  lk ρ 1=some (.ptr i1 0)∧lk ρ 2=some (.ptr i2 0)∧lk ρ 10=some z1∧lk ρ 11=some (.i s.cases.length)∧lk ρ 12=some (.i i)) s.cases.length ?_ ?_
 ·refine⟨0,xs0,q1,vz,vs,v1,hn,fun j _ _ hj=>adK,fun _ _ hj=>adK,fun j a b _=>hcs j a b,adK,rfl,?_,?_,?_,?_,?_⟩<;>simp only[go_sem]
 ·rintro m ρ G ⟨i,xs,q1,vz,vs,v1,hn,hlo,hmy,hhi,hi,rfl,r1,r2,r10,r11,r12⟩
  simp only[go_sem,r11,r12];refine .intro (fun e=>?_) (fun e=>?_)
  ·have hlt:i<s.cases.length:=adH e
   have hltx:i<xs.length:=adK;have w1:=adG i adK;obtain⟨f,l,ex,hfl,hlg⟩:=hhi i hltx hlt (Nat.le_refl _);have hff:=hf.fields _ (adF hlt);have hfg:=hf.log _ (adF hlt);simp only[go_sem,r10,r12];refine v1.rd.idx (e:=122) i rfl hltx oe adO fun p hp1=>?_
   have hld:=hp1.all (U:=U) (ty:=122) adU (by rw[oe,ex];rfl) (by simp only[go_sem];rw[ex];rfl)
   simp only[go_sem,hld,ex];intro i4 h4;have n41:i4≠i1:=cK h4 q1;simp only[go_sem];obtain⟨G4,eG4⟩:∃G4,upd G i4 (some (.obj [.s s.cases[i].id,.s s.cases[i].owner,.s s.cases[i].state,f,l] 122))=G4:=⟨_,rfl⟩;rw[eG4];have p1:G4 i1=some (.obj [.i s.tick,z1,y2,y3,y4,.s pid,.b pset,.i palg,aV ptgt,.sl (prules.map aC) .no,.sl (pkids.map aM) .no,aA pobls,.i s.version] 63):=ago;have p4:G4 i4=some (.obj [.s s.cases[i].id,.s s.cases[i].owner,.s s.cases[i].state,f,l] 122):=by rw[←eG4,ah]
   have sG:Ab.Sub G G4:=ag5;refine .calls (hm2 i1 (.obj [.i s.tick,z1,y2,y3,y4,.s pid,.b pset,.i palg,aV ptgt,.sl (prules.map aC) .no,.sl (pkids.map aM) .no,aA pobls,.i s.version] 63) i4 (.obj [.s s.cases[i].id,.s s.cases[i].owner,.s s.cases[i].state,f,l] 122)) [0,1,2,3,4,5,6] (.hm2 p1 p4) adN rfl ?_;simp only[go_sem,r1,rN _ _ n41.symm,rO];refine(Es i i0 (show RdC G4 (.agg [.s s.cases[i].id,.s s.cases[i].owner,.s s.cases[i].state,f,l]) s.cases[i]from⟨f,l,rfl,hfl.sub (vs.trans sG),hlg.sub (vs.trans sG)⟩) hff hfg).mono fun r G5 ⟨f',l',er,s5,cf,cl,hne,heq⟩=>?_
   subst er;have p1' :=s5 _ _ p1;have p4' :=s5 _ _ p4;refine⟨.hm2 p1' p4',?_⟩;simp only[go_sem];obtain⟨id1,hg1,o1⟩:=((v1.sub sG).sub s5).ow (by intro e;rw[e]at hltx;cases hltx)
   have t1:id1≠i1:=mg o1 p1' adO;have t2:id1≠i2:=hz2 id1 o1.nid;have t3:G4 id1≠none:=fun e=>(v1.nid o1.nid).2.1 (sG.none e)
   have o1' :=o1;obtain⟨cap,rest,ey,hid,hr,hcap,hsz⟩:=o1';have hbd:i*5+5≤(au xs++rest).length:=by
    rw[adE,aZ hsz];omega
   have hx5:xs[i].cells.length=5:=hsz _ (adF hltx);have e2:List.take (i*5) (au xs++rest)++ [.s s.cases[i].id,.s s.cases[i].owner,.s s.cases[i].state,f',l']++List.drop (i*5+5) (au xs++rest)=au (xs.set i (.agg [.s s.cases[i].id,.s s.cases[i].owner,.s s.cases[i].state,f',l']))++rest:=by
    refine(lJ hsz i hltx 0 [.s s.cases[i].id,.s s.cases[i].owner,.s s.cases[i].state,f',l'] (adz rfl)).trans ?_;rw[Kk (by rw[hx5];rfl)]
   refine o1.idx (U:=U) (e:=122) i rfl hltx oe adO ?_;simp only[go_sem,hid];rw[e2];have t4:id1≠i4:=fun e=>(v1.nid o1.nid).2.1 (by rw[e];exact h4)
   refine⟨adK,.hm2 (by rw[ag _ _ t1.symm];exact p1') (by rw[ag _ _ t4.symm];exact p4'),?_⟩
   simp only[go_sem,r12,w1];have ho:∀b k,k≠id1→upd G5 id1 b k=G5 k:=fun b k hk=>ag _ _ hk
   have hs6:∀b,Ab.Sub h (upd G5 id1 b):=fun b=>((vs.trans sG).trans s5).put hg1 b
   refine⟨_,?_,i+1,xs.set i (.agg [.s s.cases[i].id,.s s.cases[i].owner,.s s.cases[i].state,f',l']),(ho _ _ t1.symm).trans p1',(ho _ _ t2.symm).trans (s5 _ _ (sG _ _ vz)),hs6 _,.inr ⟨id1,hg1,cap,rest,af0,ah ..,by rw[List.length_set];exact hr,afT,?_⟩,by rw[List.length_set];exact hn,fun j a b hj hj0=>?_,fun a b hj=>?_,fun j a b hj=>?_,adK,rfl,?_,?_,?_,?_,?_⟩
   ·omega
   ·intro z hz
    exact aiB
   ·have a' :j<xs.length:=by rw[List.length_set]at a;exact a
    by_cases hji:j=i
    ·subst hji
     obtain⟨ef,el⟩:=hne hj0;rw[List.getElem_set_self,ef,el];rfl
    ·rw[List.getElem_set_ne (Ne.symm hji)]
     exact hlo j a' b adK hj0
   ·have a' :i0<xs.length:=by rw[List.length_set]at a;exact a
    by_cases hji:i=i0
    ·subst hji
     obtain⟨of,ol,hap⟩:=heq rfl;have kf:∀k,G4 k=none→upd G5 id1 (some (.obj (au (xs.set i (.agg [.s s.cases[i].id,.s s.cases[i].owner,.s s.cases[i].state,f',l']))++rest) 122)) k=G5 k:=fun k hk=>ag _ _ fun e=>t3 (by rw[←e];exact hk)
     rw[List.getElem_set_self];refine⟨f',l',rfl,(of.less (vs.trans sG)).keep fun k hk=>kf k (of.nid hk).1,(ol.less (vs.trans sG)).keep fun k hk=>kf k (ol.nid hk).1,hap,fun y hy=>?_⟩
     rw[List.mem_singleton.1 hy];have hz1:∀k,nid z1=some k→G4 k≠none:=(v1.sub sG).there fun k hk=>hk
     exact⟨(dX of hz1).symm,(dX ol hz1).symm⟩
    ·rw[List.getElem_set_ne hji]
     have hm:=hmy a' b adK;refine fq.keep (h:=G5) ((hm.sub sG).sub s5) fun f l ex hap k hk=>?_
     refine ag _ _ fun e=>?_
     subst e;rcases hk with hk|hk
     ·exact(hap z1 (List.mem_singleton.2 rfl)).1 _ hk o1.nid
     ·exact(hap z1 (List.mem_singleton.2 rfl)).2 _ hk o1.nid
   ·have a' :j<xs.length:=by rw[List.length_set]at a;exact a
    rw[List.getElem_set_ne adK];exact hhi j a' b adK
   all_goals simp only[go_sem,r1,r2,r10,r11]
  ·have hge:i=s.cases.length:=by have:=adD e;omega
   simp only[go_sem];refine .stage (hm1 i1 (.obj [.i s.tick,z1,y2,y3,y4,.s pid,.b pset,.i palg,aV ptgt,.sl (prules.map aC) .no,.sl (pkids.map aM) .no,aA pobls,.i s.version] 63)) [0,1,3,4,6,7,2,9,5,8] [10,11,12,13,14] (.hm1 q1) adN ?_;simp only[go_sem,r1,gp];refine(wh y2 _ G (h2.sub vs) (by rw[adA];exact hf.reviews)).mono fun z2 G1 ⟨o2,s1⟩=>?_
   refine⟨.hm1 (s1 _ _ q1),?_⟩;simp only[go_sem,r1];refine(wg y3 _ G1 ((h3.sub vs).sub s1) (by rw[adA];exact hf.notices)).mono fun z3 G2 ⟨o3,s2⟩=>?_
   refine⟨.hm1 (s2 _ _ (s1 _ _ q1)),?_⟩;simp only[go_sem];refine(Jb y4 _ G2 (((h4.sub vs).sub s1).sub s2) (by rw[adA];exact hf.roles)).mono fun z4 G3 ⟨o4,s3⟩=>?_
   have s03:Ab.Sub G G3:=s1.trans (s2.trans s3);have q1' :=s03 _ _ q1;have q2' :=s03 _ _ vz;refine⟨.hm1 q1',cH,(fun _ _ e=>ad8),?_⟩
   simp only[go_sem,r1,q1',o2.rd.fit,o2.rd.cells,o3.rd.fit,o3.rd.cells,o4.rd.fit,o4.rd.cells];refine⟨fun _ _ e=>ad8,fun _ _ e=>ad8,fun _ _ e=>ad8,?_⟩
   refine(show ai Tryz.prog 169 [_] _ _ from hpo _).pthen ?_
   have vz' :∀b,upd G3 i1 b i2=some (.obj [.i 0,.sl [] .full,.sl [] .full,.sl [] .full,.sl [] .full,.s [],.b false,.i 0,.sl [] .full,.sl [] .full,.sl [] .full,.sl [] .full,.i 0] 63):=fun b=>by rw[ag _ _ n21];exact q2'
   simp only[go_sem,r1,r2,vz'];have k1:∀ {tb:TypeId} {z:AV} {xs:List AV} {n:Nat} {g:Heap},OwE tb g G3 n z xs→Ab.Sub h g→(∀id,nid z=some id→id≠i1∧id≠i2)→∀a b,OwE tb h (upd (upd G3 i1 a) i2 b) n z xs:=fun w hg hn a b=>(w.less hg).keep fun id e=>by
    rw[ag _ _ (hn id e).2,ag _ _ (hn id e).1]
   have new:∀ {tb:TypeId} {z:AV} {xs:List AV} {n:Nat} {g:Heap},OwE tb g G3 n z xs→Ab.Sub G g→∀id,nid z=some id→id≠i1∧id≠i2:=fun w hg id e=>⟨cK (w.nid e).1 (hg _ _ q1),cK (w.nid e).1 (hg _ _ vz)⟩
   have n2' :=new (o2.sub (s2.trans s3)) (.refl _);have n3' :=new (o3.sub s3) s1;have n4' :=new o4 (s1.trans s2);have n1' :∀id,nid z1=some id→id≠i1∧id≠i2:=fun id e=>⟨hz1 id e,hz2 id e⟩
   have aG:∀k,nid z1=some k→G k≠none:=v1.there fun k hk=>hk
   refine .mk _ (.refl _) (.refl _) ⟨⟨z1,z2,z3,z4,by rw[hpp,hcC];rfl,⟨xs,k1 (v1.sub s03) (.refl _) n1' _ _,hn,fun j a b hj=>hlo j a b adK hj,fun a b=>?_⟩,k1 (o2.sub (s2.trans s3)) vs n2' _ _,k1 (o3.sub s3) (vs.trans s1) n3' _ _,k1 o4 (vs.trans (s1.trans s2)) n4' _ _,?_,?_,?_,?_,?_,?_⟩,((vs.trans s03).put h1 _).put n2 _⟩
   ·have hm:=(hmy a b adK).sub s03
    obtain⟨f,l,ex,of,ol,hap,hy⟩:=hm;obtain⟨af,al⟩:=hy z1 (List.mem_singleton.2 rfl);have kf:∀k,nid f=some k→k≠i1∧k≠i2:=fun k hk=>⟨mg (of.nid hk).2.2 q1' adO,mg (of.nid hk).2.2 q2' adO⟩
    have kl:∀k,nid l=some k→k≠i1∧k≠i2:=fun k hk=>⟨mg (ol.nid hk).2.2 q1' adO,mg (ol.nid hk).2.2 q2' adO⟩
    obtain⟨f0,l0,ex0,of0,ol0,_⟩:=hmy a b adK;obtain⟨rfl,rfl⟩:f0=f∧l0=l:=by
     rw[ex0]at ex;simp only[AV.agg.injEq,List.cons.injEq,true_and,and_true]at ex;exact ex
    have gf:∀k,nid f0=some k→G k≠none:=of0.there fun k hk=>hk
    have gl:∀k,nid l0=some k→G k≠none:=ol0.there fun k hk=>hk
    refine⟨f0,l0,ex,k1 of (.refl _) kf _ _,k1 ol (.refl _) kl _ _,hap,fun y hy=>?_⟩
    simp only[List.mem_cons,List.not_mem_nil,or_false]at hy;rcases hy with rfl|rfl|rfl|rfl
    ·exact⟨af,al⟩
    ·exact⟨dX o2 gf,dX o2 gl⟩
    ·exact⟨dX o3 fun k hk=>s1.some k (gf k hk),dX o3 fun k hk=>s1.some k (gl k hk)⟩
    ·exact⟨dX o4 fun k hk=>(s1.trans s2).some k (gf k hk),dX o4 fun k hk=>(s1.trans s2).some k (gl k hk)⟩
   ·exact dX o2 aG
   ·exact dX o3 fun k hk=>s1.some k (aG k hk)
   ·exact dX o4 fun k hk=>(s1.trans s2).some k (aG k hk)
   ·exact dX o3 (o2.there fun k hk=>hk)
   ·exact dX o4 ((o2.sub s2).there fun k hk=>hk)
   ·exact dX o4 (o3.there fun k hk=>hk)
end Go.Proofs.YtfdgemhnlennbaaGreatDoor
namespace Go.Ab
open Go
theorem pL{A B C X:List AV}{k m:Nat}(hk:k=A.length)(hm:m=X.length)(h:X.length=B.length):(A++(B++C)).take k++X++(A++(B++C)).drop (k+m)=A++(X++C):=by
 grind
theorem HW{A B C X:List AV}{k1 k2 k3 k4:Nat}(h1:k1=A.length+X.length)(h2:k2=k1+B.length)(h3:k3=A.length)(h4:k4=k3+X.length)(hc:X.length≤C.length):
  List.take k3 (List.take k1 (A++(B++C))++B++List.drop k2 (A++(B++C)))++X++List.drop k4 (List.take k1 (A++(B++C))++B++List.drop k2 (A++(B++C)))=A++(X++(B++C.drop X.length)):=by
 subst h1;subst h2;subst h3;subst h4
 have e1:List.take (A.length+X.length) (A++(B++C))=A++List.take X.length (B++C):=adL;have e2:List.drop (A.length+X.length+B.length) (A++(B++C))=C.drop X.length:=by
  grind [Nat.add_assoc,List.drop_drop,List.drop_left,Nat.add_comm]
 rw[e1,e2,List.append_assoc A];have e3:(List.take X.length (B++C)).length=X.length:=by rw[List.length_take,adE];omega
 have e4:A++(List.take X.length (B++C)++B++List.drop X.length C)=A++(List.take X.length (B++C)++(B++C.drop X.length)):=adR;rw[List.append_assoc A,e4];exact pL rfl rfl e3.symm
theorem HX{A Z R X B:List AV}{k1 k2 k3 k4:Nat}(h1:k1=A.length)(h2:k2=k1+X.length)(h3:k3=A.length+X.length)(h4:k4=k3+B.length)(hz:Z.length=X.length+B.length):
  List.take k3 (List.take k1 (A++Z++R)++X++List.drop k2 (A++Z++R))++B++List.drop k4 (List.take k1 (A++Z++R)++X++List.drop k2 (A++Z++R))=A++(X++(B++R)):=by
 subst h1;subst h2;subst h3;subst h4
 obtain⟨Z1,Z2,rfl,e1⟩:∃Z1 Z2,Z=Z1++Z2∧Z1.length=X.length:=⟨Z.take X.length,Z.drop X.length,(List.take_append_drop _ _).symm,adL⟩;have e2:Z2.length=B.length:=adL;have e3:A++(Z1++Z2)++R=A++(Z1++(Z2++R)):=adR;rw[e3,pL rfl rfl e1.symm,←List.append_assoc A X,pL adR rfl e2.symm,List.append_assoc]
end Go.Ab
namespace Go.Proofs.YtfdgemhnlennbaaGreatDoor
open Go Go.Ab Go.Bf
theorem Ki{h:Heap}{v:AV}{id off len cap:Nat}{cs:List AV}{t:TypeId}(hv:v.cells.length=5)(hid:h id=some (.obj cs t))(hcs:cs≠ []):ai Tryz.prog 170 [.sl [v] .full,.ob id off len cap 5] h fun r h' =>r= .b false∧h' =h:=
 wU (U:=U) (tS:=51) (tR:=4) (e:=122) hU Tryz.func170 adV adV adV adN adV adO (by simp only[go_sem];omega) adR hid hcs
theorem Gf(y:AV)(xs:List AV)(v:AV)(i:Nat)(h0 h:Heap)(hw:OwE 122 h0 h 5 y xs)(hs0:Ab.Sub h0 h)(hi:i≤xs.length)(hl:xs.length≤1000000)(hv:v.cells.length=5)(hva:fit v 5):
  ai Tryz.prog 116 [y,.i i,.sl [v] .full] h fun r h' =>OwE 122 h0 h' 5 r (xs.take i++([v]++xs.drop i))∧(∀k,h k≠none→nid y≠some k→h' k=h k)∧∀k,nid r=some k→h k=none∨nid y=some k:=by
 rcases hw with⟨rfl,rfl⟩|⟨id,hg,cap,rest,rfl,hid,hr,hc,hsz⟩
 ·obtain rfl:i=0:=by simpa using hi
  refine adJ Tryz.func116 95 [.tmp 6] fun hwf=>?_
  simp -implicitDefEqProofs only[go_sem];refine⟨adK,adK,hv,.ob adU (kC.ow (xs:=[v]) afI aha rfl fun id y' h' hid hw ho=>?_)⟩
  have hw' :Ow 122 h' 5 id y' [v]:=agM;simp -implicitDefEqProofs only[go_sem];refine .same (.refl _) ⟨.inr ⟨id,hs0.none hid,hw'⟩,fun k hk _=>ho k (fun e=>hk (by rw[e];exact hid)),fun k hk=>?_⟩
  rw[show ax [y']=y' from rfl,hw'.nid]at hk
  cases hk;exact .inl hid
 ·have how:OwE 122 h0 h 5 (.ob id 0 xs.length cap 5) xs:=.inr ⟨id,hg,cap,rest,rfl,hid,hr,hc,hsz⟩
  have hfl:=aZ hsz;refine adJ Tryz.func116 95 [.tmp 6] fun hwf=>?_
  simp -implicitDefEqProofs only[go_sem];refine⟨adK,adK,?_⟩;cases d1:((i:Int)==(xs.length:Int))
  case true=>
   have hin:i=xs.length:=by
    have:(i:Int)=(xs.length:Int):=agK;omega
   simp -implicitDefEqProofs only[go_sem];subst hin;refine⟨adK,?_⟩;refine OwE.app (U:=U) (tb:=122) how hs0 (.sl agz .full:Rd h 5 (.sl [v] .full) [v]) adU adO adP adU adR af7 fun id2 y' h' g2 hor hw ho=>?_
   simp -implicitDefEqProofs only[go_sem];have e1:xs.take xs.length++([v]++xs.drop xs.length)=xs++ [v]:=adR;refine .same (.refl _) ⟨by have:OwE 122 h0 h' 5 y' (xs++ [v]):=.inr ⟨id2,g2,hw⟩;rw[←e1]at this;exact this,fun k hk hk2=>ho k fun e=>?_,fun k hk=>?_⟩
   ·rcases hor with hor|⟨l,c,ey⟩
    ·exact hk ahG
    ·cases ey
     exact hk2 ahy
   ·exact ai5
  have hne:i<xs.length:=by
   have:¬(i:Int)=(xs.length:Int):=agK;omega
  have wn:IntKind.i64.wrap ((xs.length:Int)+1)=((xs.length+1:Nat):Int):=aeg;have wi:=adG i adK;have wm:IntKind.i64.wrap (((xs.length+1:Nat):Int) - (i:Int))=((xs.length+1 - i:Nat):Int):=aeg;have f1:au xs=au (xs.take i)++au (xs.drop i):=ag9;have f2:(au (xs.take i)).length=i*5:=by rw[aZ (sz:=5) fun z hz=>hsz z (List.mem_of_mem_take hz),List.length_take,Nat.min_eq_left hi]
  have f3:(au (xs.drop i)).length=(xs.length - i)*5:=by rw[aZ (sz:=5) fun z hz=>hsz z (List.mem_of_mem_drop hz),List.length_drop]
  have f4:au (xs.take i++([v]++xs.drop i))=au (xs.take i)++(v.cells++au (xs.drop i)):=aha;have f5:Sized 5 (xs.take i++([v]++xs.drop i)):=fun z hz=>by
   exact aiC
  have f6:(xs.take i++([v]++xs.drop i)).length=xs.length+1:=aep;have f6' :(xs.take i++v::xs.drop i).length=xs.length+1:=f6;cases d2:decide ((cap:Int)<((xs.length+1:Nat):Int))
  ·have e2:=adD d2
   simp -implicitDefEqProofs only[go_sem,wn,d2];refine⟨adK,?_⟩;simp -implicitDefEqProofs only[go_sem,wi];have hcs:au xs++rest≠ []:=by
    intro e;have:=congrArg List.length e;rw[adE,hfl]at this;simp at this;omega
   refine⟨adK,adK,adK,adK,adK,adK,?_⟩;refine(Ki hv hid hcs).pthen ?_;simp -implicitDefEqProofs only[go_sem];refine .calls cH [0,1,2,3,4,5,6,7,8] (fun _ _ e=>ad8) adN rfl ?_
   simp -implicitDefEqProofs only[go_sem,wi,hid,Nat.sub_zero];have hmin:min (xs.length+1 - i) (xs.length+1 - (i+1))=xs.length - i:=adK;refine⟨adK,adK,adK,adK,adK,adK,xs.drop i,agr,agf, ?q1,fun z hz=>hsz z (List.mem_of_mem_drop hz),afh,by rw[adE,hfl,hr];omega,ahu,adK,adK,adK,hv,adK, ?ln, ?fin⟩
   case q1=>rw[hmin,f1,List.append_assoc,←f2,List.drop_left,←f3,List.take_left]
   case ln=>simp only[adE,List.length_take,List.length_drop,hfl,hr,f3];omega
   have hrl:(5:Nat)≤rest.length:=by rw[hr];omega
   have hfv:au [v]=v.cells:=aha;have key:=HW (A:=au (xs.take i)) (B:=au (xs.drop i)) (C:=rest) (X:=au [v]) (k1:=(i+1)*5) (k2:=(i+1)*5+(au (xs.drop i)).length) (k3:=i*5) (k4:=i*5+(au [v]).length) ahh rfl f2.symm rfl (by rw[hfv,hv];exact hrl)
   rw[←List.append_assoc (au (xs.take i)) (au (xs.drop i)) rest,←f1]at key;rw[key];have e8:au (xs.take i)++(au [v]++(au (xs.drop i)++rest.drop (au [v]).length))=au (xs.take i++([v]++xs.drop i))++rest.drop 5:=by rw[f4,hfv,hv];simp only[List.append_assoc]
   rw[e8];refine .same (.refl _) ⟨.inr ⟨id,hg,cap,rest.drop 5,by rw[←f6];rfl,ah _ _ _,by rw[List.length_drop,hr,f6'];omega,afm,f5⟩,fun k hk hk2=>ag _ _ fun e=>hk2 ahy,fun k hk=> .inr hk⟩
  ·have e2:=adC d2
   simp -implicitDefEqProofs only[go_sem,wn,d2,wm];refine⟨adK,?_⟩;simp -implicitDefEqProofs only[go_sem,hid];have eA:List.take (i*5) (au xs++rest)=au (xs.take i):=by rw[f1,List.append_assoc,←f2,List.take_left]
   refine⟨adK,adK,adK,adK,adK,adK,by rw[adE,hfl];omega,?_⟩
   rw[Nat.sub_zero,eA];obtain⟨Z,eZ⟩:∃Z,cL (AV.agg [AV.s [],AV.s [],AV.s [],AV.sl [] Perm.full,AV.sl [] Perm.full]) (xs.length+1 - i) 5=Z:=⟨_,rfl⟩;have lZ:Z.length=(xs.length+1 - i)*5:=by rw[←eZ];simp[cL]
   rw[eZ];intro id2 cap2 rest2 hid2 hc2 hr2;have hx:¬id=id2:=fun e=>by rw[e,hid2]at hid;cases hid
   simp -implicitDefEqProofs only[go_sem];have hfv:au [v]=v.cells:=aha;refine⟨adK,adK,adK,hv,adK,afU,?_⟩;refine .calls cH [0,1,2,3,4,5,6,7,8] (fun _ _ e=>ad8) adN rfl ?_
   simp -implicitDefEqProofs only[go_sem,wi,hid,hx,Nat.sub_zero];have hmin:min (xs.length - i) (i+(xs.length+1 - i) - (i+1))=xs.length - i:=adK;have l0:(au (xs.take i)++Z++rest2).length=(i+(xs.length+1 - i))*5+(cap2 - (i+(xs.length+1 - i)))*5:=afU;refine⟨adK,adK,adK,adK,adK,adK,xs.drop i,agr,agf, ?q2,fun z hz=>hsz z (List.mem_of_mem_drop hz),afh, ?lm,ahu, ?fim⟩
   case q2=>rw[hmin,f1,List.append_assoc,←f2,List.drop_left,←f3,List.take_left]
   case lm=>rw[hfv];simp only[adE,List.length_take,List.length_drop,l0,hv];omega
   rw[HX f2.symm rfl ahh rfl (by rw[hfv,hv,lZ,f3];omega)]
   have e8:au (xs.take i)++(au [v]++(au (xs.drop i)++rest2))=au (xs.take i++([v]++xs.drop i))++rest2:=by rw[f4,hfv];simp only[List.append_assoc]
   rw[e8];have e9:i+(xs.length+1 - i)=xs.length+1:=adK;rw[e9]at hr2 hc2⊢;refine .same (.refl _) ⟨.inr ⟨id2,hs0.none hid2,cap2,rest2,by rw[←f6];rfl,ah _ _ _,by rw[hr2,f6'],by rw[f6'];omega,f5⟩,fun k hk hk2=>ag _ _ fun e=>hk (by rw[e];exact hid2),fun k hk=> .inl (by cases hk;exact hid2)⟩
theorem GG{h:Heap}{v:AV}{id off len cap:Nat}{cs:List AV}{t:TypeId}(hv:v.cells.length=4)(hid:h id=some (.obj cs t))(hcs:cs≠ []):ai Tryz.prog 219 [.sl [v] .full,.ob id off len cap 4] h fun r h' =>r= .b false∧h' =h:=
 wU (U:=U) (tS:=119) (tR:=4) (e:=201) hU Tryz.func219 adV adV adV adN adV adO (by simp only[go_sem];omega) adR hid hcs
theorem DS(y:AV)(xs:List AV)(v:AV)(i:Nat)(h0 h:Heap)(hw:OwE 201 h0 h 4 y xs)(hs0:Ab.Sub h0 h)(hi:i≤xs.length)(hl:xs.length≤1000000)(hv:v.cells.length=4)(hva:fit v 4):
  ai Tryz.prog 173 [y,.i i,.sl [v] .full] h fun r h' =>OwE 201 h0 h' 4 r (xs.take i++([v]++xs.drop i))∧(∀k,h k≠none→nid y≠some k→h' k=h k)∧∀k,nid r=some k→h k=none∨nid y=some k:=by
 rcases hw with⟨rfl,rfl⟩|⟨id,hg,cap,rest,rfl,hid,hr,hc,hsz⟩
 ·obtain rfl:i=0:=by simpa using hi
  refine adJ Tryz.func173 95 [.tmp 6] fun hwf=>?_
  simp -implicitDefEqProofs only[go_sem];refine⟨adK,adK,hv,.ob adU (kC.ow (xs:=[v]) afI aha rfl fun id y' h' hid hw ho=>?_)⟩
  have hw' :Ow 201 h' 4 id y' [v]:=agM;simp -implicitDefEqProofs only[go_sem];refine .same (.refl _) ⟨.inr ⟨id,hs0.none hid,hw'⟩,fun k hk _=>ho k (fun e=>hk (by rw[e];exact hid)),fun k hk=>?_⟩
  rw[show ax [y']=y' from rfl,hw'.nid]at hk
  cases hk;exact .inl hid
 ·have how:OwE 201 h0 h 4 (.ob id 0 xs.length cap 4) xs:=.inr ⟨id,hg,cap,rest,rfl,hid,hr,hc,hsz⟩
  have hfl:=aZ hsz;refine adJ Tryz.func173 95 [.tmp 6] fun hwf=>?_
  simp -implicitDefEqProofs only[go_sem];refine⟨adK,adK,?_⟩;cases d1:((i:Int)==(xs.length:Int))
  case true=>
   have hin:i=xs.length:=by
    have:(i:Int)=(xs.length:Int):=agK;omega
   simp -implicitDefEqProofs only[go_sem];subst hin;refine⟨adK,?_⟩;refine OwE.app (U:=U) (tb:=201) how hs0 (.sl agz .full:Rd h 4 (.sl [v] .full) [v]) adU adO adP adU adR af7 fun id2 y' h' g2 hor hw ho=>?_
   simp -implicitDefEqProofs only[go_sem];have e1:xs.take xs.length++([v]++xs.drop xs.length)=xs++ [v]:=adR;refine .same (.refl _) ⟨by have:OwE 201 h0 h' 4 y' (xs++ [v]):=.inr ⟨id2,g2,hw⟩;rw[←e1]at this;exact this,fun k hk hk2=>ho k fun e=>?_,fun k hk=>?_⟩
   ·rcases hor with hor|⟨l,c,ey⟩
    ·exact hk ahG
    ·cases ey
     exact hk2 ahy
   ·exact ai5
  have hne:i<xs.length:=by
   have:¬(i:Int)=(xs.length:Int):=agK;omega
  have wn:IntKind.i64.wrap ((xs.length:Int)+1)=((xs.length+1:Nat):Int):=aeg;have wi:=adG i adK;have wm:IntKind.i64.wrap (((xs.length+1:Nat):Int) - (i:Int))=((xs.length+1 - i:Nat):Int):=aeg;have f1:au xs=au (xs.take i)++au (xs.drop i):=ag9;have f2:(au (xs.take i)).length=i*4:=by rw[aZ (sz:=4) fun z hz=>hsz z (List.mem_of_mem_take hz),List.length_take,Nat.min_eq_left hi]
  have f3:(au (xs.drop i)).length=(xs.length - i)*4:=by rw[aZ (sz:=4) fun z hz=>hsz z (List.mem_of_mem_drop hz),List.length_drop]
  have f4:au (xs.take i++([v]++xs.drop i))=au (xs.take i)++(v.cells++au (xs.drop i)):=aha;have f5:Sized 4 (xs.take i++([v]++xs.drop i)):=fun z hz=>by
   exact aiC
  have f6:(xs.take i++([v]++xs.drop i)).length=xs.length+1:=aep;have f6' :(xs.take i++v::xs.drop i).length=xs.length+1:=f6;cases d2:decide ((cap:Int)<((xs.length+1:Nat):Int))
  ·have e2:=adD d2
   simp -implicitDefEqProofs only[go_sem,wn,d2];refine⟨adK,?_⟩;simp -implicitDefEqProofs only[go_sem,wi];have hcs:au xs++rest≠ []:=by
    intro e;have:=congrArg List.length e;rw[adE,hfl]at this;simp at this;omega
   refine⟨adK,adK,adK,adK,adK,adK,?_⟩;refine(GG hv hid hcs).pthen ?_;simp -implicitDefEqProofs only[go_sem];refine .calls cH [0,1,2,3,4,5,6,7,8] (fun _ _ e=>ad8) adN rfl ?_
   simp -implicitDefEqProofs only[go_sem,wi,hid,Nat.sub_zero];have hmin:min (xs.length+1 - i) (xs.length+1 - (i+1))=xs.length - i:=adK;refine⟨adK,adK,adK,adK,adK,adK,xs.drop i,agr,agf, ?q1,fun z hz=>hsz z (List.mem_of_mem_drop hz),afh,by rw[adE,hfl,hr];omega,ahu,adK,adK,adK,hv,adK, ?ln, ?fin⟩
   case q1=>rw[hmin,f1,List.append_assoc,←f2,List.drop_left,←f3,List.take_left]
   case ln=>simp only[adE,List.length_take,List.length_drop,hfl,hr,f3];omega
   have hrl:(4:Nat)≤rest.length:=by rw[hr];omega
   have hfv:au [v]=v.cells:=aha;have key:=HW (A:=au (xs.take i)) (B:=au (xs.drop i)) (C:=rest) (X:=au [v]) (k1:=(i+1)*4) (k2:=(i+1)*4+(au (xs.drop i)).length) (k3:=i*4) (k4:=i*4+(au [v]).length) ahh rfl f2.symm rfl (by rw[hfv,hv];exact hrl)
   rw[←List.append_assoc (au (xs.take i)) (au (xs.drop i)) rest,←f1]at key;rw[key];have e8:au (xs.take i)++(au [v]++(au (xs.drop i)++rest.drop (au [v]).length))=au (xs.take i++([v]++xs.drop i))++rest.drop 4:=by rw[f4,hfv,hv];simp only[List.append_assoc]
   rw[e8];refine .same (.refl _) ⟨.inr ⟨id,hg,cap,rest.drop 4,by rw[←f6];rfl,ah _ _ _,by rw[List.length_drop,hr,f6'];omega,afm,f5⟩,fun k hk hk2=>ag _ _ fun e=>hk2 ahy,fun k hk=> .inr hk⟩
  ·have e2:=adC d2
   simp -implicitDefEqProofs only[go_sem,wn,d2,wm];refine⟨adK,?_⟩;simp -implicitDefEqProofs only[go_sem,hid];have eA:List.take (i*4) (au xs++rest)=au (xs.take i):=by rw[f1,List.append_assoc,←f2,List.take_left]
   refine⟨adK,adK,adK,adK,adK,adK,by rw[adE,hfl];omega,?_⟩
   rw[Nat.sub_zero,eA];obtain⟨Z,eZ⟩:∃Z,cL (AV.agg [AV.s [],AV.v (Value.int IntKind.i64 0),AV.v (Value.int IntKind.i64 0),AV.s []]) (xs.length+1 - i) 4=Z:=⟨_,rfl⟩;have lZ:Z.length=(xs.length+1 - i)*4:=by rw[←eZ];simp[cL]
   rw[eZ];intro id2 cap2 rest2 hid2 hc2 hr2;have hx:¬id=id2:=fun e=>by rw[e,hid2]at hid;cases hid
   simp -implicitDefEqProofs only[go_sem];have hfv:au [v]=v.cells:=aha;refine⟨adK,adK,adK,hv,adK,afU,?_⟩;refine .calls cH [0,1,2,3,4,5,6,7,8] (fun _ _ e=>ad8) adN rfl ?_
   simp -implicitDefEqProofs only[go_sem,wi,hid,hx,Nat.sub_zero];have hmin:min (xs.length - i) (i+(xs.length+1 - i) - (i+1))=xs.length - i:=adK;have l0:(au (xs.take i)++Z++rest2).length=(i+(xs.length+1 - i))*4+(cap2 - (i+(xs.length+1 - i)))*4:=afU;refine⟨adK,adK,adK,adK,adK,adK,xs.drop i,agr,agf, ?q2,fun z hz=>hsz z (List.mem_of_mem_drop hz),afh, ?lm,ahu, ?fim⟩
   case q2=>rw[hmin,f1,List.append_assoc,←f2,List.drop_left,←f3,List.take_left]
   case lm=>rw[hfv];simp only[adE,List.length_take,List.length_drop,l0,hv];omega
   rw[HX f2.symm rfl ahh rfl (by rw[hfv,hv,lZ,f3];omega)]
   have e8:au (xs.take i)++(au [v]++(au (xs.drop i)++rest2))=au (xs.take i++([v]++xs.drop i))++rest2:=by rw[f4,hfv];simp only[List.append_assoc]
   rw[e8];have e9:i+(xs.length+1 - i)=xs.length+1:=adK;rw[e9]at hr2 hc2⊢;refine .same (.refl _) ⟨.inr ⟨id2,hs0.none hid2,cap2,rest2,by rw[←f6];rfl,ah _ _ _,by rw[hr2,f6'],by rw[f6'];omega,f5⟩,fun k hk hk2=>ag _ _ fun e=>hk (by rw[e];exact hid2),fun k hk=> .inl (by cases hk;exact hid2)⟩
end Go.Proofs.YtfdgemhnlennbaaGreatDoor
